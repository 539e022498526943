/- Contracts of the functions that the statement reaches. No condition. -/
import Derived.Test.YtlkcohidkhbipaaGreatTM0
set_option linter.all false
set_option maxRecDepth 100000
namespace Go.AM.FK
open Go.AM Go.AM.TOP
theorem mg5_1_t : cc mgC callT (KQ 6) (frP (mgL 5 1 true)) .e 0 = true := by kernel_rfl
theorem mg5_1_f : cc mgC callT (KQ 6) (frP (mgL 5 1 false)) .e 0 = true := by kernel_rfl
theorem mg5_2_t : cc mgC callT (KQ 6) (frP (mgL 5 2 true)) .e 0 = true := by kernel_rfl
theorem mg5_2_f : cc mgC callT (KQ 6) (frP (mgL 5 2 false)) .e 0 = true := by kernel_rfl
theorem mg5_3_t : cc mgC callT (KQ 6) (frP (mgL 5 3 true)) .e 0 = true := by kernel_rfl
theorem mg5_3_f : cc mgC callT (KQ 6) (frP (mgL 5 3 false)) .e 0 = true := by kernel_rfl
theorem mg5_4_t : cc mgC callT (KQ 6) (frP (mgL 5 4 true)) .e 0 = true := by kernel_rfl
theorem mg5_4_f : cc mgC callT (KQ 6) (frP (mgL 5 4 false)) .e 0 = true := by kernel_rfl
theorem mg5_5_t : cc mgC callT (KQ 6) (frP (mgL 5 5 true)) .e 0 = true := by kernel_rfl
theorem mg5_5_f : cc mgC callT (KQ 6) (frP (mgL 5 5 false)) .e 0 = true := by kernel_rfl
theorem mg5_6_t : cc mgC callT (KQ 6) (frP (mgL 5 6 true)) .e 0 = true := by kernel_rfl
theorem mg5_6_f : cc mgC callT (KQ 6) (frP (mgL 5 6 false)) .e 0 = true := by kernel_rfl
theorem mg5_7_t : cc mgC callT (KQ 6) (frP (mgL 5 7 true)) .e 0 = true := by kernel_rfl
theorem mg5_7_f : cc mgC callT (KQ 6) (frP (mgL 5 7 false)) .e 0 = true := by kernel_rfl
theorem mg5_8_t : cc mgC callT (KQ 6) (frP (mgL 5 8 true)) .e 0 = true := by kernel_rfl
theorem mg5_8_f : cc mgC callT (KQ 6) (frP (mgL 5 8 false)) .e 0 = true := by kernel_rfl
theorem mg5_9_t : cc mgC callT (KQ 6) (frP (mgL 5 9 true)) .e 0 = true := by kernel_rfl
theorem mg5_9_f : cc mgC callT (KQ 6) (frP (mgL 5 9 false)) .e 0 = true := by kernel_rfl
theorem mg5_10_t : cc mgC callT (KQ 6) (frP (mgL 5 10 true)) .e 0 = true := by kernel_rfl
theorem mg5_10_f : cc mgC callT (KQ 6) (frP (mgL 5 10 false)) .e 0 = true := by kernel_rfl
theorem mgA5 (b : Int) (h : 1 ≤ b ∧ b ≤ 10) (l : Bool) : cc mgC callT (KQ 6) (frP (mgL 5 b l)) .e 0 = true := by
 have hc : b = 1 ∨ b = 2 ∨ b = 3 ∨ b = 4 ∨ b = 5 ∨ b = 6 ∨ b = 7 ∨ b = 8 ∨ b = 9 ∨ b = 10 := by omega
 rcases hc with hc | hc | hc | hc | hc | hc | hc | hc | hc | hc <;> subst hc <;> cases l
 ·exact mg5_1_f
 ·exact mg5_1_t
 ·exact mg5_2_f
 ·exact mg5_2_t
 ·exact mg5_3_f
 ·exact mg5_3_t
 ·exact mg5_4_f
 ·exact mg5_4_t
 ·exact mg5_5_f
 ·exact mg5_5_t
 ·exact mg5_6_f
 ·exact mg5_6_t
 ·exact mg5_7_f
 ·exact mg5_7_t
 ·exact mg5_8_f
 ·exact mg5_8_t
 ·exact mg5_9_f
 ·exact mg5_9_t
 ·exact mg5_10_f
 ·exact mg5_10_t
end Go.AM.FK
