/- Contracts of the functions that the statement reaches. No condition. -/
import Derived.Test.YtlkcohidkhbipaaGreatTM0
set_option linter.all false
set_option maxRecDepth 100000
namespace Go.AM.FK
open Go.AM Go.AM.TOP
theorem mg4_1_t : cc mgC callT (KQ 6) (frP (mgL 4 1 true)) .e 0 = true := by kernel_rfl
theorem mg4_1_f : cc mgC callT (KQ 6) (frP (mgL 4 1 false)) .e 0 = true := by kernel_rfl
theorem mg4_2_t : cc mgC callT (KQ 6) (frP (mgL 4 2 true)) .e 0 = true := by kernel_rfl
theorem mg4_2_f : cc mgC callT (KQ 6) (frP (mgL 4 2 false)) .e 0 = true := by kernel_rfl
theorem mg4_3_t : cc mgC callT (KQ 6) (frP (mgL 4 3 true)) .e 0 = true := by kernel_rfl
theorem mg4_3_f : cc mgC callT (KQ 6) (frP (mgL 4 3 false)) .e 0 = true := by kernel_rfl
theorem mg4_4_t : cc mgC callT (KQ 6) (frP (mgL 4 4 true)) .e 0 = true := by kernel_rfl
theorem mg4_4_f : cc mgC callT (KQ 6) (frP (mgL 4 4 false)) .e 0 = true := by kernel_rfl
theorem mg4_5_t : cc mgC callT (KQ 6) (frP (mgL 4 5 true)) .e 0 = true := by kernel_rfl
theorem mg4_5_f : cc mgC callT (KQ 6) (frP (mgL 4 5 false)) .e 0 = true := by kernel_rfl
theorem mg4_6_t : cc mgC callT (KQ 6) (frP (mgL 4 6 true)) .e 0 = true := by kernel_rfl
theorem mg4_6_f : cc mgC callT (KQ 6) (frP (mgL 4 6 false)) .e 0 = true := by kernel_rfl
theorem mg4_7_t : cc mgC callT (KQ 6) (frP (mgL 4 7 true)) .e 0 = true := by kernel_rfl
theorem mg4_7_f : cc mgC callT (KQ 6) (frP (mgL 4 7 false)) .e 0 = true := by kernel_rfl
theorem mg4_8_t : cc mgC callT (KQ 6) (frP (mgL 4 8 true)) .e 0 = true := by kernel_rfl
theorem mg4_8_f : cc mgC callT (KQ 6) (frP (mgL 4 8 false)) .e 0 = true := by kernel_rfl
theorem mg4_9_t : cc mgC callT (KQ 6) (frP (mgL 4 9 true)) .e 0 = true := by kernel_rfl
theorem mg4_9_f : cc mgC callT (KQ 6) (frP (mgL 4 9 false)) .e 0 = true := by kernel_rfl
theorem mg4_10_t : cc mgC callT (KQ 6) (frP (mgL 4 10 true)) .e 0 = true := by kernel_rfl
theorem mg4_10_f : cc mgC callT (KQ 6) (frP (mgL 4 10 false)) .e 0 = true := by kernel_rfl
theorem mgA4 (b : Int) (h : 1 ≤ b ∧ b ≤ 10) (l : Bool) : cc mgC callT (KQ 6) (frP (mgL 4 b l)) .e 0 = true := by
 have hc : b = 1 ∨ b = 2 ∨ b = 3 ∨ b = 4 ∨ b = 5 ∨ b = 6 ∨ b = 7 ∨ b = 8 ∨ b = 9 ∨ b = 10 := by omega
 rcases hc with hc | hc | hc | hc | hc | hc | hc | hc | hc | hc <;> subst hc <;> cases l
 ·exact mg4_1_f
 ·exact mg4_1_t
 ·exact mg4_2_f
 ·exact mg4_2_t
 ·exact mg4_3_f
 ·exact mg4_3_t
 ·exact mg4_4_f
 ·exact mg4_4_t
 ·exact mg4_5_f
 ·exact mg4_5_t
 ·exact mg4_6_f
 ·exact mg4_6_t
 ·exact mg4_7_f
 ·exact mg4_7_t
 ·exact mg4_8_f
 ·exact mg4_8_t
 ·exact mg4_9_f
 ·exact mg4_9_t
 ·exact mg4_10_f
 ·exact mg4_10_t
end Go.AM.FK
