/- Contracts of the functions that the statement reaches. No condition. -/
import Derived.Test.YtlkcohidkhbipaaGreatTM0
set_option linter.all false
set_option maxRecDepth 100000
namespace Go.AM.FK
open Go.AM Go.AM.TOP
theorem mg1_1_t : cc mgC callT (KQ 6) (frP (mgL 1 1 true)) .e 0 = true := by kernel_rfl
theorem mg1_1_f : cc mgC callT (KQ 6) (frP (mgL 1 1 false)) .e 0 = true := by kernel_rfl
theorem mg1_2_t : cc mgC callT (KQ 6) (frP (mgL 1 2 true)) .e 0 = true := by kernel_rfl
theorem mg1_2_f : cc mgC callT (KQ 6) (frP (mgL 1 2 false)) .e 0 = true := by kernel_rfl
theorem mg1_3_t : cc mgC callT (KQ 6) (frP (mgL 1 3 true)) .e 0 = true := by kernel_rfl
theorem mg1_3_f : cc mgC callT (KQ 6) (frP (mgL 1 3 false)) .e 0 = true := by kernel_rfl
theorem mg1_4_t : cc mgC callT (KQ 6) (frP (mgL 1 4 true)) .e 0 = true := by kernel_rfl
theorem mg1_4_f : cc mgC callT (KQ 6) (frP (mgL 1 4 false)) .e 0 = true := by kernel_rfl
theorem mg1_5_t : cc mgC callT (KQ 6) (frP (mgL 1 5 true)) .e 0 = true := by kernel_rfl
theorem mg1_5_f : cc mgC callT (KQ 6) (frP (mgL 1 5 false)) .e 0 = true := by kernel_rfl
theorem mg1_6_t : cc mgC callT (KQ 6) (frP (mgL 1 6 true)) .e 0 = true := by kernel_rfl
theorem mg1_6_f : cc mgC callT (KQ 6) (frP (mgL 1 6 false)) .e 0 = true := by kernel_rfl
theorem mg1_7_t : cc mgC callT (KQ 6) (frP (mgL 1 7 true)) .e 0 = true := by kernel_rfl
theorem mg1_7_f : cc mgC callT (KQ 6) (frP (mgL 1 7 false)) .e 0 = true := by kernel_rfl
theorem mg1_8_t : cc mgC callT (KQ 6) (frP (mgL 1 8 true)) .e 0 = true := by kernel_rfl
theorem mg1_8_f : cc mgC callT (KQ 6) (frP (mgL 1 8 false)) .e 0 = true := by kernel_rfl
theorem mg1_9_t : cc mgC callT (KQ 6) (frP (mgL 1 9 true)) .e 0 = true := by kernel_rfl
theorem mg1_9_f : cc mgC callT (KQ 6) (frP (mgL 1 9 false)) .e 0 = true := by kernel_rfl
theorem mg1_10_t : cc mgC callT (KQ 6) (frP (mgL 1 10 true)) .e 0 = true := by kernel_rfl
theorem mg1_10_f : cc mgC callT (KQ 6) (frP (mgL 1 10 false)) .e 0 = true := by kernel_rfl
theorem mgA1 (b : Int) (h : 1 ≤ b ∧ b ≤ 10) (l : Bool) : cc mgC callT (KQ 6) (frP (mgL 1 b l)) .e 0 = true := by
 have hc : b = 1 ∨ b = 2 ∨ b = 3 ∨ b = 4 ∨ b = 5 ∨ b = 6 ∨ b = 7 ∨ b = 8 ∨ b = 9 ∨ b = 10 := by omega
 rcases hc with hc | hc | hc | hc | hc | hc | hc | hc | hc | hc <;> subst hc <;> cases l
 ·exact mg1_1_f
 ·exact mg1_1_t
 ·exact mg1_2_f
 ·exact mg1_2_t
 ·exact mg1_3_f
 ·exact mg1_3_t
 ·exact mg1_4_f
 ·exact mg1_4_t
 ·exact mg1_5_f
 ·exact mg1_5_t
 ·exact mg1_6_f
 ·exact mg1_6_t
 ·exact mg1_7_f
 ·exact mg1_7_t
 ·exact mg1_8_f
 ·exact mg1_8_t
 ·exact mg1_9_f
 ·exact mg1_9_t
 ·exact mg1_10_f
 ·exact mg1_10_t
end Go.AM.FK
