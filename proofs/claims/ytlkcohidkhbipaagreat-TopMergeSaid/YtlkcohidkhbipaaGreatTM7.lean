/- Contracts of the functions that the statement reaches. No condition. -/
import Derived.Test.YtlkcohidkhbipaaGreatTM0
set_option linter.all false
set_option maxRecDepth 100000
namespace Go.AM.FK
open Go.AM Go.AM.TOP
theorem mg7_1_t : cc mgC callT (KQ 6) (frP (mgL 7 1 true)) .e 0 = true := by kernel_rfl
theorem mg7_1_f : cc mgC callT (KQ 6) (frP (mgL 7 1 false)) .e 0 = true := by kernel_rfl
theorem mg7_2_t : cc mgC callT (KQ 6) (frP (mgL 7 2 true)) .e 0 = true := by kernel_rfl
theorem mg7_2_f : cc mgC callT (KQ 6) (frP (mgL 7 2 false)) .e 0 = true := by kernel_rfl
theorem mg7_3_t : cc mgC callT (KQ 6) (frP (mgL 7 3 true)) .e 0 = true := by kernel_rfl
theorem mg7_3_f : cc mgC callT (KQ 6) (frP (mgL 7 3 false)) .e 0 = true := by kernel_rfl
theorem mg7_4_t : cc mgC callT (KQ 6) (frP (mgL 7 4 true)) .e 0 = true := by kernel_rfl
theorem mg7_4_f : cc mgC callT (KQ 6) (frP (mgL 7 4 false)) .e 0 = true := by kernel_rfl
theorem mg7_5_t : cc mgC callT (KQ 6) (frP (mgL 7 5 true)) .e 0 = true := by kernel_rfl
theorem mg7_5_f : cc mgC callT (KQ 6) (frP (mgL 7 5 false)) .e 0 = true := by kernel_rfl
theorem mg7_6_t : cc mgC callT (KQ 6) (frP (mgL 7 6 true)) .e 0 = true := by kernel_rfl
theorem mg7_6_f : cc mgC callT (KQ 6) (frP (mgL 7 6 false)) .e 0 = true := by kernel_rfl
theorem mg7_7_t : cc mgC callT (KQ 6) (frP (mgL 7 7 true)) .e 0 = true := by kernel_rfl
theorem mg7_7_f : cc mgC callT (KQ 6) (frP (mgL 7 7 false)) .e 0 = true := by kernel_rfl
theorem mg7_8_t : cc mgC callT (KQ 6) (frP (mgL 7 8 true)) .e 0 = true := by kernel_rfl
theorem mg7_8_f : cc mgC callT (KQ 6) (frP (mgL 7 8 false)) .e 0 = true := by kernel_rfl
theorem mg7_9_t : cc mgC callT (KQ 6) (frP (mgL 7 9 true)) .e 0 = true := by kernel_rfl
theorem mg7_9_f : cc mgC callT (KQ 6) (frP (mgL 7 9 false)) .e 0 = true := by kernel_rfl
theorem mg7_10_t : cc mgC callT (KQ 6) (frP (mgL 7 10 true)) .e 0 = true := by kernel_rfl
theorem mg7_10_f : cc mgC callT (KQ 6) (frP (mgL 7 10 false)) .e 0 = true := by kernel_rfl
theorem mgA7 (b : Int) (h : 1 ≤ b ∧ b ≤ 10) (l : Bool) : cc mgC callT (KQ 6) (frP (mgL 7 b l)) .e 0 = true := by
 have hc : b = 1 ∨ b = 2 ∨ b = 3 ∨ b = 4 ∨ b = 5 ∨ b = 6 ∨ b = 7 ∨ b = 8 ∨ b = 9 ∨ b = 10 := by omega
 rcases hc with hc | hc | hc | hc | hc | hc | hc | hc | hc | hc <;> subst hc <;> cases l
 ·exact mg7_1_f
 ·exact mg7_1_t
 ·exact mg7_2_f
 ·exact mg7_2_t
 ·exact mg7_3_f
 ·exact mg7_3_t
 ·exact mg7_4_f
 ·exact mg7_4_t
 ·exact mg7_5_f
 ·exact mg7_5_t
 ·exact mg7_6_f
 ·exact mg7_6_t
 ·exact mg7_7_f
 ·exact mg7_7_t
 ·exact mg7_8_f
 ·exact mg7_8_t
 ·exact mg7_9_f
 ·exact mg7_9_t
 ·exact mg7_10_f
 ·exact mg7_10_t
end Go.AM.FK
