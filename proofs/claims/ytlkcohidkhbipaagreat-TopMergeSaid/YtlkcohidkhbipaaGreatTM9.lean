/- Contracts of the functions that the statement reaches. No condition. -/
import Derived.Test.YtlkcohidkhbipaaGreatTM0
set_option linter.all false
set_option maxRecDepth 100000
namespace Go.AM.FK
open Go.AM Go.AM.TOP
theorem mg9_1_t : cc mgC callT (KQ 6) (frP (mgL 9 1 true)) .e 0 = true := by kernel_rfl
theorem mg9_1_f : cc mgC callT (KQ 6) (frP (mgL 9 1 false)) .e 0 = true := by kernel_rfl
theorem mg9_2_t : cc mgC callT (KQ 6) (frP (mgL 9 2 true)) .e 0 = true := by kernel_rfl
theorem mg9_2_f : cc mgC callT (KQ 6) (frP (mgL 9 2 false)) .e 0 = true := by kernel_rfl
theorem mg9_3_t : cc mgC callT (KQ 6) (frP (mgL 9 3 true)) .e 0 = true := by kernel_rfl
theorem mg9_3_f : cc mgC callT (KQ 6) (frP (mgL 9 3 false)) .e 0 = true := by kernel_rfl
theorem mg9_4_t : cc mgC callT (KQ 6) (frP (mgL 9 4 true)) .e 0 = true := by kernel_rfl
theorem mg9_4_f : cc mgC callT (KQ 6) (frP (mgL 9 4 false)) .e 0 = true := by kernel_rfl
theorem mg9_5_t : cc mgC callT (KQ 6) (frP (mgL 9 5 true)) .e 0 = true := by kernel_rfl
theorem mg9_5_f : cc mgC callT (KQ 6) (frP (mgL 9 5 false)) .e 0 = true := by kernel_rfl
theorem mg9_6_t : cc mgC callT (KQ 6) (frP (mgL 9 6 true)) .e 0 = true := by kernel_rfl
theorem mg9_6_f : cc mgC callT (KQ 6) (frP (mgL 9 6 false)) .e 0 = true := by kernel_rfl
theorem mg9_7_t : cc mgC callT (KQ 6) (frP (mgL 9 7 true)) .e 0 = true := by kernel_rfl
theorem mg9_7_f : cc mgC callT (KQ 6) (frP (mgL 9 7 false)) .e 0 = true := by kernel_rfl
theorem mg9_8_t : cc mgC callT (KQ 6) (frP (mgL 9 8 true)) .e 0 = true := by kernel_rfl
theorem mg9_8_f : cc mgC callT (KQ 6) (frP (mgL 9 8 false)) .e 0 = true := by kernel_rfl
theorem mg9_9_t : cc mgC callT (KQ 6) (frP (mgL 9 9 true)) .e 0 = true := by kernel_rfl
theorem mg9_9_f : cc mgC callT (KQ 6) (frP (mgL 9 9 false)) .e 0 = true := by kernel_rfl
theorem mg9_10_t : cc mgC callT (KQ 6) (frP (mgL 9 10 true)) .e 0 = true := by kernel_rfl
theorem mg9_10_f : cc mgC callT (KQ 6) (frP (mgL 9 10 false)) .e 0 = true := by kernel_rfl
theorem mgA9 (b : Int) (h : 1 ≤ b ∧ b ≤ 10) (l : Bool) : cc mgC callT (KQ 6) (frP (mgL 9 b l)) .e 0 = true := by
 have hc : b = 1 ∨ b = 2 ∨ b = 3 ∨ b = 4 ∨ b = 5 ∨ b = 6 ∨ b = 7 ∨ b = 8 ∨ b = 9 ∨ b = 10 := by omega
 rcases hc with hc | hc | hc | hc | hc | hc | hc | hc | hc | hc <;> subst hc <;> cases l
 ·exact mg9_1_f
 ·exact mg9_1_t
 ·exact mg9_2_f
 ·exact mg9_2_t
 ·exact mg9_3_f
 ·exact mg9_3_t
 ·exact mg9_4_f
 ·exact mg9_4_t
 ·exact mg9_5_f
 ·exact mg9_5_t
 ·exact mg9_6_f
 ·exact mg9_6_t
 ·exact mg9_7_f
 ·exact mg9_7_t
 ·exact mg9_8_f
 ·exact mg9_8_t
 ·exact mg9_9_f
 ·exact mg9_9_t
 ·exact mg9_10_f
 ·exact mg9_10_t
end Go.AM.FK
