/- Contracts of the functions that the statement reaches. No condition. -/
import Derived.Test.YtlkcohidkhbipaaGreatRST1
import Derived.Test.YtlkcohidkhbipaaGreatRST2
import Derived.Test.YtlkcohidkhbipaaGreatRST3
import Derived.Test.YtlkcohidkhbipaaGreatRST4
import Derived.Test.YtlkcohidkhbipaaGreatRST5
import Derived.Test.YtlkcohidkhbipaaGreatRST6
import Derived.Test.YtlkcohidkhbipaaGreatRST7
import Derived.Test.YtlkcohidkhbipaaGreatRST8
import Derived.Test.YtlkcohidkhbipaaGreatRST9
import Derived.Test.YtlkcohidkhbipaaGreatRST10
import Derived.Test.YtlkcohidkhbipaaGreatRST11
import Derived.Test.YtlkcohidkhbipaaGreatRST12
import Derived.Test.YtlkcohidkhbipaaGreatRST13
import Derived.Test.YtlkcohidkhbipaaGreatRST14
import Derived.Test.YtlkcohidkhbipaaGreatT1
set_option linter.all false
set_option maxRecDepth 100000
namespace Go.AM.FK
open Go.AM Go.AM.TOP Go.AM.PL
theorem topRestart_ok (n : Int) (l : Bool) (ha : -2 ^ 63 ≤ n ∧ n < 2 ^ 63) : WpCallG A 14 [.v (.int .i64 n), .v (.bool l)] [] (fun v H => v = .v (.bool true) ∧ H = []) := by
 refine WpCallG.intro g14 rfl rfl ?_
 change WpG _ (.seq (.reg 0 false [⟨some 4, .mv (.c (.v (.bool false))), none⟩]) (.seq (.reg 1 false [⟨some 14, .mv (.t 0), none⟩, ⟨some 15, .call 15 [.t 14, .c (.v (.int .i64 0)), .c (.v (.int .i64 20))], none⟩, ⟨some 16, .bin .add (.c (.v (.int .i64 1))) (.t 15), none⟩, ⟨some 5, .mv (.t 16), none⟩]) (seqs rst1 rst2))) _ _ _
 have hw := within_rng n 0 20 (by omega)
 refine WpG.seq ?_
 refine WpG.reg ?_
 refine G.mv rfl ?_
 refine WpOpsG.nil ?_
 change WpG _ _ _ _ _
 refine WpG.seq ?_
 refine WpG.reg ?_
 refine G.mv rfl ?_
 refine G.call0 rfl rfl (within_ok n 0 20 ha (by decide) (by decide) (by decide)) ?_
 rintro _ _ ⟨rfl, rfl⟩
 refine ⟨rfl, ?_⟩
 change WpOpsG _ _ ((15, _) :: _) _ _
 refine G.addI rfl rfl (by omega) ?_
 refine G.mv rfl ?_
 refine WpOpsG.nil ?_
 change WpG _ _ _ _ _
 have hc : within n 0 20 = 0 ∨ within n 0 20 = 1 ∨ within n 0 20 = 2 ∨ within n 0 20 = 3 ∨ within n 0 20 = 4 ∨ within n 0 20 = 5 ∨ within n 0 20 = 6 ∨ within n 0 20 = 7 ∨ within n 0 20 = 8 ∨ within n 0 20 = 9 ∨ within n 0 20 = 10 ∨ within n 0 20 = 11 ∨ within n 0 20 = 12 ∨ within n 0 20 = 13 ∨ within n 0 20 = 14 ∨ within n 0 20 = 15 ∨ within n 0 20 = 16 ∨ within n 0 20 = 17 ∨ within n 0 20 = 18 ∨ within n 0 20 = 19 ∨ within n 0 20 = 20 := by omega
 rcases hc with hc | hc | hc | hc | hc | hc | hc | hc | hc | hc | hc | hc | hc | hc | hc | hc | hc | hc | hc | hc | hc <;> cases l
 ·exact rstG0_false ⟨rfl, by rw [hc]; rfl, trivial⟩ ⟨_, [], rfl, (hasP_le (by repeat (first | exact trivial | refine ⟨rfl, ?_⟩))), rfl, rfl, rfl, rfl, rfl⟩
 ·exact rstG0_true ⟨rfl, by rw [hc]; rfl, trivial⟩ ⟨_, [], rfl, (hasP_le (by repeat (first | exact trivial | refine ⟨rfl, ?_⟩))), rfl, rfl, rfl, rfl, rfl⟩
 ·exact rstG1_false ⟨rfl, by rw [hc]; rfl, trivial⟩ ⟨_, [], rfl, (hasP_le (by repeat (first | exact trivial | refine ⟨rfl, ?_⟩))), rfl, rfl, rfl, rfl, rfl⟩
 ·exact rstG1_true ⟨rfl, by rw [hc]; rfl, trivial⟩ ⟨_, [], rfl, (hasP_le (by repeat (first | exact trivial | refine ⟨rfl, ?_⟩))), rfl, rfl, rfl, rfl, rfl⟩
 ·exact rstG2_false ⟨rfl, by rw [hc]; rfl, trivial⟩ ⟨_, [], rfl, (hasP_le (by repeat (first | exact trivial | refine ⟨rfl, ?_⟩))), rfl, rfl, rfl, rfl, rfl⟩
 ·exact rstG2_true ⟨rfl, by rw [hc]; rfl, trivial⟩ ⟨_, [], rfl, (hasP_le (by repeat (first | exact trivial | refine ⟨rfl, ?_⟩))), rfl, rfl, rfl, rfl, rfl⟩
 ·exact rstG3_false ⟨rfl, by rw [hc]; rfl, trivial⟩ ⟨_, [], rfl, (hasP_le (by repeat (first | exact trivial | refine ⟨rfl, ?_⟩))), rfl, rfl, rfl, rfl, rfl⟩
 ·exact rstG3_true ⟨rfl, by rw [hc]; rfl, trivial⟩ ⟨_, [], rfl, (hasP_le (by repeat (first | exact trivial | refine ⟨rfl, ?_⟩))), rfl, rfl, rfl, rfl, rfl⟩
 ·exact rstG4_false ⟨rfl, by rw [hc]; rfl, trivial⟩ ⟨_, [], rfl, (hasP_le (by repeat (first | exact trivial | refine ⟨rfl, ?_⟩))), rfl, rfl, rfl, rfl, rfl⟩
 ·exact rstG4_true ⟨rfl, by rw [hc]; rfl, trivial⟩ ⟨_, [], rfl, (hasP_le (by repeat (first | exact trivial | refine ⟨rfl, ?_⟩))), rfl, rfl, rfl, rfl, rfl⟩
 ·exact rstG5_false ⟨rfl, by rw [hc]; rfl, trivial⟩ ⟨_, [], rfl, (hasP_le (by repeat (first | exact trivial | refine ⟨rfl, ?_⟩))), rfl, rfl, rfl, rfl, rfl⟩
 ·exact rstG5_true ⟨rfl, by rw [hc]; rfl, trivial⟩ ⟨_, [], rfl, (hasP_le (by repeat (first | exact trivial | refine ⟨rfl, ?_⟩))), rfl, rfl, rfl, rfl, rfl⟩
 ·exact rstG6_false ⟨rfl, by rw [hc]; rfl, trivial⟩ ⟨_, [], rfl, (hasP_le (by repeat (first | exact trivial | refine ⟨rfl, ?_⟩))), rfl, rfl, rfl, rfl, rfl⟩
 ·exact rstG6_true ⟨rfl, by rw [hc]; rfl, trivial⟩ ⟨_, [], rfl, (hasP_le (by repeat (first | exact trivial | refine ⟨rfl, ?_⟩))), rfl, rfl, rfl, rfl, rfl⟩
 ·exact rstG7_false ⟨rfl, by rw [hc]; rfl, trivial⟩ ⟨_, [], rfl, (hasP_le (by repeat (first | exact trivial | refine ⟨rfl, ?_⟩))), rfl, rfl, rfl, rfl, rfl⟩
 ·exact rstG7_true ⟨rfl, by rw [hc]; rfl, trivial⟩ ⟨_, [], rfl, (hasP_le (by repeat (first | exact trivial | refine ⟨rfl, ?_⟩))), rfl, rfl, rfl, rfl, rfl⟩
 ·exact rstG8_false ⟨rfl, by rw [hc]; rfl, trivial⟩ ⟨_, [], rfl, (hasP_le (by repeat (first | exact trivial | refine ⟨rfl, ?_⟩))), rfl, rfl, rfl, rfl, rfl⟩
 ·exact rstG8_true ⟨rfl, by rw [hc]; rfl, trivial⟩ ⟨_, [], rfl, (hasP_le (by repeat (first | exact trivial | refine ⟨rfl, ?_⟩))), rfl, rfl, rfl, rfl, rfl⟩
 ·exact rstG9_false ⟨rfl, by rw [hc]; rfl, trivial⟩ ⟨_, [], rfl, (hasP_le (by repeat (first | exact trivial | refine ⟨rfl, ?_⟩))), rfl, rfl, rfl, rfl, rfl⟩
 ·exact rstG9_true ⟨rfl, by rw [hc]; rfl, trivial⟩ ⟨_, [], rfl, (hasP_le (by repeat (first | exact trivial | refine ⟨rfl, ?_⟩))), rfl, rfl, rfl, rfl, rfl⟩
 ·exact rstG10_false ⟨rfl, by rw [hc]; rfl, trivial⟩ ⟨_, [], rfl, (hasP_le (by repeat (first | exact trivial | refine ⟨rfl, ?_⟩))), rfl, rfl, rfl, rfl, rfl⟩
 ·exact rstG10_true ⟨rfl, by rw [hc]; rfl, trivial⟩ ⟨_, [], rfl, (hasP_le (by repeat (first | exact trivial | refine ⟨rfl, ?_⟩))), rfl, rfl, rfl, rfl, rfl⟩
 ·exact rstG11_false ⟨rfl, by rw [hc]; rfl, trivial⟩ ⟨_, [], rfl, (hasP_le (by repeat (first | exact trivial | refine ⟨rfl, ?_⟩))), rfl, rfl, rfl, rfl, rfl⟩
 ·exact rstG11_true ⟨rfl, by rw [hc]; rfl, trivial⟩ ⟨_, [], rfl, (hasP_le (by repeat (first | exact trivial | refine ⟨rfl, ?_⟩))), rfl, rfl, rfl, rfl, rfl⟩
 ·exact rstG12_false ⟨rfl, by rw [hc]; rfl, trivial⟩ ⟨_, [], rfl, (hasP_le (by repeat (first | exact trivial | refine ⟨rfl, ?_⟩))), rfl, rfl, rfl, rfl, rfl⟩
 ·exact rstG12_true ⟨rfl, by rw [hc]; rfl, trivial⟩ ⟨_, [], rfl, (hasP_le (by repeat (first | exact trivial | refine ⟨rfl, ?_⟩))), rfl, rfl, rfl, rfl, rfl⟩
 ·exact rstG13_false ⟨rfl, by rw [hc]; rfl, trivial⟩ ⟨_, [], rfl, (hasP_le (by repeat (first | exact trivial | refine ⟨rfl, ?_⟩))), rfl, rfl, rfl, rfl, rfl⟩
 ·exact rstG13_true ⟨rfl, by rw [hc]; rfl, trivial⟩ ⟨_, [], rfl, (hasP_le (by repeat (first | exact trivial | refine ⟨rfl, ?_⟩))), rfl, rfl, rfl, rfl, rfl⟩
 ·exact rstG14_false ⟨rfl, by rw [hc]; rfl, trivial⟩ ⟨_, [], rfl, (hasP_le (by repeat (first | exact trivial | refine ⟨rfl, ?_⟩))), rfl, rfl, rfl, rfl, rfl⟩
 ·exact rstG14_true ⟨rfl, by rw [hc]; rfl, trivial⟩ ⟨_, [], rfl, (hasP_le (by repeat (first | exact trivial | refine ⟨rfl, ?_⟩))), rfl, rfl, rfl, rfl, rfl⟩
 ·exact rstG15_false ⟨rfl, by rw [hc]; rfl, trivial⟩ ⟨_, [], rfl, (hasP_le (by repeat (first | exact trivial | refine ⟨rfl, ?_⟩))), rfl, rfl, rfl, rfl, rfl⟩
 ·exact rstG15_true ⟨rfl, by rw [hc]; rfl, trivial⟩ ⟨_, [], rfl, (hasP_le (by repeat (first | exact trivial | refine ⟨rfl, ?_⟩))), rfl, rfl, rfl, rfl, rfl⟩
 ·exact rstG16_false ⟨rfl, by rw [hc]; rfl, trivial⟩ ⟨_, [], rfl, (hasP_le (by repeat (first | exact trivial | refine ⟨rfl, ?_⟩))), rfl, rfl, rfl, rfl, rfl⟩
 ·exact rstG16_true ⟨rfl, by rw [hc]; rfl, trivial⟩ ⟨_, [], rfl, (hasP_le (by repeat (first | exact trivial | refine ⟨rfl, ?_⟩))), rfl, rfl, rfl, rfl, rfl⟩
 ·exact rstG17_false ⟨rfl, by rw [hc]; rfl, trivial⟩ ⟨_, [], rfl, (hasP_le (by repeat (first | exact trivial | refine ⟨rfl, ?_⟩))), rfl, rfl, rfl, rfl, rfl⟩
 ·exact rstG17_true ⟨rfl, by rw [hc]; rfl, trivial⟩ ⟨_, [], rfl, (hasP_le (by repeat (first | exact trivial | refine ⟨rfl, ?_⟩))), rfl, rfl, rfl, rfl, rfl⟩
 ·exact rstG18_false ⟨rfl, by rw [hc]; rfl, trivial⟩ ⟨_, [], rfl, (hasP_le (by repeat (first | exact trivial | refine ⟨rfl, ?_⟩))), rfl, rfl, rfl, rfl, rfl⟩
 ·exact rstG18_true ⟨rfl, by rw [hc]; rfl, trivial⟩ ⟨_, [], rfl, (hasP_le (by repeat (first | exact trivial | refine ⟨rfl, ?_⟩))), rfl, rfl, rfl, rfl, rfl⟩
 ·exact rstG19_false ⟨rfl, by rw [hc]; rfl, trivial⟩ ⟨_, [], rfl, (hasP_le (by repeat (first | exact trivial | refine ⟨rfl, ?_⟩))), rfl, rfl, rfl, rfl, rfl⟩
 ·exact rstG19_true ⟨rfl, by rw [hc]; rfl, trivial⟩ ⟨_, [], rfl, (hasP_le (by repeat (first | exact trivial | refine ⟨rfl, ?_⟩))), rfl, rfl, rfl, rfl, rfl⟩
 ·exact rstG20_false ⟨rfl, by rw [hc]; rfl, trivial⟩ ⟨_, [], rfl, (hasP_le (by repeat (first | exact trivial | refine ⟨rfl, ?_⟩))), rfl, rfl, rfl, rfl, rfl⟩
 ·exact rstG20_true ⟨rfl, by rw [hc]; rfl, trivial⟩ ⟨_, [], rfl, (hasP_le (by repeat (first | exact trivial | refine ⟨rfl, ?_⟩))), rfl, rfl, rfl, rfl, rfl⟩
end Go.AM.FK
