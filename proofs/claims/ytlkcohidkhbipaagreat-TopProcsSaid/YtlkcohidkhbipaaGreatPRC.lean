/- Contracts of the functions that the statement reaches. No condition. -/
import Derived.Test.YtlkcohidkhbipaaGreatPRC1
import Derived.Test.YtlkcohidkhbipaaGreatPRC2
import Derived.Test.YtlkcohidkhbipaaGreatPRC3
import Derived.Test.YtlkcohidkhbipaaGreatPRC4
import Derived.Test.YtlkcohidkhbipaaGreatPRC5
import Derived.Test.YtlkcohidkhbipaaGreatPRC6
import Derived.Test.YtlkcohidkhbipaaGreatPRC7
import Derived.Test.YtlkcohidkhbipaaGreatPRC8
import Derived.Test.YtlkcohidkhbipaaGreatPRC9
import Derived.Test.YtlkcohidkhbipaaGreatPRC10
import Derived.Test.YtlkcohidkhbipaaGreatPRC11
import Derived.Test.YtlkcohidkhbipaaGreatPRC12
import Derived.Test.YtlkcohidkhbipaaGreatPRC13
import Derived.Test.YtlkcohidkhbipaaGreatPRC14
import Derived.Test.YtlkcohidkhbipaaGreatT1
set_option linter.all false
set_option maxRecDepth 100000
namespace Go.AM.FK
open Go.AM Go.AM.TOP Go.AM.PL
theorem topProcs_ok (n : Int) (l : Bool) (ha : -2 ^ 63 ≤ n ∧ n < 2 ^ 63) : WpCallG A 13 [.v (.int .i64 n), .v (.bool l)] [] (fun v H => v = .v (.bool true) ∧ H = []) := by
 refine WpCallG.intro g13 rfl rfl ?_
 change WpG _ (.seq (.reg 0 false [⟨some 4, .mv (.c (.v (.bool false))), none⟩]) (.seq (.reg 1 false [⟨some 13, .mv (.t 0), none⟩, ⟨some 14, .call 15 [.t 13, .c (.v (.int .i64 0)), .c (.v (.int .i64 20))], none⟩, ⟨some 15, .bin .add (.c (.v (.int .i64 1))) (.t 14), none⟩, ⟨some 5, .mv (.t 15), none⟩]) (seqs prc1 prc2))) _ _ _
 have hw := within_rng n 0 20 (by omega)
 refine WpG.seq ?_
 refine WpG.reg ?_
 refine G.mv rfl ?_
 refine WpOpsG.nil ?_
 change WpG _ _ _ _ _
 refine WpG.seq ?_
 refine WpG.reg ?_
 refine G.mv rfl ?_
 refine G.call0 rfl rfl (within_ok n 0 20 ha (by decide) (by decide) (by decide)) ?_
 rintro _ _ ⟨rfl, rfl⟩
 refine ⟨rfl, ?_⟩
 change WpOpsG _ _ ((14, _) :: _) _ _
 refine G.addI rfl rfl (by omega) ?_
 refine G.mv rfl ?_
 refine WpOpsG.nil ?_
 change WpG _ _ _ _ _
 have hc : within n 0 20 = 0 ∨ within n 0 20 = 1 ∨ within n 0 20 = 2 ∨ within n 0 20 = 3 ∨ within n 0 20 = 4 ∨ within n 0 20 = 5 ∨ within n 0 20 = 6 ∨ within n 0 20 = 7 ∨ within n 0 20 = 8 ∨ within n 0 20 = 9 ∨ within n 0 20 = 10 ∨ within n 0 20 = 11 ∨ within n 0 20 = 12 ∨ within n 0 20 = 13 ∨ within n 0 20 = 14 ∨ within n 0 20 = 15 ∨ within n 0 20 = 16 ∨ within n 0 20 = 17 ∨ within n 0 20 = 18 ∨ within n 0 20 = 19 ∨ within n 0 20 = 20 := by omega
 rcases hc with hc | hc | hc | hc | hc | hc | hc | hc | hc | hc | hc | hc | hc | hc | hc | hc | hc | hc | hc | hc | hc <;> cases l
 ·exact prcG0_false ⟨rfl, by rw [hc]; rfl, trivial⟩ ⟨_, [], rfl, (hasP_le (by repeat (first | exact trivial | refine ⟨rfl, ?_⟩))), rfl, rfl, rfl, rfl, rfl⟩
 ·exact prcG0_true ⟨rfl, by rw [hc]; rfl, trivial⟩ ⟨_, [], rfl, (hasP_le (by repeat (first | exact trivial | refine ⟨rfl, ?_⟩))), rfl, rfl, rfl, rfl, rfl⟩
 ·exact prcG1_false ⟨rfl, by rw [hc]; rfl, trivial⟩ ⟨_, [], rfl, (hasP_le (by repeat (first | exact trivial | refine ⟨rfl, ?_⟩))), rfl, rfl, rfl, rfl, rfl⟩
 ·exact prcG1_true ⟨rfl, by rw [hc]; rfl, trivial⟩ ⟨_, [], rfl, (hasP_le (by repeat (first | exact trivial | refine ⟨rfl, ?_⟩))), rfl, rfl, rfl, rfl, rfl⟩
 ·exact prcG2_false ⟨rfl, by rw [hc]; rfl, trivial⟩ ⟨_, [], rfl, (hasP_le (by repeat (first | exact trivial | refine ⟨rfl, ?_⟩))), rfl, rfl, rfl, rfl, rfl⟩
 ·exact prcG2_true ⟨rfl, by rw [hc]; rfl, trivial⟩ ⟨_, [], rfl, (hasP_le (by repeat (first | exact trivial | refine ⟨rfl, ?_⟩))), rfl, rfl, rfl, rfl, rfl⟩
 ·exact prcG3_false ⟨rfl, by rw [hc]; rfl, trivial⟩ ⟨_, [], rfl, (hasP_le (by repeat (first | exact trivial | refine ⟨rfl, ?_⟩))), rfl, rfl, rfl, rfl, rfl⟩
 ·exact prcG3_true ⟨rfl, by rw [hc]; rfl, trivial⟩ ⟨_, [], rfl, (hasP_le (by repeat (first | exact trivial | refine ⟨rfl, ?_⟩))), rfl, rfl, rfl, rfl, rfl⟩
 ·exact prcG4_false ⟨rfl, by rw [hc]; rfl, trivial⟩ ⟨_, [], rfl, (hasP_le (by repeat (first | exact trivial | refine ⟨rfl, ?_⟩))), rfl, rfl, rfl, rfl, rfl⟩
 ·exact prcG4_true ⟨rfl, by rw [hc]; rfl, trivial⟩ ⟨_, [], rfl, (hasP_le (by repeat (first | exact trivial | refine ⟨rfl, ?_⟩))), rfl, rfl, rfl, rfl, rfl⟩
 ·exact prcG5_false ⟨rfl, by rw [hc]; rfl, trivial⟩ ⟨_, [], rfl, (hasP_le (by repeat (first | exact trivial | refine ⟨rfl, ?_⟩))), rfl, rfl, rfl, rfl, rfl⟩
 ·exact prcG5_true ⟨rfl, by rw [hc]; rfl, trivial⟩ ⟨_, [], rfl, (hasP_le (by repeat (first | exact trivial | refine ⟨rfl, ?_⟩))), rfl, rfl, rfl, rfl, rfl⟩
 ·exact prcG6_false ⟨rfl, by rw [hc]; rfl, trivial⟩ ⟨_, [], rfl, (hasP_le (by repeat (first | exact trivial | refine ⟨rfl, ?_⟩))), rfl, rfl, rfl, rfl, rfl⟩
 ·exact prcG6_true ⟨rfl, by rw [hc]; rfl, trivial⟩ ⟨_, [], rfl, (hasP_le (by repeat (first | exact trivial | refine ⟨rfl, ?_⟩))), rfl, rfl, rfl, rfl, rfl⟩
 ·exact prcG7_false ⟨rfl, by rw [hc]; rfl, trivial⟩ ⟨_, [], rfl, (hasP_le (by repeat (first | exact trivial | refine ⟨rfl, ?_⟩))), rfl, rfl, rfl, rfl, rfl⟩
 ·exact prcG7_true ⟨rfl, by rw [hc]; rfl, trivial⟩ ⟨_, [], rfl, (hasP_le (by repeat (first | exact trivial | refine ⟨rfl, ?_⟩))), rfl, rfl, rfl, rfl, rfl⟩
 ·exact prcG8_false ⟨rfl, by rw [hc]; rfl, trivial⟩ ⟨_, [], rfl, (hasP_le (by repeat (first | exact trivial | refine ⟨rfl, ?_⟩))), rfl, rfl, rfl, rfl, rfl⟩
 ·exact prcG8_true ⟨rfl, by rw [hc]; rfl, trivial⟩ ⟨_, [], rfl, (hasP_le (by repeat (first | exact trivial | refine ⟨rfl, ?_⟩))), rfl, rfl, rfl, rfl, rfl⟩
 ·exact prcG9_false ⟨rfl, by rw [hc]; rfl, trivial⟩ ⟨_, [], rfl, (hasP_le (by repeat (first | exact trivial | refine ⟨rfl, ?_⟩))), rfl, rfl, rfl, rfl, rfl⟩
 ·exact prcG9_true ⟨rfl, by rw [hc]; rfl, trivial⟩ ⟨_, [], rfl, (hasP_le (by repeat (first | exact trivial | refine ⟨rfl, ?_⟩))), rfl, rfl, rfl, rfl, rfl⟩
 ·exact prcG10_false ⟨rfl, by rw [hc]; rfl, trivial⟩ ⟨_, [], rfl, (hasP_le (by repeat (first | exact trivial | refine ⟨rfl, ?_⟩))), rfl, rfl, rfl, rfl, rfl⟩
 ·exact prcG10_true ⟨rfl, by rw [hc]; rfl, trivial⟩ ⟨_, [], rfl, (hasP_le (by repeat (first | exact trivial | refine ⟨rfl, ?_⟩))), rfl, rfl, rfl, rfl, rfl⟩
 ·exact prcG11_false ⟨rfl, by rw [hc]; rfl, trivial⟩ ⟨_, [], rfl, (hasP_le (by repeat (first | exact trivial | refine ⟨rfl, ?_⟩))), rfl, rfl, rfl, rfl, rfl⟩
 ·exact prcG11_true ⟨rfl, by rw [hc]; rfl, trivial⟩ ⟨_, [], rfl, (hasP_le (by repeat (first | exact trivial | refine ⟨rfl, ?_⟩))), rfl, rfl, rfl, rfl, rfl⟩
 ·exact prcG12_false ⟨rfl, by rw [hc]; rfl, trivial⟩ ⟨_, [], rfl, (hasP_le (by repeat (first | exact trivial | refine ⟨rfl, ?_⟩))), rfl, rfl, rfl, rfl, rfl⟩
 ·exact prcG12_true ⟨rfl, by rw [hc]; rfl, trivial⟩ ⟨_, [], rfl, (hasP_le (by repeat (first | exact trivial | refine ⟨rfl, ?_⟩))), rfl, rfl, rfl, rfl, rfl⟩
 ·exact prcG13_false ⟨rfl, by rw [hc]; rfl, trivial⟩ ⟨_, [], rfl, (hasP_le (by repeat (first | exact trivial | refine ⟨rfl, ?_⟩))), rfl, rfl, rfl, rfl, rfl⟩
 ·exact prcG13_true ⟨rfl, by rw [hc]; rfl, trivial⟩ ⟨_, [], rfl, (hasP_le (by repeat (first | exact trivial | refine ⟨rfl, ?_⟩))), rfl, rfl, rfl, rfl, rfl⟩
 ·exact prcG14_false ⟨rfl, by rw [hc]; rfl, trivial⟩ ⟨_, [], rfl, (hasP_le (by repeat (first | exact trivial | refine ⟨rfl, ?_⟩))), rfl, rfl, rfl, rfl, rfl⟩
 ·exact prcG14_true ⟨rfl, by rw [hc]; rfl, trivial⟩ ⟨_, [], rfl, (hasP_le (by repeat (first | exact trivial | refine ⟨rfl, ?_⟩))), rfl, rfl, rfl, rfl, rfl⟩
 ·exact prcG15_false ⟨rfl, by rw [hc]; rfl, trivial⟩ ⟨_, [], rfl, (hasP_le (by repeat (first | exact trivial | refine ⟨rfl, ?_⟩))), rfl, rfl, rfl, rfl, rfl⟩
 ·exact prcG15_true ⟨rfl, by rw [hc]; rfl, trivial⟩ ⟨_, [], rfl, (hasP_le (by repeat (first | exact trivial | refine ⟨rfl, ?_⟩))), rfl, rfl, rfl, rfl, rfl⟩
 ·exact prcG16_false ⟨rfl, by rw [hc]; rfl, trivial⟩ ⟨_, [], rfl, (hasP_le (by repeat (first | exact trivial | refine ⟨rfl, ?_⟩))), rfl, rfl, rfl, rfl, rfl⟩
 ·exact prcG16_true ⟨rfl, by rw [hc]; rfl, trivial⟩ ⟨_, [], rfl, (hasP_le (by repeat (first | exact trivial | refine ⟨rfl, ?_⟩))), rfl, rfl, rfl, rfl, rfl⟩
 ·exact prcG17_false ⟨rfl, by rw [hc]; rfl, trivial⟩ ⟨_, [], rfl, (hasP_le (by repeat (first | exact trivial | refine ⟨rfl, ?_⟩))), rfl, rfl, rfl, rfl, rfl⟩
 ·exact prcG17_true ⟨rfl, by rw [hc]; rfl, trivial⟩ ⟨_, [], rfl, (hasP_le (by repeat (first | exact trivial | refine ⟨rfl, ?_⟩))), rfl, rfl, rfl, rfl, rfl⟩
 ·exact prcG18_false ⟨rfl, by rw [hc]; rfl, trivial⟩ ⟨_, [], rfl, (hasP_le (by repeat (first | exact trivial | refine ⟨rfl, ?_⟩))), rfl, rfl, rfl, rfl, rfl⟩
 ·exact prcG18_true ⟨rfl, by rw [hc]; rfl, trivial⟩ ⟨_, [], rfl, (hasP_le (by repeat (first | exact trivial | refine ⟨rfl, ?_⟩))), rfl, rfl, rfl, rfl, rfl⟩
 ·exact prcG19_false ⟨rfl, by rw [hc]; rfl, trivial⟩ ⟨_, [], rfl, (hasP_le (by repeat (first | exact trivial | refine ⟨rfl, ?_⟩))), rfl, rfl, rfl, rfl, rfl⟩
 ·exact prcG19_true ⟨rfl, by rw [hc]; rfl, trivial⟩ ⟨_, [], rfl, (hasP_le (by repeat (first | exact trivial | refine ⟨rfl, ?_⟩))), rfl, rfl, rfl, rfl, rfl⟩
 ·exact prcG20_false ⟨rfl, by rw [hc]; rfl, trivial⟩ ⟨_, [], rfl, (hasP_le (by repeat (first | exact trivial | refine ⟨rfl, ?_⟩))), rfl, rfl, rfl, rfl, rfl⟩
 ·exact prcG20_true ⟨rfl, by rw [hc]; rfl, trivial⟩ ⟨_, [], rfl, (hasP_le (by repeat (first | exact trivial | refine ⟨rfl, ?_⟩))), rfl, rfl, rfl, rfl, rfl⟩
end Go.AM.FK
