/- Contracts of the functions that the statement reaches. No condition. -/
import Derived.Test.YtlkcohidkhbipaaGreatTM1
import Derived.Test.YtlkcohidkhbipaaGreatTM2
import Derived.Test.YtlkcohidkhbipaaGreatTM3
import Derived.Test.YtlkcohidkhbipaaGreatTM4
import Derived.Test.YtlkcohidkhbipaaGreatTM5
import Derived.Test.YtlkcohidkhbipaaGreatTM6
import Derived.Test.YtlkcohidkhbipaaGreatTM7
import Derived.Test.YtlkcohidkhbipaaGreatTM8
import Derived.Test.YtlkcohidkhbipaaGreatTM9
import Derived.Test.YtlkcohidkhbipaaGreatTM10
import Derived.Test.YtlkcohidkhbipaaGreatT1
set_option linter.all false
set_option maxRecDepth 100000
namespace Go.AM.FK
open Go.AM Go.AM.TOP Go.AM.PL
theorem mg_all (a b : Int) (ha : 1 ≤ a ∧ a ≤ 10) (h : 1 ≤ b ∧ b ≤ 10) (l : Bool) : cc mgC callT (KQ 6) (frP (mgL a b l)) .e 0 = true := by
 have hc : a = 1 ∨ a = 2 ∨ a = 3 ∨ a = 4 ∨ a = 5 ∨ a = 6 ∨ a = 7 ∨ a = 8 ∨ a = 9 ∨ a = 10 := by omega
 rcases hc with hc | hc | hc | hc | hc | hc | hc | hc | hc | hc <;> subst hc
 ·exact mgA1 b h l
 ·exact mgA2 b h l
 ·exact mgA3 b h l
 ·exact mgA4 b h l
 ·exact mgA5 b h l
 ·exact mgA6 b h l
 ·exact mgA7 b h l
 ·exact mgA8 b h l
 ·exact mgA9 b h l
 ·exact mgA10 b h l
theorem topMerge_ok (a b : Int) (l : Bool) (ha : -2 ^ 63 ≤ a ∧ a < 2 ^ 63) (hb : -2 ^ 63 ≤ b ∧ b < 2 ^ 63) : WpCallG A 3 [.v (.int .i64 a), .v (.int .i64 b), .v (.bool l)] [] (fun v H => v = .v (.bool true) ∧ H = []) := by
 refine WpCallG.intro g3 rfl rfl ?_
 change WpG _ (.seq (.reg 0 false [⟨some 6, .mv (.c (.v (.bool false))), none⟩]) (.seq (.reg 1 false (mg1 ++ mg2)) mgR)) _ _ _
 have hw := within_rng a 0 9 (by omega)
 have hx := within_rng b 0 9 (by omega)
 refine WpG.seq ?_
 refine WpG.reg ?_
 refine G.mv rfl ?_
 refine WpOpsG.nil ?_
 change WpG _ _ _ _ _
 refine WpG.part ?_
 unfold mg1
 refine G.mv rfl ?_
 refine G.call0 rfl rfl (within_ok a 0 9 ha (by decide) (by decide) (by decide)) ?_
 rintro _ _ ⟨rfl, rfl⟩
 refine ⟨rfl, ?_⟩
 change WpOpsG _ _ ((16, _) :: _) _ _
 refine G.addI rfl rfl (by omega) ?_
 refine G.build rfl ?_
 refine G.build rfl ?_
 refine G.build rfl ?_
 refine G.mv rfl ?_
 refine G.call0 rfl rfl (within_ok b 0 9 hb (by decide) (by decide) (by decide)) ?_
 rintro _ _ ⟨rfl, rfl⟩
 refine ⟨rfl, ?_⟩
 change WpOpsG _ _ ((22, _) :: _) _ _
 refine G.addI rfl rfl (by omega) ?_
 refine WpOpsG.nil ?_
 refine WpG.fkP callT_ok (mgL (1 + within a 0 9) (1 + within b 0 9) l) ⟨rfl, rfl, rfl, rfl, rfl, trivial⟩ rfl mg_code (mg_all _ _ (by omega) (by omega) l) ?_
 exact ⟨_, [], rfl, (hasP_le (by repeat (first | exact trivial | refine ⟨rfl, ?_⟩))), rfl, rfl, rfl, rfl, rfl⟩
end Go.AM.FK
