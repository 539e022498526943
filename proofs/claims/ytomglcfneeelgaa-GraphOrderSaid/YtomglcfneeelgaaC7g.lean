/- Contracts of the functions that the statement reaches. No condition. -/
import Derived.Test.YtomglcfneeelgaaC7e
import Derived.Test.YtomglcfneeelgaaK7g
import Derived.Test.YtomglcfneeelgaaPL7b
set_option linter.all false
set_option maxRecDepth 10000
namespace Go.AM.L7
open Go.AM.PL
theorem config_okP (t : List Int) (a0 : Nat) (ht : t.length ≤ 2 ^ 50) (hi : ∀ x ∈ t, i64 x) (ha0 : a0 ≤ t.length) : WpCallG A 9 [.bptr 0 0] [(0, tbox t a0)] (fun v H => ∃ (P : List Pt) (C : List Ch) (tabs : List (List Nd)) (b : Nat), CfgP P C tabs ∧ b ≤ t.length ∧ v = .agg [.fsl 11 (P.map encP), .fsl 6 (C.map encC), .fsl 1 (tabs.map encTb)] ∧ H = [(0, tbox t b)]) := cfgOut (config_ok t a0 ht hi ha0)
end Go.AM.L7
