/- Contracts of the functions that the statement reaches. No condition. -/
import Derived.Test.YthmcocmhalhbfaaC9e
import Derived.Test.YthmcocmhalhbfaaK9g
import Derived.Test.YthmcocmhalhbfaaPL9g
set_option linter.all false
set_option maxRecDepth 10000
namespace Go.AM.L9
open Go.AM.PL
theorem rgaps_ok (l : List Rn) (p : Int) (hn : l.length ≤ 2 ^ 40) (h1 : ∀ r ∈ l, 1 ≤ r.n) (hw : wlen l ≤ 8192) : WpCallG A 26 [.fsl 2 (l.map encN), .v (.int .i64 p)] [] (fun v H => v = .v (.int .i64 (gapV l p)) ∧ H = []) := by
 have hge0 := late_ge h1 p p
 have hle0 := late_le8 h1 hw p p
 refine WpCallG.intro g26 rfl rfl ?_
 unfold af26
 change WpG _ _ _ _ _
 refine WpG.seq ?_
 refine WpG.reg ?_
 refine G.mv rfl ?_
 refine WpOpsG.nil ?_
 change WpG _ _ _ _ _
 refine WpG.seq ?_
 refine WpG.reg ?_
 refine G.mv rfl ?_
 refine G.mv rfl ?_
 refine G.mv rfl ?_
 refine G.call0 rfl rfl (rlate_ok l p p hn h1 hw) ?_
 rintro _ _ ⟨rfl, rfl⟩
 refine ⟨rfl, ?_⟩
 change WpOpsG _ _ ((9, _) :: _) _ _
 refine G.mv rfl ?_
 refine WpOpsG.nil ?_
 change WpG _ _ _ _ _
 refine WpG.seq ?_
 refine WpG.seq ?_
 refine WpG.reg ?_
 refine G.mv rfl ?_
 refine G.bin rfl rfl rfl ?_
 refine WpOpsG.nil ?_
 change WpG _ _ _ _ _
 refine WpG.cond rfl (fun hq1 => ?_) (fun hq1 => ?_)
 ·(try simp only [zN] at hq1)
  have hlt := hq1
  refine WpG.seq ?_
  refine WpG.reg ?_
  refine G.mv rfl ?_
  refine WpOpsG.nil ?_
  change WpG _ _ _ _ _
  refine WpG.ret ?_
  refine ⟨_, [], rfl, (hasP_le (by repeat (first | exact trivial | refine ⟨rfl, ?_⟩))), rfl, rfl, rfl, ?_⟩
  rw [rgap_T h1 hlt]; exact ⟨rfl, rfl⟩
 ·(try simp only [zN] at hq1)
  have hge := hq1
  refine WpG.skip ?_
  change WpG _ _ _ _ _
  refine WpG.seq ?_
  refine WpG.reg ?_
  refine G.mv rfl ?_
  refine G.subI rfl rfl (by omega) ?_
  refine G.mv rfl ?_
  refine WpOpsG.nil ?_
  change WpG _ _ _ _ _
  refine WpG.ret ?_
  refine ⟨_, [], rfl, (hasP_le (by repeat (first | exact trivial | refine ⟨rfl, ?_⟩))), rfl, rfl, rfl, ?_⟩
  rw [rgap_F h1 (by omega)]; exact ⟨rfl, rfl⟩
theorem same9_ok (l : List Rn) (a b per : Int) (hn : l.length ≤ 2 ^ 40) (hN : ∀ r ∈ l, okN r) (h1 : ∀ r ∈ l, 1 ≤ r.n) (hw : wlen l ≤ 8192) (hp : i64 per) : WpCallG A 11 [.fsl 2 (l.map encN), .v (.int .i64 a), .v (.int .i64 b), .v (.int .i64 per)] [] (fun v H => v = .v (.bool true) ∧ H = []) := by
 refine WpCallG.intro g11 rfl rfl ?_
 unfold af11
 change WpG _ _ _ _ _
 refine WpG.seq ?_
 refine WpG.reg ?_
 refine G.mv rfl ?_
 refine WpOpsG.nil ?_
 change WpG _ _ _ _ _
 refine WpG.seq ?_
 refine WpG.reg ?_
 refine G.mv rfl ?_
 refine G.mv rfl ?_
 refine G.mv rfl ?_
 refine G.call0 rfl rfl (late_ok l a b hn hN h1 (by omega)) ?_
 rintro _ _ ⟨rfl, rfl⟩
 refine ⟨rfl, ?_⟩
 change WpOpsG _ _ ((12, _) :: _) _ _
 refine G.mv rfl ?_
 refine G.mv rfl ?_
 refine G.mv rfl ?_
 refine G.call0 rfl rfl (rlate_ok l a b hn h1 hw) ?_
 rintro _ _ ⟨rfl, rfl⟩
 refine ⟨rfl, ?_⟩
 change WpOpsG _ _ ((16, _) :: _) _ _
 refine G.bin rfl rfl rfl ?_
 rw [beq_self_eq_true]
 refine G.mv rfl ?_
 refine WpOpsG.known 18 true rfl rfl ?_
 refine G.mv rfl ?_
 refine G.mv rfl ?_
 refine G.mv rfl ?_
 refine G.call0 rfl rfl (budget_ok l a per hn hN h1 (by omega) hp) ?_
 rintro _ _ ⟨rfl, rfl⟩
 refine ⟨rfl, ?_⟩
 change WpOpsG _ _ ((22, _) :: _) _ _
 refine G.mv rfl ?_
 refine G.mv rfl ?_
 refine G.mv rfl ?_
 refine G.call0 rfl rfl (rbudget_ok l a per hp hn h1 hw) ?_
 rintro _ _ ⟨rfl, rfl⟩
 refine ⟨rfl, ?_⟩
 change WpOpsG _ _ ((26, _) :: _) _ _
 refine G.bin rfl rfl rfl ?_
 rw [beq_self_eq_true]
 refine G.pickT rfl rfl ?_
 refine G.mv rfl ?_
 refine WpOpsG.known 29 true rfl rfl ?_
 refine G.mv rfl ?_
 refine G.mv rfl ?_
 refine G.call0 rfl rfl (gaps_ok l a hn hN h1 (by omega)) ?_
 rintro _ _ ⟨rfl, rfl⟩
 refine ⟨rfl, ?_⟩
 change WpOpsG _ _ ((32, _) :: _) _ _
 refine G.mv rfl ?_
 refine G.mv rfl ?_
 refine G.call0 rfl rfl (rgaps_ok l a hn h1 hw) ?_
 rintro _ _ ⟨rfl, rfl⟩
 refine ⟨rfl, ?_⟩
 change WpOpsG _ _ ((35, _) :: _) _ _
 refine G.bin rfl rfl rfl ?_
 rw [beq_self_eq_true]
 refine G.pickT rfl rfl ?_
 refine G.mv rfl ?_
 refine WpOpsG.nil ?_
 change WpG _ _ _ _ _
 refine WpG.ret ?_
 refine ⟨_, [], rfl, (hasP_le (by repeat (first | exact trivial | refine ⟨rfl, ?_⟩))), rfl, rfl, rfl, ?_⟩
 exact ⟨rfl, rfl⟩
end Go.AM.L9
