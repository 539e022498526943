/- Contracts of the functions that the statement reaches. No condition. -/
import Derived.Test.YtnnlhkcpegpfcaaC18b
set_option linter.all false
set_option maxRecDepth 10000
namespace Go.AM.L18
open Go.AM.PL
set_option maxHeartbeats 1000000 in
theorem known18_ok  : WpCallG A 7 [] [] (fun v H => v = .v (.bool true) ∧ H = []) := by
 refine WpCallG.intro g7 rfl rfl ?_
 unfold af7
 change WpG _ _ _ _ _
 refine WpG.seq ?_
 refine WpG.reg ?_
 refine G.mv rfl ?_
 refine WpOpsG.nil ?_
 change WpG _ _ _ _ _
 refine WpG.seq ?_
 refine WpG.reg ?_
 refine G.build rfl ?_
 refine G.call0 rfl rfl ((new18_ok 1 0 0 0 2).ren [(0, 20), (1, 21)]) ?_
 rintro _ _ ⟨_, _, ⟨rfl, rfl⟩, rfl, rfl⟩
 change newOk _ _ [(20, _), (21, _)] = true ∧ _
 refine ⟨rfl, ?_⟩
 change WpOpsG _ _ ((10, .bptr 20 0) :: _) ([(20, .box [vI 1, vI 0, vI 0, vI 0, vI 2, .osl 21, .v (.bool false)]), (21, .arr .yes 3 (([] : List Flt).map encF18))] ++ _) _
 refine G.mv rfl ?_
 refine WpOpsG.nil ?_
 change WpG _ _ _ _ _
 refine WpG.seq ?_
 refine WpG.seq ?_
 refine WpG.reg ?_
 refine G.mv rfl ?_
 refine G.eqnilB rfl ?_
 refine WpOpsG.nil ?_
 change WpG _ _ _ _ _
 refine WpG.cond rfl (fun hq1 => absurd hq1 (by decide)) (fun hq1 => ?_)
 refine WpG.skip ?_
 change WpG _ _ _ _ _
 refine WpG.seq ?_
 refine WpG.reg ?_
 refine G.mv rfl ?_
 refine G.call (P := [(20, .box [vI 1, vI 0, vI 0, vI 0, vI 2, .osl 21, .v (.bool false)]), (21, .arr .yes 3 (([] : List Flt).map encF18))]) rfl (by repeat (first | exact trivial | refine ⟨rfl, ?_⟩)) rfl rfl ((tell18_ok 1 0 0 0 2 ([]) false 3 0 1 (by unfold i64; decide) (by decide)).ren [(0, 20), (1, 21)]) ?_
 rintro _ _ ⟨_, _, ⟨rfl, rfl⟩, rfl, rfl⟩
 change newOk _ _ [(20, _), (21, _)] = true ∧ _
 refine ⟨rfl, ?_⟩
 change WpOpsG _ _ ((14, .v (.int .i64 1)) :: _) ([(20, .box [vI 1, vI 0, vI 0, vI 0, vI 2, .osl 21, .v (.bool false)]), (21, .arr .yes 3 (([(⟨3, 0, 1⟩ : Flt)] : List Flt).map encF18))] ++ _) _
 refine G.mv rfl ?_
 refine G.call (P := [(20, .box [vI 1, vI 0, vI 0, vI 0, vI 2, .osl 21, .v (.bool false)]), (21, .arr .yes 3 (([(⟨3, 0, 1⟩ : Flt)] : List Flt).map encF18))]) rfl (by repeat (first | exact trivial | refine ⟨rfl, ?_⟩)) rfl rfl ((tell18_ok 1 0 0 0 2 ([(⟨3, 0, 1⟩ : Flt)]) false 4 1 2 (by unfold i64; decide) (by decide)).ren [(0, 20), (1, 21)]) ?_
 rintro _ _ ⟨_, _, ⟨rfl, rfl⟩, rfl, rfl⟩
 change newOk _ _ [(20, _), (21, _)] = true ∧ _
 refine ⟨rfl, ?_⟩
 change WpOpsG _ _ ((16, .v (.int .i64 0)) :: _) ([(20, .box [vI 1, vI 0, vI 0, vI 0, vI 2, .osl 21, .v (.bool false)]), (21, .arr .yes 3 (([(⟨3, 0, 1⟩ : Flt), (⟨4, 1, 2⟩ : Flt)] : List Flt).map encF18))] ++ _) _
 refine G.mv rfl ?_
 refine G.mv rfl ?_
 refine WpOpsG.nil ?_
 change WpG _ _ _ _ _
 refine WpG.seq ?_
 refine WpG.reg ?_
 refine G.mv rfl ?_
 refine G.lend rfl rfl (stopped18_ok 1 0 0 0 2 ([(⟨3, 0, 1⟩ : Flt), (⟨4, 1, 2⟩ : Flt)]) false) ?_
 rintro _ _ ⟨rfl, rfl⟩
 refine ⟨rfl, trivial, rfl, ?_⟩
 change WpOpsG _ _ ((18, _) :: _) _ _
 refine G.mv rfl ?_
 refine WpOpsG.nil ?_
 change WpG _ _ _ _ _
 refine WpG.seq ?_
 refine WpG.reg ?_
 refine G.mv rfl ?_
 refine G.call (P := [(20, .box [vI 1, vI 0, vI 0, vI 0, vI 2, .osl 21, .v (.bool false)]), (21, .arr .yes 3 (([(⟨3, 0, 1⟩ : Flt), (⟨4, 1, 2⟩ : Flt)] : List Flt).map encF18))]) rfl (by repeat (first | exact trivial | refine ⟨rfl, ?_⟩)) rfl rfl ((tell18_ok 1 0 0 0 2 ([(⟨3, 0, 1⟩ : Flt), (⟨4, 1, 2⟩ : Flt)]) false 5 0 5 (by unfold i64; decide) (by decide)).ren [(0, 20), (1, 21)]) ?_
 rintro _ _ ⟨_, _, ⟨rfl, rfl⟩, rfl, rfl⟩
 change newOk _ _ [(20, _), (21, _)] = true ∧ _
 refine ⟨rfl, ?_⟩
 change WpOpsG _ _ ((20, .v (.int .i64 2)) :: _) ([(20, .box [vI 1, vI 0, vI 0, vI 0, vI 2, .osl 21, .v (.bool true)]), (21, .arr .yes 3 (([(⟨3, 0, 1⟩ : Flt), (⟨4, 1, 2⟩ : Flt), (⟨5, 0, 5⟩ : Flt)] : List Flt).map encF18))] ++ _) _
 refine G.mv rfl ?_
 refine WpOpsG.nil ?_
 change WpG _ _ _ _ _
 refine WpG.seq ?_
 refine WpG.reg ?_
 refine G.mv rfl ?_
 refine G.call (P := [(20, .box [vI 1, vI 0, vI 0, vI 0, vI 2, .osl 21, .v (.bool true)]), (21, .arr .yes 3 (([(⟨3, 0, 1⟩ : Flt), (⟨4, 1, 2⟩ : Flt), (⟨5, 0, 5⟩ : Flt)] : List Flt).map encF18))]) rfl (by repeat (first | exact trivial | refine ⟨rfl, ?_⟩)) rfl rfl ((tell18_ok 1 0 0 0 2 ([(⟨3, 0, 1⟩ : Flt), (⟨4, 1, 2⟩ : Flt), (⟨5, 0, 5⟩ : Flt)]) true 6 0 1 (by unfold i64; decide) (by decide)).ren [(0, 20), (1, 21)]) ?_
 rintro _ _ ⟨_, _, ⟨rfl, rfl⟩, rfl, rfl⟩
 change newOk _ _ [(20, _), (21, _)] = true ∧ _
 refine ⟨rfl, ?_⟩
 change WpOpsG _ _ ((22, .v (.int .i64 (-1))) :: _) ([(20, .box [vI 1, vI 0, vI 0, vI 0, vI 2, .osl 21, .v (.bool true)]), (21, .arr .yes 3 (([(⟨3, 0, 1⟩ : Flt), (⟨4, 1, 2⟩ : Flt), (⟨5, 0, 5⟩ : Flt)] : List Flt).map encF18))] ++ _) _
 refine G.mv rfl ?_
 refine WpOpsG.nil ?_
 change WpG _ _ _ _ _
 refine WpG.seq ?_
 refine WpG.reg ?_
 refine G.mv rfl ?_
 refine G.lend rfl rfl ((all18_ok 1 0 0 0 2 ([(⟨3, 0, 1⟩ : Flt), (⟨4, 1, 2⟩ : Flt), (⟨5, 0, 5⟩ : Flt)]) true (by decide)).ren [(0, 26)]) ?_
 rintro _ _ ⟨_, _, ⟨rfl, rfl⟩, rfl, rfl⟩
 change _ ∧ flatH [(26, _)] ∧ newOk _ _ [(26, _)] = true ∧ _
 refine ⟨rfl, ⟨fun c h => (by obtain ⟨x, _, rfl⟩ := List.mem_map.1 h; rfl), trivial⟩, rfl, ?_⟩
 change WpOpsG _ _ ((24, .osl 26) :: _) ([(26, .arr .yes 3 (([(⟨3, 0, 1⟩ : Flt), (⟨4, 1, 2⟩ : Flt), (⟨5, 0, 5⟩ : Flt)] : List Flt).map encF18))] ++ _) _
 refine WpOpsG.freeze 26 rfl ?_
 refine G.mv rfl ?_
 refine WpOpsG.nil ?_
 change WpG _ _ _ _ _
 refine WpG.seq ?_
 refine WpG.reg ?_
 refine G.build rfl ?_
 refine G.call0 rfl rfl ((new18_ok 0 0 0 0 0).ren [(0, 22), (1, 23)]) ?_
 rintro _ _ ⟨_, _, ⟨rfl, rfl⟩, rfl, rfl⟩
 change newOk _ _ [(22, _), (23, _)] = true ∧ _
 refine ⟨rfl, ?_⟩
 change WpOpsG _ _ ((26, .bptr 22 0) :: _) ([(22, .box [vI 0, vI 0, vI 0, vI 0, vI 0, .osl 23, .v (.bool false)]), (23, .arr .yes 3 (([] : List Flt).map encF18))] ++ _) _
 refine G.mv rfl ?_
 refine WpOpsG.nil ?_
 change WpG _ _ _ _ _
 refine WpG.seq ?_
 refine WpG.reg ?_
 refine G.mv rfl ?_
 refine G.bin rfl rfl rfl ?_
 refine G.mv rfl ?_
 refine G.yes rfl ?_
 refine G.mv rfl ?_
 refine G.yes rfl ?_
 refine G.bin rfl rfl rfl ?_
 refine G.pickT rfl rfl ?_
 refine G.mv rfl ?_
 refine G.yes rfl ?_
 refine G.mv rfl ?_
 refine G.yes rfl ?_
 refine G.un rfl rfl ?_
 refine G.pickT rfl rfl ?_
 refine G.mv rfl ?_
 refine G.yes rfl ?_
 refine G.mv rfl ?_
 refine G.yes rfl ?_
 refine G.bin rfl rfl rfl ?_
 refine G.pickT rfl rfl ?_
 refine G.mv rfl ?_
 refine G.yes rfl ?_
 refine G.mv rfl ?_
 refine G.yes rfl ?_
 refine G.bin rfl rfl rfl ?_
 refine G.pickT rfl rfl ?_
 refine G.mv rfl ?_
 refine G.yes rfl ?_
 refine G.mv rfl ?_
 refine G.yes rfl ?_
 refine G.lend rfl rfl (stopped18_ok 1 0 0 0 2 ([(⟨3, 0, 1⟩ : Flt), (⟨4, 1, 2⟩ : Flt), (⟨5, 0, 5⟩ : Flt)]) true) ?_
 rintro _ _ ⟨rfl, rfl⟩
 refine ⟨rfl, trivial, rfl, ?_⟩
 change WpOpsG _ _ ((47, _) :: _) _ _
 refine G.pickT rfl rfl ?_
 refine G.mv rfl ?_
 refine G.yes rfl ?_
 refine G.mv rfl ?_
 refine G.yes rfl ?_
 refine G.lenM rfl ?_
 refine G.yes rfl ?_
 refine G.bin rfl rfl rfl ?_
 refine G.pickT rfl rfl ?_
 refine G.mv rfl ?_
 refine G.yes rfl ?_
 refine G.mv rfl ?_
 refine G.yes rfl ?_
 refine G.iaddrF rfl rfl (by omega) rfl ?_
 refine G.yes rfl ?_
 refine G.loadNF rfl rfl ?_
 refine G.yes rfl ?_
 refine G.build rfl ?_
 refine G.yes rfl ?_
 refine G.beq rfl rfl rfl ?_
 refine G.pickT rfl rfl ?_
 refine G.mv rfl ?_
 refine G.yes rfl ?_
 refine G.mv rfl ?_
 refine G.yes rfl ?_
 refine G.lend rfl rfl (count18_ok 1 0 0 0 2 ([(⟨3, 0, 1⟩ : Flt), (⟨4, 1, 2⟩ : Flt), (⟨5, 0, 5⟩ : Flt)]) true 5 (by decide)) ?_
 rintro _ _ ⟨rfl, rfl⟩
 refine ⟨rfl, trivial, rfl, ?_⟩
 change WpOpsG _ _ ((63, _) :: _) _ _
 refine G.yes rfl ?_
 refine G.bin rfl rfl rfl ?_
 refine G.pickT rfl rfl ?_
 refine G.mv rfl ?_
 refine G.yes rfl ?_
 refine G.mv rfl ?_
 refine G.yes rfl ?_
 refine G.lend rfl rfl (count18_ok 1 0 0 0 2 ([(⟨3, 0, 1⟩ : Flt), (⟨4, 1, 2⟩ : Flt), (⟨5, 0, 5⟩ : Flt)]) true 9 (by decide)) ?_
 rintro _ _ ⟨rfl, rfl⟩
 refine ⟨rfl, trivial, rfl, ?_⟩
 change WpOpsG _ _ ((68, _) :: _) _ _
 refine G.yes rfl ?_
 refine G.bin rfl rfl rfl ?_
 refine G.pickT rfl rfl ?_
 refine G.mv rfl ?_
 refine G.yes rfl ?_
 refine G.mv rfl ?_
 refine G.yes rfl ?_
 refine G.eqnilB rfl ?_
 refine G.pickT rfl rfl ?_
 refine G.mv rfl ?_
 refine G.yes rfl ?_
 refine G.mv rfl ?_
 refine G.yes rfl ?_
 refine G.call (P := [(22, .box [vI 0, vI 0, vI 0, vI 0, vI 0, .osl 23, .v (.bool false)]), (23, .arr .yes 3 (([] : List Flt).map encF18))]) rfl (by repeat (first | exact trivial | refine ⟨rfl, ?_⟩)) rfl rfl ((tell18_ok 0 0 0 0 0 [] false 0 0 9 (by unfold i64; decide) (by decide)).ren [(0, 22), (1, 23)]) ?_
 rintro _ _ ⟨_, _, ⟨rfl, rfl⟩, rfl, rfl⟩
 change newOk _ _ [(22, _), (23, _)] = true ∧ _
 refine ⟨rfl, ?_⟩
 change WpOpsG _ _ ((77, _) :: _) _ _
 refine G.yes rfl ?_
 refine G.bin rfl rfl rfl ?_
 refine G.pickT rfl rfl ?_
 refine G.mv rfl ?_
 refine WpOpsG.nil ?_
 change WpG _ _ _ _ _
 refine WpG.ret ?_
 refine ⟨_, [], rfl, (hasP_le (by repeat (first | exact trivial | refine ⟨rfl, ?_⟩))), rfl, rfl, rfl, ?_⟩
 exact ⟨rfl, rfl⟩
end Go.AM.L18
