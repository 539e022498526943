/- Contracts of the functions that the statement reaches. No condition. -/
import Derived.Test.YtnkbbfnloecbcaaC3c
set_option linter.all false
set_option maxRecDepth 10000
namespace Go.AM.L3
open Go.AM.PL
theorem known3_ok  : WpCallG A 11 [] [] (fun v H => v = .v (.bool true) ∧ H = []) := by
 refine WpCallG.intro g11 rfl rfl ?_
 unfold af11
 change WpG _ _ _ _ _
 refine WpG.seq ?_
 refine WpG.reg ?_
 refine G.mv rfl ?_
 refine WpOpsG.nil ?_
 change WpG _ _ _ _ _
 refine WpG.seq ?_
 refine WpG.reg ?_
 refine G.build rfl ?_
 refine G.build rfl ?_
 refine G.bsliceF rfl rfl rfl ?_
 change WpOpsG _ _ ((9, .fsl 3 (([⟨4, 0, 2⟩, ⟨1, 0, 3⟩] : List Nd).map encD)) :: _) _ _
 refine G.mv rfl ?_
 refine WpOpsG.nil ?_
 change WpG _ _ _ _ _
 refine WpG.seq ?_
 refine WpG.reg ?_
 refine G.mv rfl ?_
 refine G.call0 rfl rfl (nlength_ok [⟨4, 0, 2⟩, ⟨1, 0, 3⟩] (by decide)) ?_
 rintro _ _ ⟨rfl, rfl⟩
 refine ⟨rfl, ?_⟩
 change WpOpsG _ _ ((12, _) :: _) _ _
 rw [show lenV [⟨4, 0, 2⟩, ⟨1, 0, 3⟩] = (6, true) by decide +kernel]
 refine G.mv rfl ?_
 refine G.ext rfl rfl ?_
 refine G.ext rfl rfl ?_
 refine G.mv rfl ?_
 refine G.mv rfl ?_
 refine WpOpsG.nil ?_
 change WpG _ _ _ _ _
 refine WpG.seq ?_
 refine WpG.reg ?_
 refine G.build rfl ?_
 refine G.build rfl ?_
 refine G.bsliceF rfl rfl rfl ?_
 change WpOpsG _ _ ((18, .fsl 3 (([⟨4, 0, 4611686018427387904⟩, ⟨1, 0, 3⟩] : List Nd).map encD)) :: _) _ _
 refine G.call0 rfl rfl (nlength_ok [⟨4, 0, 4611686018427387904⟩, ⟨1, 0, 3⟩] (by decide)) ?_
 rintro _ _ ⟨rfl, rfl⟩
 refine ⟨rfl, ?_⟩
 change WpOpsG _ _ ((19, _) :: _) _ _
 rw [show lenV [⟨4, 0, 4611686018427387904⟩, ⟨1, 0, 3⟩] = (0, false) by decide +kernel]
 refine G.mv rfl ?_
 refine G.ext rfl rfl ?_
 refine G.ext rfl rfl ?_
 refine G.mv rfl ?_
 refine G.mv rfl ?_
 refine WpOpsG.nil ?_
 change WpG _ _ _ _ _
 refine WpG.seq ?_
 refine WpG.reg ?_
 refine G.build rfl ?_
 refine G.build rfl ?_
 refine G.build rfl ?_
 refine G.bsliceF rfl rfl rfl ?_
 change WpOpsG _ _ ((25, .fsl 3 (([⟨3, 0, 2⟩, ⟨2, 0, 1⟩, ⟨2, 0, 2⟩] : List Nd).map encD)) :: _) _ _
 refine G.call0 rfl rfl ((nkids_ok [⟨3, 0, 2⟩, ⟨2, 0, 1⟩, ⟨2, 0, 2⟩] 0 [1, 2] (by decide) (by decide) (Fo.kids_one (x := ⟨3, 0, 2⟩) (ks := .cons ⟨2, 0, 1⟩ .nil (.cons ⟨2, 0, 2⟩ .nil .nil)) ⟨by decide, ⟨by decide, trivial, by decide, trivial, trivial⟩, trivial⟩)).ren [(0, 20)]) ?_
 rintro _ _ ⟨_, _, ⟨rfl, rfl⟩, rfl, rfl⟩
 change newOk _ _ [(20, _)] = true ∧ _
 refine ⟨rfl, ?_⟩
 change WpOpsG _ _ ((26, .osl 20) :: _) ([(20, .arr .yes 1 (([1, 2] : List Nat).map encI))] ++ _) _
 refine G.mv rfl ?_
 refine WpOpsG.nil ?_
 change WpG _ _ _ _ _
 refine WpG.seq ?_
 refine WpG.reg ?_
 refine G.mv rfl ?_
 refine G.bin rfl rfl rfl ?_
 refine G.mv rfl ?_
 refine G.yes rfl ?_
 refine G.mv rfl ?_
 refine G.pickT rfl rfl ?_
 refine G.mv rfl ?_
 refine G.yes rfl ?_
 refine G.mv rfl ?_
 refine G.yes rfl ?_
 refine G.un rfl rfl ?_
 refine G.pickT rfl rfl ?_
 refine G.mv rfl ?_
 refine G.yes rfl ?_
 refine G.call0 rfl rfl (nil1 (nright_ok [] (by decide))) ?_
 rintro _ _ ⟨rfl, rfl⟩
 refine ⟨rfl, ?_⟩
 change WpOpsG _ _ ((37, _) :: _) _ _
 rw [show rightN [] = 12 by decide +kernel]
 refine G.yes rfl ?_
 refine G.bin rfl rfl rfl ?_
 refine G.pickT rfl rfl ?_
 refine G.mv rfl ?_
 refine G.yes rfl ?_
 refine G.mv rfl ?_
 refine G.yes rfl ?_
 refine G.call0 rfl rfl (nright_ok [⟨4, 0, 2⟩, ⟨1, 0, 3⟩] (by decide)) ?_
 rintro _ _ ⟨rfl, rfl⟩
 refine ⟨rfl, ?_⟩
 change WpOpsG _ _ ((42, _) :: _) _ _
 rw [show rightN [⟨4, 0, 2⟩, ⟨1, 0, 3⟩] = 0 by decide +kernel]
 refine G.yes rfl ?_
 refine G.bin rfl rfl rfl ?_
 refine G.pickT rfl rfl ?_
 refine G.mv rfl ?_
 refine G.yes rfl ?_
 refine G.mv rfl ?_
 refine G.yes rfl ?_
 refine G.call0 rfl rfl (ndepth_ok [⟨4, 0, 2⟩, ⟨1, 0, 3⟩] (by decide)) ?_
 rintro _ _ ⟨rfl, rfl⟩
 refine ⟨rfl, ?_⟩
 change WpOpsG _ _ ((47, _) :: _) _ _
 rw [show depV [⟨4, 0, 2⟩, ⟨1, 0, 3⟩] = 2 by decide +kernel]
 refine G.yes rfl ?_
 refine G.bin rfl rfl rfl ?_
 refine G.pickT rfl rfl ?_
 refine G.mv rfl ?_
 refine G.yes rfl ?_
 refine G.mv rfl ?_
 refine G.yes rfl ?_
 refine G.call0 rfl rfl (nsize_ok [⟨4, 0, 2⟩, ⟨1, 0, 3⟩] 1 (by decide) (by unfold i64; decide)) ?_
 rintro _ _ ⟨rfl, rfl⟩
 refine ⟨rfl, ?_⟩
 change WpOpsG _ _ ((52, _) :: _) _ _
 rw [show sizeV [⟨4, 0, 2⟩, ⟨1, 0, 3⟩] 1 = 1 by decide +kernel]
 refine G.yes rfl ?_
 refine G.bin rfl rfl rfl ?_
 refine G.pickT rfl rfl ?_
 refine G.mv rfl ?_
 refine G.yes rfl ?_
 refine G.mv rfl ?_
 refine G.yes rfl ?_
 refine G.call0 rfl rfl (nsize_ok [⟨4, 0, 2⟩, ⟨1, 0, 3⟩] 9 (by decide) (by unfold i64; decide)) ?_
 rintro _ _ ⟨rfl, rfl⟩
 refine ⟨rfl, ?_⟩
 change WpOpsG _ _ ((57, _) :: _) _ _
 rw [show sizeV [⟨4, 0, 2⟩, ⟨1, 0, 3⟩] 9 = 0 by decide +kernel]
 refine G.yes rfl ?_
 refine G.bin rfl rfl rfl ?_
 refine G.pickT rfl rfl ?_
 refine G.mv rfl ?_
 refine G.yes rfl ?_
 refine G.mv rfl ?_
 refine G.yes rfl ?_
 refine G.bsliceF rfl rfl rfl ?_
 change WpOpsG _ _ ((62, .fsl 1 (([1, 2] : List Int).map encK)) :: _) _ _
 refine G.yes rfl ?_
 refine G.lend rfl rfl (sameI_ok [1, 2] [1, 2] (by decide) (by decide)) ?_
 rintro _ _ ⟨rfl, rfl⟩
 refine ⟨rfl, trivial, rfl, ?_⟩
 change WpOpsG _ _ ((63, _) :: _) _ _
 rw [decide_eq_true rfl]
 refine G.pickT rfl rfl ?_
 refine G.mv rfl ?_
 refine G.yes rfl ?_
 refine G.mv rfl ?_
 refine G.yes rfl ?_
 refine G.mv rfl ?_
 refine G.yes rfl ?_
 refine G.call0 rfl rfl (nsame_ok [⟨4, 0, 2⟩, ⟨1, 0, 3⟩] [⟨4, 0, 2⟩, ⟨1, 0, 3⟩] (by decide) (by decide)) ?_
 rintro _ _ ⟨rfl, rfl⟩
 refine ⟨rfl, ?_⟩
 change WpOpsG _ _ ((68, _) :: _) _ _
 rw [show decide (([⟨4, 0, 2⟩, ⟨1, 0, 3⟩] : List Nd) = [⟨4, 0, 2⟩, ⟨1, 0, 3⟩]) = true by decide]
 refine G.pickT rfl rfl ?_
 refine G.mv rfl ?_
 refine WpOpsG.nil ?_
 change WpG _ _ _ _ _
 refine WpG.ret ?_
 refine ⟨_, [], rfl, (hasP_le (by repeat (first | exact trivial | refine ⟨rfl, ?_⟩))), rfl, rfl, rfl, ?_⟩
 exact ⟨rfl, rfl⟩
end Go.AM.L3
