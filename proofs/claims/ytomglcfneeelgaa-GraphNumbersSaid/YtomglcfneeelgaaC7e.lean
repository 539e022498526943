/- Contracts of the functions that the statement reaches. No condition. -/
import Derived.Test.YtomglcfneeelgaaC7d
set_option linter.all false
set_option maxRecDepth 10000
namespace Go.AM.L7
open Go.AM.PL
theorem known7_ok  : WpCallG A 13 [] [] (fun v H => v = .v (.bool true) ∧ H = []) := by
  refine WpCallG.intro g13 rfl rfl ?_
  unfold af13
  change WpG _ _ _ _ _
  refine WpG.seq ?_
  refine WpG.reg ?_
  refine G.mv rfl ?_
  refine WpOpsG.nil ?_
  change WpG _ _ _ _ _
  refine WpG.seq ?_
  refine WpG.reg ?_
  refine G.mkslice (g := 20) rfl rfl (by omega) (by omega) (by omega) (by omega) rfl rfl rfl rfl ?_
  refine WpOpsG.anyO 20 5 rfl ?_
  change WpOpsG _ _ _ ((20, .arr .yes 11 (zP3.map encP)) :: _) _
  refine WpOpsG.freeze 20 rfl ?_
  refine G.build rfl ?_
  refine G.build rfl ?_
  refine G.bsliceF rfl rfl rfl ?_
  change WpOpsG _ _ ((7, .fsl 6 (kc7.map encC)) :: _) _ _
  refine G.build rfl ?_
  refine G.box (g := 10) rfl rfl rfl ?_
  refine G.storeB rfl rfl rfl rfl rfl rfl ?_
  refine WpOpsG.nil ?_
  change WpG _ _ _ _ _
  refine WpG.seq ?_
  refine WpG.reg ?_
  refine G.loadNB rfl rfl rfl ?_
  refine G.call0 rfl rfl (cfgNil (gsw_ok zP3 kc7 [] (by decide) (by decide))) ?_
  rintro _ _ ⟨rfl, rfl⟩
  refine ⟨rfl, ?_⟩
  change WpOpsG _ _ ((10, _) :: _) _ _
  rw [show matF zP3.length (swG zP3 kc7) = [[true, true, false], [false, true, true], [false, true, true]] by decide +kernel]
  refine G.mv rfl ?_
  refine WpOpsG.nil ?_
  change WpG _ _ _ _ _
  refine WpG.seq ?_
  refine WpG.reg ?_
  refine G.loadNB rfl rfl rfl ?_
  refine G.call0 rfl rfl (cfgNil (gdep_ok zP3 kc7 [] (by decide) (by decide))) ?_
  rintro _ _ ⟨rfl, rfl⟩
  refine ⟨rfl, ?_⟩
  change WpOpsG _ _ ((12, _) :: _) _ _
  rw [show matF zP3.length (depG zP3 kc7) = [[true, true, false], [true, true, true], [false, true, true]] by decide +kernel]
  refine G.mv rfl ?_
  refine WpOpsG.nil ?_
  change WpG _ _ _ _ _
  refine WpG.seq ?_
  refine WpG.reg ?_
  refine G.mv rfl ?_
  refine G.lenM rfl ?_
  refine G.bin rfl rfl rfl ?_
  refine G.mv rfl ?_
  refine WpOpsG.known 16 true rfl rfl ?_
  refine G.mv rfl ?_
  refine G.lenM rfl ?_
  refine G.bin rfl rfl rfl ?_
  refine G.pickT rfl rfl ?_
  refine G.mv rfl ?_
  refine WpOpsG.known 21 true rfl rfl ?_
  refine G.mv rfl ?_
  refine G.iaddrN rfl rfl (List.getElem?_eq_getElem (by (simp only [List.length_map, List.length_append, List.length_cons, List.length_nil, List.length_replicate, List.length_take, List.length_drop, List.length_set]; omega))) ?_
  refine G.load1F rfl rfl ?_
  refine G.iaddrF rfl rfl (by omega) rfl ?_
  refine G.load1F rfl rfl ?_
  refine G.pickT rfl rfl ?_
  refine G.mv rfl ?_
  refine WpOpsG.known 28 true rfl rfl ?_
  refine G.mv rfl ?_
  refine G.iaddrN rfl rfl (List.getElem?_eq_getElem (by (simp only [List.length_map, List.length_append, List.length_cons, List.length_nil, List.length_replicate, List.length_take, List.length_drop, List.length_set]; omega))) ?_
  refine G.load1F rfl rfl ?_
  refine G.iaddrF rfl rfl (by omega) rfl ?_
  refine G.load1F rfl rfl ?_
  refine G.un rfl rfl ?_
  refine G.pickT rfl rfl ?_
  refine G.mv rfl ?_
  refine WpOpsG.known 36 true rfl rfl ?_
  refine G.mv rfl ?_
  refine G.iaddrN rfl rfl (List.getElem?_eq_getElem (by (simp only [List.length_map, List.length_append, List.length_cons, List.length_nil, List.length_replicate, List.length_take, List.length_drop, List.length_set]; omega))) ?_
  refine G.load1F rfl rfl ?_
  refine G.iaddrF rfl rfl (by omega) rfl ?_
  refine G.load1F rfl rfl ?_
  refine G.pickT rfl rfl ?_
  refine G.mv rfl ?_
  refine WpOpsG.known 43 true rfl rfl ?_
  refine G.mv rfl ?_
  refine G.iaddrN rfl rfl (List.getElem?_eq_getElem (by (simp only [List.length_map, List.length_append, List.length_cons, List.length_nil, List.length_replicate, List.length_take, List.length_drop, List.length_set]; omega))) ?_
  refine G.load1F rfl rfl ?_
  refine G.iaddrF rfl rfl (by omega) rfl ?_
  refine G.load1F rfl rfl ?_
  refine G.pickT rfl rfl ?_
  refine G.mv rfl ?_
  refine WpOpsG.known 50 true rfl rfl ?_
  refine G.mv rfl ?_
  refine G.iaddrN rfl rfl (List.getElem?_eq_getElem (by (simp only [List.length_map, List.length_append, List.length_cons, List.length_nil, List.length_replicate, List.length_take, List.length_drop, List.length_set]; omega))) ?_
  refine G.load1F rfl rfl ?_
  refine G.iaddrF rfl rfl (by omega) rfl ?_
  refine G.load1F rfl rfl ?_
  refine G.un rfl rfl ?_
  refine G.pickT rfl rfl ?_
  refine G.mv rfl ?_
  refine WpOpsG.known 58 true rfl rfl ?_
  refine G.loadNB rfl rfl rfl ?_
  refine G.call0 rfl rfl (cfgNil (gfree_ok zP3 kc7 [] (by decide) (by decide) (-1) 0)) ?_
  rintro _ _ ⟨rfl, rfl⟩
  refine ⟨rfl, ?_⟩
  change WpOpsG _ _ ((60, _) :: _) _ _
  rw [show freeG zP3 kc7 (-1) 0 = true by decide +kernel]
  refine G.pickT rfl rfl ?_
  refine G.mv rfl ?_
  refine WpOpsG.known 62 true rfl rfl ?_
  refine G.loadNB rfl rfl rfl ?_
  refine G.call0 rfl rfl (cfgNil (gfree_ok zP3 kc7 [] (by decide) (by decide) 0 2)) ?_
  rintro _ _ ⟨rfl, rfl⟩
  refine ⟨rfl, ?_⟩
  change WpOpsG _ _ ((64, _) :: _) _ _
  rw [show freeG zP3 kc7 0 2 = true by decide +kernel]
  refine G.pickT rfl rfl ?_
  refine G.mv rfl ?_
  refine WpOpsG.known 66 true rfl rfl ?_
  refine G.loadNB rfl rfl rfl ?_
  refine G.call0 rfl rfl (cfgNil (gfree_ok zP3 kc7 [] (by decide) (by decide) 0 9)) ?_
  rintro _ _ ⟨rfl, rfl⟩
  refine ⟨rfl, ?_⟩
  change WpOpsG _ _ ((68, _) :: _) _ _
  rw [show freeG zP3 kc7 0 9 = false by decide +kernel]
  refine G.un rfl rfl ?_
  refine G.pickT rfl rfl ?_
  refine G.mv rfl ?_
  refine WpOpsG.known 71 true rfl rfl ?_
  refine G.call0 rfl rfl (nil1 (gclo_ok [] (by decide) (fun r hr => by cases hr))) ?_
  rintro _ _ ⟨rfl, rfl⟩
  refine ⟨rfl, ?_⟩
  change WpOpsG _ _ ((72, _) :: _) _ _
  rw [show cloV [] = [] by decide +kernel]
  refine G.lenM rfl ?_
  refine G.bin rfl rfl rfl ?_
  refine G.pickT rfl rfl ?_
  refine G.mv rfl ?_
  refine WpOpsG.known 76 true rfl rfl ?_
  refine G.loadNB rfl rfl rfl ?_
  refine G.call0 rfl rfl (cfgNil (greach_ok zP3 kc7 [] (by decide) (by decide) 1)) ?_
  rintro _ _ ⟨rfl, rfl⟩
  refine ⟨rfl, ?_⟩
  change WpOpsG _ _ ((78, _) :: _) _ _
  rw [show reV zP3.length (clo (swG zP3 kc7) zP3.length) 1 = [0, 1, 2] by decide +kernel]
  refine G.bsliceF rfl rfl rfl ?_
  change WpOpsG _ _ ((79, .fsl 1 (([0, 1, 2] : List Nat).map encI)) :: _) _ _
  refine G.call0 rfl rfl (sameI_ok [0, 1, 2] [0, 1, 2] (by decide) (by decide)) ?_
  rintro _ _ ⟨rfl, rfl⟩
  refine ⟨rfl, ?_⟩
  change WpOpsG _ _ ((80, _) :: _) _ _
  rw [decide_eq_true rfl]
  refine G.pickT rfl rfl ?_
  refine G.mv rfl ?_
  refine WpOpsG.known 82 true rfl rfl ?_
  refine G.loadNB rfl rfl rfl ?_
  refine G.call0 rfl rfl (cfgNil (greach_ok zP3 kc7 [] (by decide) (by decide) 0)) ?_
  rintro _ _ ⟨rfl, rfl⟩
  refine ⟨rfl, ?_⟩
  change WpOpsG _ _ ((84, _) :: _) _ _
  rw [show reV zP3.length (clo (swG zP3 kc7) zP3.length) 0 = [0] by decide +kernel]
  refine G.bsliceF rfl rfl rfl ?_
  change WpOpsG _ _ ((85, .fsl 1 (([0] : List Nat).map encI)) :: _) _ _
  refine G.call0 rfl rfl (sameI_ok [0] [0] (by decide) (by decide)) ?_
  rintro _ _ ⟨rfl, rfl⟩
  refine ⟨rfl, ?_⟩
  change WpOpsG _ _ ((86, _) :: _) _ _
  rw [decide_eq_true rfl]
  refine G.pickT rfl rfl ?_
  refine G.mv rfl ?_
  refine WpOpsG.known 88 true rfl rfl ?_
  refine G.loadNB rfl rfl rfl ?_
  refine G.call0 rfl rfl (cfgNil (greach_ok zP3 kc7 [] (by decide) (by decide) 5)) ?_
  rintro _ _ ⟨rfl, rfl⟩
  refine ⟨rfl, ?_⟩
  change WpOpsG _ _ ((90, _) :: _) _ _
  rw [show reV zP3.length (clo (swG zP3 kc7) zP3.length) 5 = [] by decide +kernel]
  refine G.lenM rfl ?_
  refine G.bin rfl rfl rfl ?_
  refine G.pickT rfl rfl ?_
  refine G.mv rfl ?_
  refine WpOpsG.nil ?_
  change WpG _ _ _ _ _
  refine WpG.ret ?_
  refine ⟨_, [], rfl, (hasP_le (by repeat (first | exact trivial | refine ⟨rfl, ?_⟩))), rfl, rfl, rfl, ?_⟩
  exact ⟨rfl, rfl⟩
end Go.AM.L7
