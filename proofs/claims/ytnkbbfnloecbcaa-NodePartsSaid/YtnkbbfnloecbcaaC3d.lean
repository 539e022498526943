/- Contracts of the functions that the statement reaches. No condition. -/
import Derived.Test.YtnkbbfnloecbcaaC3c
set_option linter.all false
set_option maxRecDepth 10000
namespace Go.AM.L3
open Go.AM.PL
theorem known3_ok  : WpCallG A 11 [] [] (fun v H => v = .v (.bool true) ∧ H = []) := by
  refine WpCallG.intro g11 rfl rfl ?_
  unfold af11
  change WpG _ _ _ _ _
  refine WpG.seq ?_
  refine WpG.reg ?_
  refine G.mv rfl ?_
  refine WpOpsG.nil ?_
  change WpG _ _ _ _ _
  refine WpG.seq ?_
  refine WpG.reg ?_
  refine G.build rfl ?_
  refine G.build rfl ?_
  refine G.bsliceF rfl rfl rfl ?_
  change WpOpsG _ _ ((9, .fsl 3 (([⟨4, 0, 2⟩, ⟨1, 0, 3⟩] : List Nd).map encD)) :: _) _ _
  refine G.mv rfl ?_
  refine WpOpsG.nil ?_
  change WpG _ _ _ _ _
  refine WpG.seq ?_
  refine WpG.reg ?_
  refine G.mv rfl ?_
  refine G.call0 rfl rfl (nlength_ok [⟨4, 0, 2⟩, ⟨1, 0, 3⟩] (by decide)) ?_
  rintro _ _ ⟨rfl, rfl⟩
  refine ⟨rfl, ?_⟩
  change WpOpsG _ _ ((12, _) :: _) _ _
  rw [show lenV [⟨4, 0, 2⟩, ⟨1, 0, 3⟩] = (6, true) by decide +kernel]
  refine G.mv rfl ?_
  refine G.ext rfl rfl ?_
  refine G.ext rfl rfl ?_
  refine G.mv rfl ?_
  refine G.mv rfl ?_
  refine WpOpsG.nil ?_
  change WpG _ _ _ _ _
  refine WpG.seq ?_
  refine WpG.reg ?_
  refine G.build rfl ?_
  refine G.build rfl ?_
  refine G.bsliceF rfl rfl rfl ?_
  change WpOpsG _ _ ((18, .fsl 3 (([⟨4, 0, 4611686018427387904⟩, ⟨1, 0, 3⟩] : List Nd).map encD)) :: _) _ _
  refine G.call0 rfl rfl (nlength_ok [⟨4, 0, 4611686018427387904⟩, ⟨1, 0, 3⟩] (by decide)) ?_
  rintro _ _ ⟨rfl, rfl⟩
  refine ⟨rfl, ?_⟩
  change WpOpsG _ _ ((19, _) :: _) _ _
  rw [show lenV [⟨4, 0, 4611686018427387904⟩, ⟨1, 0, 3⟩] = (0, false) by decide +kernel]
  refine G.mv rfl ?_
  refine G.ext rfl rfl ?_
  refine G.ext rfl rfl ?_
  refine G.mv rfl ?_
  refine G.mv rfl ?_
  refine WpOpsG.nil ?_
  change WpG _ _ _ _ _
  refine WpG.seq ?_
  refine WpG.reg ?_
  refine G.build rfl ?_
  refine G.build rfl ?_
  refine G.build rfl ?_
  refine G.bsliceF rfl rfl rfl ?_
  change WpOpsG _ _ ((25, .fsl 3 (([⟨3, 0, 2⟩, ⟨2, 0, 1⟩, ⟨2, 0, 2⟩] : List Nd).map encD)) :: _) _ _
  refine G.call0 rfl rfl ((nkids_ok [⟨3, 0, 2⟩, ⟨2, 0, 1⟩, ⟨2, 0, 2⟩] 0 [1, 2] (by decide) (by decide) (Fo.kids_one (x := ⟨3, 0, 2⟩) (ks := .cons ⟨2, 0, 1⟩ .nil (.cons ⟨2, 0, 2⟩ .nil .nil)) ⟨by decide, ⟨by decide, trivial, by decide, trivial, trivial⟩, trivial⟩)).ren [(0, 20)]) ?_
  rintro _ _ ⟨_, _, ⟨rfl, rfl⟩, rfl, rfl⟩
  change newOk _ _ [(20, _)] = true ∧ _
  refine ⟨rfl, ?_⟩
  change WpOpsG _ _ ((26, .osl 20) :: _) ([(20, .arr .yes 1 (([1, 2] : List Nat).map encI))] ++ _) _
  refine G.mv rfl ?_
  refine WpOpsG.nil ?_
  change WpG _ _ _ _ _
  refine WpG.seq ?_
  refine WpG.reg ?_
  refine G.mv rfl ?_
  refine G.bin rfl rfl rfl ?_
  refine G.mv rfl ?_
  refine G.yes rfl ?_
  refine G.mv rfl ?_
  first | refine G.pickT rfl rfl ?_ | refine G.pickF rfl rfl ?_ | refine G.pick rfl rfl rfl ?_
  refine G.mv rfl ?_
  refine G.yes rfl ?_
  refine G.mv rfl ?_
  refine G.yes rfl ?_
  refine G.un rfl rfl ?_
  first | refine G.pickT rfl rfl ?_ | refine G.pickF rfl rfl ?_ | refine G.pick rfl rfl rfl ?_
  refine G.mv rfl ?_
  refine G.yes rfl ?_
  refine G.call0 rfl rfl (nil1 (nright_ok [] (by decide))) ?_
  rintro _ _ ⟨rfl, rfl⟩
  refine ⟨rfl, ?_⟩
  change WpOpsG _ _ ((37, _) :: _) _ _
  rw [show rightN [] = 12 by decide +kernel]
  refine G.yes rfl ?_
  refine G.bin rfl rfl rfl ?_
  first | refine G.pickT rfl rfl ?_ | refine G.pickF rfl rfl ?_ | refine G.pick rfl rfl rfl ?_
  refine G.mv rfl ?_
  refine G.yes rfl ?_
  refine G.mv rfl ?_
  refine G.yes rfl ?_
  refine G.call0 rfl rfl (nright_ok [⟨4, 0, 2⟩, ⟨1, 0, 3⟩] (by decide)) ?_
  rintro _ _ ⟨rfl, rfl⟩
  refine ⟨rfl, ?_⟩
  change WpOpsG _ _ ((42, _) :: _) _ _
  rw [show rightN [⟨4, 0, 2⟩, ⟨1, 0, 3⟩] = 0 by decide +kernel]
  refine G.yes rfl ?_
  refine G.bin rfl rfl rfl ?_
  first | refine G.pickT rfl rfl ?_ | refine G.pickF rfl rfl ?_ | refine G.pick rfl rfl rfl ?_
  refine G.mv rfl ?_
  refine G.yes rfl ?_
  refine G.mv rfl ?_
  refine G.yes rfl ?_
  refine G.call0 rfl rfl (ndepth_ok [⟨4, 0, 2⟩, ⟨1, 0, 3⟩] (by decide)) ?_
  rintro _ _ ⟨rfl, rfl⟩
  refine ⟨rfl, ?_⟩
  change WpOpsG _ _ ((47, _) :: _) _ _
  rw [show depV [⟨4, 0, 2⟩, ⟨1, 0, 3⟩] = 2 by decide +kernel]
  refine G.yes rfl ?_
  refine G.bin rfl rfl rfl ?_
  first | refine G.pickT rfl rfl ?_ | refine G.pickF rfl rfl ?_ | refine G.pick rfl rfl rfl ?_
  refine G.mv rfl ?_
  refine G.yes rfl ?_
  refine G.mv rfl ?_
  refine G.yes rfl ?_
  refine G.call0 rfl rfl (nsize_ok [⟨4, 0, 2⟩, ⟨1, 0, 3⟩] 1 (by decide) (by unfold i64; decide)) ?_
  rintro _ _ ⟨rfl, rfl⟩
  refine ⟨rfl, ?_⟩
  change WpOpsG _ _ ((52, _) :: _) _ _
  rw [show sizeV [⟨4, 0, 2⟩, ⟨1, 0, 3⟩] 1 = 1 by decide +kernel]
  refine G.yes rfl ?_
  refine G.bin rfl rfl rfl ?_
  first | refine G.pickT rfl rfl ?_ | refine G.pickF rfl rfl ?_ | refine G.pick rfl rfl rfl ?_
  refine G.mv rfl ?_
  refine G.yes rfl ?_
  refine G.mv rfl ?_
  refine G.yes rfl ?_
  refine G.call0 rfl rfl (nsize_ok [⟨4, 0, 2⟩, ⟨1, 0, 3⟩] 9 (by decide) (by unfold i64; decide)) ?_
  rintro _ _ ⟨rfl, rfl⟩
  refine ⟨rfl, ?_⟩
  change WpOpsG _ _ ((57, _) :: _) _ _
  rw [show sizeV [⟨4, 0, 2⟩, ⟨1, 0, 3⟩] 9 = 0 by decide +kernel]
  refine G.yes rfl ?_
  refine G.bin rfl rfl rfl ?_
  first | refine G.pickT rfl rfl ?_ | refine G.pickF rfl rfl ?_ | refine G.pick rfl rfl rfl ?_
  refine G.mv rfl ?_
  refine G.yes rfl ?_
  refine G.mv rfl ?_
  refine G.yes rfl ?_
  refine G.bsliceF rfl rfl rfl ?_
  change WpOpsG _ _ ((62, .fsl 1 (([1, 2] : List Int).map encK)) :: _) _ _
  refine G.yes rfl ?_
  refine G.lend rfl rfl (sameI_ok [1, 2] [1, 2] (by decide) (by decide)) ?_
  rintro _ _ ⟨rfl, rfl⟩
  refine ⟨rfl, trivial, rfl, ?_⟩
  change WpOpsG _ _ ((63, _) :: _) _ _
  rw [show decide (([1, 2] : List Int) = [1, 2]) = true by decide]
  first | refine G.pickT rfl rfl ?_ | refine G.pickF rfl rfl ?_ | refine G.pick rfl rfl rfl ?_
  refine G.mv rfl ?_
  refine G.yes rfl ?_
  refine G.mv rfl ?_
  refine G.yes rfl ?_
  refine G.mv rfl ?_
  refine G.yes rfl ?_
  refine G.call0 rfl rfl (nsame_ok [⟨4, 0, 2⟩, ⟨1, 0, 3⟩] [⟨4, 0, 2⟩, ⟨1, 0, 3⟩] (by decide) (by decide)) ?_
  rintro _ _ ⟨rfl, rfl⟩
  refine ⟨rfl, ?_⟩
  change WpOpsG _ _ ((68, _) :: _) _ _
  rw [show decide (([⟨4, 0, 2⟩, ⟨1, 0, 3⟩] : List Nd) = [⟨4, 0, 2⟩, ⟨1, 0, 3⟩]) = true by decide]
  first | refine G.pickT rfl rfl ?_ | refine G.pickF rfl rfl ?_ | refine G.pick rfl rfl rfl ?_
  refine G.mv rfl ?_
  refine WpOpsG.nil ?_
  change WpG _ _ _ _ _
  refine WpG.ret ?_
  refine ⟨_, [], rfl, (hasP_le (by repeat (first | exact trivial | refine ⟨rfl, ?_⟩))), rfl, rfl, rfl, ?_⟩
  exact ⟨rfl, rfl⟩
set_option maxHeartbeats 1000000 in
theorem nodeKids_ok (t u : List Int) (ht : t.length ≤ 2 ^ 50) (hi : ∀ x ∈ t, i64 x) (hu : u.length ≤ 2 ^ 50) (hj : ∀ x ∈ u, i64 x) : WpCallG A 5 [.fsl 1 (t.map encK), .fsl 1 (u.map encK)] [] (fun v H => v = .v (.bool true) ∧ H = []) := by
  refine WpCallG.intro g5 rfl rfl ?_
  unfold af5
  change WpG _ _ _ _ _
  refine WpG.seq ?_
  refine WpG.reg ?_
  refine G.mv rfl ?_
  refine WpOpsG.nil ?_
  change WpG _ _ _ _ _
  refine WpG.seq ?_
  refine WpG.reg ?_
  refine G.mv rfl ?_
  refine G.build rfl ?_
  refine G.box (g := 11) rfl rfl rfl ?_
  change WpOpsG _ _ _ ((11, tbox t 0) :: _) _
  refine G.call (P := [(11, tbox t 0)]) rfl (by repeat (first | exact trivial | refine ⟨rfl, ?_⟩)) rfl rfl ((table_ok t 0 3 3 ht hi (Nat.zero_le _) (by decide) (by decide)).ren [(0, 11), (2, 20)]) ?_
  rintro _ _ ⟨_, _, ⟨x, ks, z, hx, _, rfl, rfl⟩, rfl, rfl⟩
  change newOk _ _ [(20, _), (11, tbox t z)] = true ∧ _
  refine ⟨rfl, ?_⟩
  change WpOpsG _ _ ((18, .osl 20) :: _) ([(20, .arr .yes 3 ((Fo.enc (Fo.one x ks)).map encD)), (11, tbox t z)] ++ _) _
  have lx := Fo.tb_len hx (by decide)
  have tx := Fo.tb_tot hx (by decide)
  have px := Fo.tot_pos hx.1 (by intro e; cases e)
  rw [Fo.tot_one hx.1] at px
  have dx := Fo.dep_rng ks
  refine WpOpsG.freeze 20 rfl ?_
  change WpOpsG _ _ ((18, .fsl 3 ((Fo.enc (Fo.one x ks)).map encD)) :: _) _ _
  refine G.mv rfl ?_
  refine G.build rfl ?_
  refine G.box (g := 12) rfl rfl rfl ?_
  change WpOpsG _ _ _ ((12, tbox u 0) :: _) _
  refine G.call (P := [(12, tbox u 0)]) rfl (by repeat (first | exact trivial | refine ⟨rfl, ?_⟩)) rfl rfl ((table_ok u 0 3 3 hu hj (Nat.zero_le _) (by decide) (by decide)).ren [(0, 12), (2, 22)]) ?_
  rintro _ _ ⟨_, _, ⟨y, js, w, hy, _, rfl, rfl⟩, rfl, rfl⟩
  change newOk _ _ [(22, _), (12, tbox u w)] = true ∧ _
  refine ⟨rfl, ?_⟩
  change WpOpsG _ _ ((22, .osl 22) :: _) ([(22, .arr .yes 3 ((Fo.enc (Fo.one y js)).map encD)), (12, tbox u w)] ++ _) _
  have ly := Fo.tb_len hy (by decide)
  have ty := Fo.tb_tot hy (by decide)
  have py := Fo.tot_pos hy.1 (by intro e; cases e)
  rw [Fo.tot_one hy.1] at py
  have dy := Fo.dep_rng js
  refine WpOpsG.freeze 22 rfl ?_
  change WpOpsG _ _ ((22, .fsl 3 ((Fo.enc (Fo.one y js)).map encD)) :: _) _ _
  refine G.mv rfl ?_
  refine G.mv rfl ?_
  refine WpOpsG.nil ?_
  change WpG _ _ _ _ _
  refine WpG.seq ?_
  refine WpG.reg ?_
  refine G.build rfl ?_
  refine G.bslice (g := 21) rfl rfl rfl rfl ?_
  refine G.mv rfl ?_
  refine G.app (ds := (Fo.enc (Fo.one x ks)).map encD) rfl rfl rfl rfl trivial (by simp only [List.length_map, List.length_cons, List.length_nil]; omega) ?_
  refine G.mv rfl ?_
  refine G.app (ds := (Fo.enc (Fo.one y js)).map encD) rfl rfl rfl rfl trivial (by simp only [List.length_append, List.length_map, List.length_cons, List.length_nil]; omega) ?_
  refine WpOpsG.freeze 21 rfl ?_
  change WpOpsG _ _ ((28, .fsl 3 ([encD (⟨3, 0, 2⟩ : Nd)] ++ (Fo.enc (Fo.one x ks)).map encD ++ (Fo.enc (Fo.one y js)).map encD)) :: _) _ _
  rw [show ([encD (⟨3, 0, 2⟩ : Nd)] ++ (Fo.enc (Fo.one x ks)).map encD ++ (Fo.enc (Fo.one y js)).map encD : List (List GV)) = ([(⟨3, 0, 2⟩ : Nd)] ++ (Fo.enc (Fo.one x ks) ++ Fo.enc (Fo.one y js))).map encD by simp]
  have hL : ([(⟨3, 0, 2⟩ : Nd)] ++ (Fo.enc (Fo.one x ks) ++ Fo.enc (Fo.one y js))).length = 1 + ((Fo.enc (Fo.one x ks)).length + (Fo.enc (Fo.one y js)).length) := by simp only [List.length_append, List.length_cons, List.length_nil]
  refine G.mv rfl ?_
  refine WpOpsG.nil ?_
  change WpG _ _ _ _ _
  refine WpG.seq ?_
  refine WpG.reg ?_
  refine G.mv rfl ?_
  refine G.call0 rfl rfl ((nkids_ok ([(⟨3, 0, 2⟩ : Nd)] ++ (Fo.enc (Fo.one x ks) ++ Fo.enc (Fo.one y js))) 0 [1, 1 + (Fo.enc (Fo.one x ks)).length] (by omega) (by decide) (Fo.two_kids hx hy)).ren [(0, 23)]) ?_
  rintro _ _ ⟨_, _, ⟨rfl, rfl⟩, rfl, rfl⟩
  change newOk _ _ [(23, _)] = true ∧ _
  refine ⟨rfl, ?_⟩
  change WpOpsG _ _ ((30, .osl 23) :: _) ([(23, .arr .yes 1 ([1, 1 + (Fo.enc (Fo.one x ks)).length].map encI))] ++ _) _
  refine WpOpsG.freeze 23 rfl ?_
  change WpOpsG _ _ ((30, .fsl 1 ([1, 1 + (Fo.enc (Fo.one x ks)).length].map encI)) :: _) _ _
  refine G.mv rfl ?_
  refine WpOpsG.nil ?_
  change WpG _ _ _ _ _
  refine WpG.seq ?_
  refine WpG.seq ?_
  refine WpG.reg ?_
  refine G.mv rfl ?_
  first | refine G.lenM rfl ?_ | refine G.lenOM rfl rfl ?_ | refine G.lenF rfl ?_ | refine G.lenO rfl rfl ?_ | refine G.lenNil rfl ?_
  refine G.bin rfl rfl rfl ?_
  refine G.mv rfl ?_
  refine G.yes rfl ?_
  refine G.mv rfl ?_
  refine G.yes rfl ?_
  first | refine G.iaddrN rfl rfl (List.getElem?_eq_getElem (by first | omega | (simp only [List.length_map, List.length_append, List.length_cons, List.length_nil, List.length_replicate, List.length_take, List.length_drop, List.length_set]; omega))) ?_ | refine G.iaddrM rfl rfl (by omega) (List.getElem?_eq_getElem (by first | omega | (simp only [List.length_map, List.length_append, List.length_cons, List.length_nil, List.length_replicate, List.length_take, List.length_drop, List.length_set]; omega))) ?_ | refine G.iaddrF rfl rfl (by omega) rfl ?_ | refine G.iaddrO rfl rfl rfl (by omega) (by first | omega | (simp only [List.length_map, List.length_append, List.length_cons, List.length_nil, List.length_replicate, List.length_take, List.length_drop, List.length_set]; omega)) ?_ | refine G.iaddrF rfl rfl (by omega) (List.getElem?_eq_getElem (by first | omega | (simp only [List.length_map, List.length_append, List.length_cons, List.length_nil, List.length_replicate, List.length_take, List.length_drop, List.length_set]; omega))) ?_
  refine G.yes rfl ?_
  first | refine G.load1B rfl rfl rfl ?_ | refine G.load1F rfl rfl ?_ | refine G.load1E rfl rfl (List.getElem?_eq_getElem (by first | omega | (simp only [List.length_map, List.length_append, List.length_cons, List.length_nil, List.length_replicate, List.length_take, List.length_drop, List.length_set]; omega))) rfl ?_ | refine G.load1EM rfl rfl (List.getElem?_eq_getElem (by first | omega | (simp only [List.length_map, List.length_append, List.length_cons, List.length_nil, List.length_replicate, List.length_take, List.length_drop, List.length_set]; omega))) rfl ?_
  refine G.yes rfl ?_
  refine G.bin rfl rfl rfl ?_
  first | refine G.pickT rfl rfl ?_ | refine G.pickF rfl rfl ?_ | refine G.pick rfl rfl rfl ?_
  refine G.mv rfl ?_
  refine G.yes rfl ?_
  refine G.mv rfl ?_
  refine G.yes rfl ?_
  first | refine G.iaddrN rfl rfl (List.getElem?_eq_getElem (by first | omega | (simp only [List.length_map, List.length_append, List.length_cons, List.length_nil, List.length_replicate, List.length_take, List.length_drop, List.length_set]; omega))) ?_ | refine G.iaddrM rfl rfl (by omega) (List.getElem?_eq_getElem (by first | omega | (simp only [List.length_map, List.length_append, List.length_cons, List.length_nil, List.length_replicate, List.length_take, List.length_drop, List.length_set]; omega))) ?_ | refine G.iaddrF rfl rfl (by omega) rfl ?_ | refine G.iaddrO rfl rfl rfl (by omega) (by first | omega | (simp only [List.length_map, List.length_append, List.length_cons, List.length_nil, List.length_replicate, List.length_take, List.length_drop, List.length_set]; omega)) ?_ | refine G.iaddrF rfl rfl (by omega) (List.getElem?_eq_getElem (by first | omega | (simp only [List.length_map, List.length_append, List.length_cons, List.length_nil, List.length_replicate, List.length_take, List.length_drop, List.length_set]; omega))) ?_
  refine G.yes rfl ?_
  first | refine G.load1B rfl rfl rfl ?_ | refine G.load1F rfl rfl ?_ | refine G.load1E rfl rfl (List.getElem?_eq_getElem (by first | omega | (simp only [List.length_map, List.length_append, List.length_cons, List.length_nil, List.length_replicate, List.length_take, List.length_drop, List.length_set]; omega))) rfl ?_ | refine G.load1EM rfl rfl (List.getElem?_eq_getElem (by first | omega | (simp only [List.length_map, List.length_append, List.length_cons, List.length_nil, List.length_replicate, List.length_take, List.length_drop, List.length_set]; omega))) rfl ?_
  refine G.yes rfl ?_
  refine G.mv rfl ?_
  refine G.yes rfl ?_
  first | refine G.lenM rfl ?_ | refine G.lenOM rfl rfl ?_ | refine G.lenF rfl ?_ | refine G.lenO rfl rfl ?_ | refine G.lenNil rfl ?_
  refine G.yes rfl ?_
  first | refine G.addI rfl rfl (by omega) ?_ | refine G.bin rfl rfl rfl ?_
  refine G.yes rfl ?_
  refine G.bin rfl rfl rfl ?_
  rw [show ((([1, 1 + (Fo.enc (Fo.one x ks)).length] : List Nat)[1] : Int) != 1 + ((Fo.enc (Fo.one x ks)).length : Int)) = false by simp]
  first | refine G.pickT rfl rfl ?_ | refine G.pickF rfl rfl ?_ | refine G.pick rfl rfl rfl ?_
  refine G.mv rfl ?_
  refine G.yes rfl ?_
  refine G.mv rfl ?_
  refine G.yes rfl ?_
  refine G.call0 rfl rfl (nsize_ok ([(⟨3, 0, 2⟩ : Nd)] ++ (Fo.enc (Fo.one x ks) ++ Fo.enc (Fo.one y js))) 0 (by omega) (by unfold i64; decide)) ?_
  rintro _ _ ⟨rfl, rfl⟩
  refine ⟨rfl, ?_⟩
  change WpOpsG _ _ ((51, _) :: _) _ _
  rw [Fo.two_size0 hx hy]
  refine G.yes rfl ?_
  refine G.mv rfl ?_
  refine G.yes rfl ?_
  first | refine G.lenM rfl ?_ | refine G.lenOM rfl rfl ?_ | refine G.lenF rfl ?_ | refine G.lenO rfl rfl ?_ | refine G.lenNil rfl ?_
  refine G.yes rfl ?_
  refine G.bin rfl rfl rfl ?_
  rw [show ((([(⟨3, 0, 2⟩ : Nd)] ++ (Fo.enc (Fo.one x ks) ++ Fo.enc (Fo.one y js))).length : Int) != ([(⟨3, 0, 2⟩ : Nd)] ++ (Fo.enc (Fo.one x ks) ++ Fo.enc (Fo.one y js))).length) = false by simp]
  first | refine G.pickT rfl rfl ?_ | refine G.pickF rfl rfl ?_ | refine G.pick rfl rfl rfl ?_
  refine G.mv rfl ?_
  refine G.yes rfl ?_
  refine G.mv rfl ?_
  refine G.yes rfl ?_
  refine G.call0 rfl rfl (nsize_ok ([(⟨3, 0, 2⟩ : Nd)] ++ (Fo.enc (Fo.one x ks) ++ Fo.enc (Fo.one y js))) 1 (by omega) (by unfold i64; decide)) ?_
  rintro _ _ ⟨rfl, rfl⟩
  refine ⟨rfl, ?_⟩
  change WpOpsG _ _ ((58, _) :: _) _ _
  rw [show sizeV ([(⟨3, 0, 2⟩ : Nd)] ++ (Fo.enc (Fo.one x ks) ++ Fo.enc (Fo.one y js))) 1 = ((Fo.enc (Fo.one x ks)).length : Int) from Fo.size_one hx.1 [(⟨3, 0, 2⟩ : Nd)] (Fo.enc (Fo.one y js))]
  refine G.yes rfl ?_
  refine G.mv rfl ?_
  refine G.yes rfl ?_
  first | refine G.lenM rfl ?_ | refine G.lenOM rfl rfl ?_ | refine G.lenF rfl ?_ | refine G.lenO rfl rfl ?_ | refine G.lenNil rfl ?_
  refine G.yes rfl ?_
  refine G.bin rfl rfl rfl ?_
  rw [show (((Fo.enc (Fo.one x ks)).length : Int) != (Fo.enc (Fo.one x ks)).length) = false by simp]
  first | refine G.pickT rfl rfl ?_ | refine G.pickF rfl rfl ?_ | refine G.pick rfl rfl rfl ?_
  refine G.mv rfl ?_
  refine G.yes rfl ?_
  refine G.mv rfl ?_
  refine G.yes rfl ?_
  refine G.mv rfl ?_
  refine G.yes rfl ?_
  first | refine G.lenM rfl ?_ | refine G.lenOM rfl rfl ?_ | refine G.lenF rfl ?_ | refine G.lenO rfl rfl ?_ | refine G.lenNil rfl ?_
  refine G.yes rfl ?_
  first | refine G.addI rfl rfl (by omega) ?_ | refine G.bin rfl rfl rfl ?_
  refine G.yes rfl ?_
  refine G.call0 rfl rfl (nsize_ok ([(⟨3, 0, 2⟩ : Nd)] ++ (Fo.enc (Fo.one x ks) ++ Fo.enc (Fo.one y js))) (2 + ((Fo.enc (Fo.one x ks)).length : Int)) (by omega) (by unfold i64; omega)) ?_
  rintro _ _ ⟨rfl, rfl⟩
  refine ⟨rfl, ?_⟩
  change WpOpsG _ _ ((68, _) :: _) _ _
  have hsz := sizeV_rng ([(⟨3, 0, 2⟩ : Nd)] ++ (Fo.enc (Fo.one x ks) ++ Fo.enc (Fo.one y js))) (2 + ((Fo.enc (Fo.one x ks)).length : Int))
  obtain ⟨sz, hsz2⟩ : ∃ sz, sizeV ([(⟨3, 0, 2⟩ : Nd)] ++ (Fo.enc (Fo.one x ks) ++ Fo.enc (Fo.one y js))) (2 + ((Fo.enc (Fo.one x ks)).length : Int)) = sz := ⟨_, rfl⟩
  rw [hsz2] at hsz ⊢
  refine G.yes rfl ?_
  refine G.mv rfl ?_
  refine G.yes rfl ?_
  first | refine G.lenM rfl ?_ | refine G.lenOM rfl rfl ?_ | refine G.lenF rfl ?_ | refine G.lenO rfl rfl ?_ | refine G.lenNil rfl ?_
  refine G.yes rfl ?_
  refine G.bin rfl rfl rfl ?_
  rw [show decide (sz > ((Fo.enc (Fo.one y js)).length : Int)) = false from decide_eq_false (by omega)]
  first | refine G.pickT rfl rfl ?_ | refine G.pickF rfl rfl ?_ | refine G.pick rfl rfl rfl ?_
  refine WpOpsG.nil ?_
  change WpG _ _ _ _ _
  refine WpG.cond rfl (fun hq1 => absurd hq1 (by first | decide | simp)) (fun hq1 => ?_)
  refine WpG.skip ?_
  change WpG _ _ _ _ _
  refine WpG.seq ?_
  refine WpG.reg ?_
  refine G.mv rfl ?_
  refine G.call0 rfl rfl (nlength_ok (Fo.enc (Fo.one x ks)) (by omega)) ?_
  rintro _ _ ⟨rfl, rfl⟩
  refine ⟨rfl, ?_⟩
  change WpOpsG _ _ ((75, _) :: _) _ _
  rw [Fo.len_one hx.1 (by omega), if_pos (by omega)]
  refine G.mv rfl ?_
  refine G.ext rfl rfl ?_
  refine G.ext rfl rfl ?_
  refine G.mv rfl ?_
  refine G.mv rfl ?_
  refine WpOpsG.nil ?_
  change WpG _ _ _ _ _
  refine WpG.seq ?_
  refine WpG.reg ?_
  refine G.mv rfl ?_
  refine G.call0 rfl rfl (nlength_ok (Fo.enc (Fo.one y js)) (by omega)) ?_
  rintro _ _ ⟨rfl, rfl⟩
  refine ⟨rfl, ?_⟩
  change WpOpsG _ _ ((80, _) :: _) _ _
  rw [Fo.len_one hy.1 (by omega), if_pos (by omega)]
  refine G.mv rfl ?_
  refine G.ext rfl rfl ?_
  refine G.ext rfl rfl ?_
  refine G.mv rfl ?_
  refine G.mv rfl ?_
  refine WpOpsG.nil ?_
  change WpG _ _ _ _ _
  refine WpG.seq ?_
  refine WpG.reg ?_
  refine G.mv rfl ?_
  refine G.call0 rfl rfl (nlength_ok ([(⟨3, 0, 2⟩ : Nd)] ++ (Fo.enc (Fo.one x ks) ++ Fo.enc (Fo.one y js))) (by omega)) ?_
  rintro _ _ ⟨rfl, rfl⟩
  refine ⟨rfl, ?_⟩
  change WpOpsG _ _ ((85, _) :: _) _ _
  rw [Fo.two_len hx hy (by decide)]
  refine G.mv rfl ?_
  refine G.ext rfl rfl ?_
  refine G.ext rfl rfl ?_
  refine G.mv rfl ?_
  refine G.mv rfl ?_
  refine WpOpsG.nil ?_
  change WpG _ _ _ _ _
  refine WpG.seq ?_
  refine WpG.reg ?_
  refine G.mv rfl ?_
  refine G.mv rfl ?_
  refine G.mv rfl ?_
  refine G.yes rfl ?_
  refine G.mv rfl ?_
  first | refine G.pickT rfl rfl ?_ | refine G.pickF rfl rfl ?_ | refine G.pick rfl rfl rfl ?_
  refine G.mv rfl ?_
  refine G.yes rfl ?_
  refine G.mv rfl ?_
  refine G.yes rfl ?_
  refine G.mv rfl ?_
  refine G.yes rfl ?_
  first | refine G.addI rfl rfl (by omega) ?_ | refine G.bin rfl rfl rfl ?_
  refine G.yes rfl ?_
  refine G.bin rfl rfl rfl ?_
  rw [show decide (Fo.lenX x ks.tot + Fo.lenX y js.tot ≤ 4096) = true from decide_eq_true (by omega)]
  first | refine G.pickT rfl rfl ?_ | refine G.pickF rfl rfl ?_ | refine G.pick rfl rfl rfl ?_
  refine G.beq rfl rfl rfl ?_
  refine G.mv rfl ?_
  refine G.yes rfl ?_
  refine G.mv rfl ?_
  refine G.yes rfl ?_
  refine G.un rfl rfl ?_
  refine G.yes rfl ?_
  refine G.mv rfl ?_
  refine G.yes rfl ?_
  refine G.mv rfl ?_
  refine G.yes rfl ?_
  refine G.mv rfl ?_
  refine G.yes rfl ?_
  refine G.mv rfl ?_
  refine G.yes rfl ?_
  first | refine G.addI rfl rfl (by omega) ?_ | refine G.bin rfl rfl rfl ?_
  refine G.yes rfl ?_
  refine G.bin rfl rfl rfl ?_
  rw [show ((Fo.lenX x ks.tot + Fo.lenX y js.tot : Int) == Fo.lenX x ks.tot + Fo.lenX y js.tot) = true by simp]
  refine G.yes rfl ?_
  first | refine G.pickT rfl rfl ?_ | refine G.pickF rfl rfl ?_ | refine G.pick rfl rfl rfl ?_
  first | refine G.pickT rfl rfl ?_ | refine G.pickF rfl rfl ?_ | refine G.pick rfl rfl rfl ?_
  refine G.mv rfl ?_
  refine G.yes rfl ?_
  refine G.mv rfl ?_
  refine G.yes rfl ?_
  refine G.call0 rfl rfl (ndepth_ok ([(⟨3, 0, 2⟩ : Nd)] ++ (Fo.enc (Fo.one x ks) ++ Fo.enc (Fo.one y js))) (by omega)) ?_
  rintro _ _ ⟨rfl, rfl⟩
  refine ⟨rfl, ?_⟩
  change WpOpsG _ _ ((113, _) :: _) _ _
  rw [Fo.two_dep hx hy (by decide)]
  refine G.yes rfl ?_
  refine G.mv rfl ?_
  refine G.yes rfl ?_
  refine G.call0 rfl rfl (ndepth_ok (Fo.enc (Fo.one x ks)) (by omega)) ?_
  rintro _ _ ⟨rfl, rfl⟩
  refine ⟨rfl, ?_⟩
  change WpOpsG _ _ ((115, _) :: _) _ _
  rw [Fo.dep_one hx.1 (by omega)]
  refine G.yes rfl ?_
  refine G.mv rfl ?_
  refine G.yes rfl ?_
  refine G.call0 rfl rfl (ndepth_ok (Fo.enc (Fo.one y js)) (by omega)) ?_
  rintro _ _ ⟨rfl, rfl⟩
  refine ⟨rfl, ?_⟩
  change WpOpsG _ _ ((117, _) :: _) _ _
  rw [Fo.dep_one hy.1 (by omega)]
  refine G.yes rfl ?_
  refine G.mx rfl rfl ?_
  have hxd := hx.2.2.1
  have hyd := hy.2.2.1
  refine G.yes rfl ?_
  first | refine G.addI rfl rfl (by omega) ?_ | refine G.bin rfl rfl rfl ?_
  refine G.yes rfl ?_
  refine G.bin rfl rfl rfl ?_
  rw [show ((1 + max (1 + ks.dep) (1 + js.dep) : Int) == 1 + max (1 + ks.dep) (1 + js.dep)) = true by simp]
  first | refine G.pickT rfl rfl ?_ | refine G.pickF rfl rfl ?_ | refine G.pick rfl rfl rfl ?_
  refine G.mv rfl ?_
  refine G.yes rfl ?_
  refine G.call0 rfl rfl (known3_ok) ?_
  rintro _ _ ⟨rfl, rfl⟩
  refine ⟨rfl, ?_⟩
  change WpOpsG _ _ ((123, _) :: _) _ _
  first | refine G.pickT rfl rfl ?_ | refine G.pickF rfl rfl ?_ | refine G.pick rfl rfl rfl ?_
  refine G.mv rfl ?_
  refine WpOpsG.nil ?_
  change WpG _ _ _ _ _
  refine WpG.ret ?_
  refine ⟨_, [], rfl, (hasP_le (by repeat (first | exact trivial | refine ⟨rfl, ?_⟩))), rfl, rfl, rfl, ?_⟩
  exact ⟨rfl, rfl⟩
end Go.AM.L3
