/- Contracts of the functions that the statement reaches. No condition. -/
import Derived.Test.YtnkbbfnloecbcaaC3d
import Derived.Test.YtnkbbfnloecbcaaPL1b
set_option linter.all false
set_option maxRecDepth 10000
namespace Go.AM.L3
open Go.AM.PL
set_option maxHeartbeats 2000000 in
theorem nodeParts_ok (t : List Int) (deep : Int) (ht : t.length ≤ 2 ^ 50) (hi : ∀ x ∈ t, i64 x) (hdp : i64 deep) : WpCallG A 4 [.fsl 1 (t.map encK), .v (.int .i64 deep)] [] (fun v H => v = .v (.bool true) ∧ H = []) := by
  refine WpCallG.intro g4 rfl rfl ?_
  unfold af4
  change WpG _ _ _ _ _
  refine WpG.seq ?_
  refine WpG.reg ?_
  refine G.mv rfl ?_
  refine WpOpsG.nil ?_
  change WpG _ _ _ _ _
  refine WpG.seq ?_
  refine WpG.reg ?_
  refine G.mv rfl ?_
  refine G.build rfl ?_
  refine G.box (g := 11) rfl rfl rfl ?_
  change WpOpsG _ _ _ ((11, tbox t 0) :: _) _
  refine G.mv rfl ?_
  refine G.call0 rfl rfl (within_ok deep 0 4 hdp (by decide) (by decide) (by decide)) ?_
  rintro _ _ ⟨rfl, rfl⟩
  refine ⟨rfl, ?_⟩
  change WpOpsG _ _ ((19, _) :: _) _ _
  obtain ⟨p, hp0, hp4⟩ := within_nat1 deep 4
  rw [show within deep 0 4 = (p : Int) from hp0]
  refine G.call (P := [(11, tbox t 0)]) rfl (by repeat (first | exact trivial | refine ⟨rfl, ?_⟩)) rfl rfl ((table_ok t 0 p 4 ht hi (Nat.zero_le _) (by decide) (by omega)).ren [(0, 11), (2, 20)]) ?_
  rintro _ _ ⟨_, _, ⟨x, ks, z, hx, _, rfl, rfl⟩, rfl, rfl⟩
  change newOk _ _ [(20, _), (11, tbox t z)] = true ∧ _
  refine ⟨rfl, ?_⟩
  change WpOpsG _ _ ((20, .osl 20) :: _) ([(20, .arr .yes 3 ((Fo.enc (Fo.one x ks)).map encD)), (11, tbox t z)] ++ _) _
  have lx := Fo.tb_len hx (by omega)
  have tx := Fo.tb_tot hx (by omega)
  have px := Fo.tot_pos hx.1 (by intro e; cases e)
  rw [Fo.tot_one hx.1] at px
  have dx := Fo.dep_rng ks
  refine WpOpsG.freeze 20 rfl ?_
  change WpOpsG _ _ ((20, .fsl 3 ((Fo.enc (Fo.one x ks)).map encD)) :: _) _ _
  refine G.mv rfl ?_
  refine WpOpsG.nil ?_
  change WpG _ _ _ _ _
  refine WpG.seq ?_
  refine WpG.seq ?_
  refine WpG.reg ?_
  refine G.mv rfl ?_
  refine G.call0 rfl rfl (nright_ok (Fo.enc (Fo.one x ks)) (by omega)) ?_
  rintro _ _ ⟨rfl, rfl⟩
  refine ⟨rfl, ?_⟩
  change WpOpsG _ _ ((22, _) :: _) _ _
  rw [Fo.right_one hx (by omega)]
  refine G.bin rfl rfl rfl ?_
  refine WpOpsG.nil ?_
  change WpG _ _ _ _ _
  refine WpG.cond rfl (fun hq1 => ?_) (fun hq1 => ?_)
  · (try simp only [decide_eq_true_eq, decide_eq_false_iff_not, Bool.or_eq_true, Bool.and_eq_true, Bool.or_eq_false_iff, Bool.and_eq_false_iff, bne_iff_ne, beq_iff_eq, beq_eq_false_iff_ne, bne_eq_false_iff_eq, ne_eq, Bool.not_eq_true', Bool.not_eq_false', Int.not_lt, Int.not_le, Decidable.not_not, List.length_map, List.length_cons, List.length_nil] at hq1)
    refine WpG.seq ?_
    refine WpG.reg ?_
    refine G.mv rfl ?_
    refine G.call0 rfl rfl (rright_ok (Fo.enc (Fo.one x ks)) (by split at hq1 <;> omega) (by omega)) ?_
    rintro _ _ ⟨rfl, rfl⟩
    refine ⟨rfl, ?_⟩
    change WpOpsG _ _ ((25, _) :: _) _ _
    refine G.bin rfl rfl rfl ?_
    refine G.mv rfl ?_
    refine G.yes rfl ?_
    refine G.call0 rfl rfl (known3_ok) ?_
    rintro _ _ ⟨rfl, rfl⟩
    refine ⟨rfl, ?_⟩
    change WpOpsG _ _ ((28, _) :: _) _ _
    first | refine G.pickT rfl rfl ?_ | refine G.pickF rfl rfl ?_ | refine G.pick rfl rfl rfl ?_
    refine G.mv rfl ?_
    refine WpOpsG.nil ?_
    change WpG _ _ _ _ _
    refine WpG.ret ?_
    refine ⟨_, [], rfl, (hasP_le (by repeat (first | exact trivial | refine ⟨rfl, ?_⟩))), rfl, rfl, rfl, ?_⟩
    exact ⟨rfl, rfl⟩
  · (try simp only [decide_eq_true_eq, decide_eq_false_iff_not, Bool.or_eq_true, Bool.and_eq_true, Bool.or_eq_false_iff, Bool.and_eq_false_iff, bne_iff_ne, beq_iff_eq, beq_eq_false_iff_ne, bne_eq_false_iff_eq, ne_eq, Bool.not_eq_true', Bool.not_eq_false', Int.not_lt, Int.not_le, Decidable.not_not, List.length_map, List.length_cons, List.length_nil] at hq1)
    refine WpG.skip ?_
    change WpG _ _ _ _ _
    refine WpG.seq ?_
    refine WpG.reg ?_
    refine G.mv rfl ?_
    refine G.mv rfl ?_
    refine WpOpsG.nil ?_
    change WpG _ _ _ _ _
    refine WpG.seq ?_
    refine WpG.seq ?_
    refine WpG.reg ?_
    refine G.mv rfl ?_
    refine G.call0 rfl rfl ((nkids_ok (Fo.enc (Fo.one x ks)) 0 (Fo.kpos 1 ks) (by omega) (by decide) (Fo.kids_one hx.1)).ren [(0, 23)]) ?_
    rintro _ _ ⟨_, _, ⟨rfl, rfl⟩, rfl, rfl⟩
    change newOk _ _ [(23, _)] = true ∧ _
    refine ⟨rfl, ?_⟩
    change WpOpsG _ _ ((31, .osl 23) :: _) ([(23, .arr .yes 1 ((Fo.kpos 1 ks).map encI))] ++ _) _
    refine WpOpsG.freeze 23 rfl ?_
    change WpOpsG _ _ ((31, .fsl 1 ((Fo.kpos 1 ks).map encI)) :: _) _ _
    have hkl := Fo.kpos_len ks 1
    have hck := Fo.cnt_le ks
    have hv := Fo.parts_val hx (by omega)
    have hU0 := Fo.totU_nn hx.1.2.1
    have hel : (Fo.enc (Fo.one x ks)).length = 1 + (Fo.enc ks).length := by simp [Fo.enc, Fo.one]; omega
    first | refine G.lenM rfl ?_ | refine G.lenOM rfl rfl ?_ | refine G.lenF rfl ?_ | refine G.lenO rfl rfl ?_ | refine G.lenNil rfl ?_
    refine G.mv rfl ?_
    refine WpOpsG.nil ?_
    change WpG _ _ _ _ _
    refine WpG.block ?_
    refine WpG.loop (S := Fo × Fo) (fun s => [(5, .fsl 3 ((Fo.enc (Fo.one x ks)).map encD)), (6, .v (.int .i64 ((1 + (Fo.enc s.1).length : Nat) : Int))), (7, .v (.int .i64 s.1.totU)), (31, .fsl 1 ((Fo.kpos 1 ks).map encI)), (32, .v (.int .i64 ((Fo.kpos 1 ks).length : Int))), (33, .v (.int .i64 (s.1.cnt : Int)))]) (fun _ => []) (fun s => ks = Fo.app s.1 s.2) (fun s => ks.cnt - s.1.cnt) (fun s => ⟨rfl, rfl⟩) ?_ (.nil, ks) ?_ (by repeat (first | exact trivial | refine ⟨rfl, ?_⟩)) (by repeat (first | exact trivial | refine ⟨rfl, ?_⟩)) rfl
    · rintro ⟨f, g⟩ hks
      dsimp only at hks ⊢
      have hcf := Fo.cnt_app f g
      rw [← hks] at hcf
      refine WpG.seq ?_
      refine WpG.reg ?_
      refine G.bin rfl rfl rfl ?_
      refine WpOpsG.nil ?_
      change WpG _ _ _ _ _
      refine WpG.seq ?_
      refine WpG.cond rfl (fun hq2 => ?_) (fun hq2 => ?_)
      · (try simp only [decide_eq_true_eq, decide_eq_false_iff_not, Bool.or_eq_true, Bool.and_eq_true, Bool.or_eq_false_iff, Bool.and_eq_false_iff, bne_iff_ne, beq_iff_eq, beq_eq_false_iff_ne, bne_eq_false_iff_eq, ne_eq, Bool.not_eq_true', Bool.not_eq_false', Int.not_lt, Int.not_le, Decidable.not_not, List.length_map, List.length_cons, List.length_nil] at hq2)
        refine WpG.skip ?_
        change WpG _ _ _ _ _
        refine WpG.seq ?_
        refine WpG.block ?_
        refine WpG.seq ?_
        obtain ⟨y, js, r, rfl⟩ : ∃ y js r, g = Fo.cons y js r := by
          cases g with
          | nil =>
            exfalso
            have := Fo.cnt_app f .nil
            rw [← hks] at this
            have h0 : Fo.nil.cnt = 0 := rfl
            omega
          | cons y js r => exact ⟨y, js, r, rfl⟩
        have hok2 := hx.1.2.1
        rw [hks] at hok2
        have hpt := Fo.ok_parts hok2
        have hyo : (Fo.one y js).ok := ⟨hpt.2.1, hpt.2.2.1, trivial⟩
        have hee : Fo.enc (Fo.one x ks) = (x :: Fo.enc f) ++ (Fo.enc (Fo.one y js) ++ Fo.enc r) := by
          have h1 : Fo.enc ks = Fo.enc f ++ Fo.enc (Fo.cons y js r) := by rw [hks, Fo.enc_app]
          have h2 : Fo.enc (Fo.cons y js r) = Fo.enc (Fo.one y js) ++ Fo.enc r := by simp [Fo.enc, Fo.one]
          rw [h2] at h1
          simp only [Fo.enc, Fo.one, List.append_nil] at h1 ⊢
          rw [h1]; rfl
        have hsz : sizeV (Fo.enc (Fo.one x ks)) (((1 + (Fo.enc f).length) : Nat) : Int) = ((Fo.enc (Fo.one y js)).length : Int) := by
          have h := Fo.size_one hyo (x :: Fo.enc f) (Fo.enc r)
          rw [← hee, List.length_cons, Nat.add_comm] at h
          exact h
        have hyp : 0 < (Fo.enc (Fo.one y js)).length := Fo.enc_pos (by intro e; cases e)
        have hll := congrArg List.length hee
        rw [List.length_append, List.length_append, List.length_cons] at hll
        have hmt : ((Fo.enc (Fo.one x ks)).take ((1 + (Fo.enc f).length) + (Fo.enc (Fo.one y js)).length)).drop (1 + (Fo.enc f).length) = Fo.enc (Fo.one y js) := by
          rw [List.drop_take, Nat.add_sub_cancel_left, hee]
          have e : (1 + (Fo.enc f).length) = (x :: Fo.enc f).length := by rw [List.length_cons]; omega
          rw [e, List.drop_left' rfl, List.take_left' rfl]
        have hUa := Fo.totU_app f (.cons y js r)
        rw [← hks] at hUa
        have hUf := Fo.totU_nn hpt.1
        have hUr := Fo.totU_nn hpt.2.2.2
        have hUc : (Fo.cons y js r).totU = Fo.lenX y js.tot + r.totU := rfl
        have hlr := Fo.lenX_rng (x := y) (t := js.tot) (by rw [hpt.2.1]; omega) (Fo.tot_rng hpt.2.2.1)
        have hdj : 1 + js.dep ≤ ks.dep := by
          have h := Fo.dep_app f (.cons y js r)
          rw [← hks] at h
          have h2 : (Fo.cons y js r).dep = max (1 + js.dep) r.dep := rfl
          omega
        have hdj0 := Fo.dep_rng js
        have hxd := hx.2.2.1
        refine WpG.reg ?_
        refine G.iaddrN rfl rfl (show (Fo.kpos 1 ks)[f.cnt]? = some (1 + (Fo.enc f).length) by rw [hks]; exact Fo.kpos_at 1) ?_
        first | refine G.load1B rfl rfl rfl ?_ | refine G.load1F rfl rfl ?_ | refine G.load1E rfl rfl (List.getElem?_eq_getElem (by first | omega | (simp only [List.length_map, List.length_append, List.length_cons, List.length_nil, List.length_replicate, List.length_take, List.length_drop, List.length_set]; omega))) rfl ?_ | refine G.load1EM rfl rfl (List.getElem?_eq_getElem (by first | omega | (simp only [List.length_map, List.length_append, List.length_cons, List.length_nil, List.length_replicate, List.length_take, List.length_drop, List.length_set]; omega))) rfl ?_
        refine G.mv rfl ?_
        refine WpOpsG.nil ?_
        change WpG _ _ _ _ _
        refine WpG.seq ?_
        refine WpG.reg ?_
        refine G.mv rfl ?_
        refine G.mv rfl ?_
        refine G.call0 rfl rfl (nsize_ok (Fo.enc (Fo.one x ks)) (((1 + (Fo.enc f).length) : Nat) : Int) (by omega) (by unfold i64; omega)) ?_
        rintro _ _ ⟨rfl, rfl⟩
        refine ⟨rfl, ?_⟩
        change WpOpsG _ _ ((39, _) :: _) _ _
        rw [hsz]
        refine G.mv rfl ?_
        refine WpOpsG.nil ?_
        change WpG _ _ _ _ _
        refine WpG.seq ?_
        refine WpG.seq ?_
        refine WpG.reg ?_
        refine G.mv rfl ?_
        refine G.bin rfl rfl rfl ?_
        rw [show decide (((Fo.enc (Fo.one y js)).length : Int) < 1) = false from decide_eq_false (by omega)]
        refine G.mv rfl ?_
        refine G.yes rfl ?_
        refine G.mv rfl ?_
        refine G.yes rfl ?_
        refine G.bin rfl rfl rfl ?_
        rw [show decide ((((1 + (Fo.enc f).length) : Nat) : Int) < 0) = false from decide_eq_false (by omega)]
        first | refine G.pickT rfl rfl ?_ | refine G.pickF rfl rfl ?_ | refine G.pick rfl rfl rfl ?_
        refine G.mv rfl ?_
        refine G.yes rfl ?_
        refine G.mv rfl ?_
        refine G.yes rfl ?_
        refine G.mv rfl ?_
        refine G.yes rfl ?_
        first | refine G.addI rfl rfl (by omega) ?_ | refine G.bin rfl rfl rfl ?_
        rw [show (((1 + (Fo.enc f).length) : Nat) : Int) + ((Fo.enc (Fo.one y js)).length : Int) = (((1 + (Fo.enc f).length) + (Fo.enc (Fo.one y js)).length : Nat) : Int) by omega]
        refine G.yes rfl ?_
        refine G.mv rfl ?_
        refine G.yes rfl ?_
        first | refine G.lenM rfl ?_ | refine G.lenOM rfl rfl ?_ | refine G.lenF rfl ?_ | refine G.lenO rfl rfl ?_ | refine G.lenNil rfl ?_
        refine G.yes rfl ?_
        refine G.bin rfl rfl rfl ?_
        rw [show decide ((((1 + (Fo.enc f).length) + (Fo.enc (Fo.one y js)).length : Nat) : Int) > ((Fo.enc (Fo.one x ks)).length : Int)) = false from decide_eq_false (by omega)]
        first | refine G.pickT rfl rfl ?_ | refine G.pickF rfl rfl ?_ | refine G.pick rfl rfl rfl ?_
        refine WpOpsG.nil ?_
        change WpG _ _ _ _ _
        refine WpG.cond rfl (fun hq3 => absurd hq3 (by first | decide | simp)) (fun hq3 => ?_)
        refine WpG.skip ?_
        change WpG _ _ _ _ _
        refine WpG.seq ?_
        refine WpG.reg ?_
        refine G.mv rfl ?_
        refine G.mv rfl ?_
        refine G.mv rfl ?_
        refine G.mv rfl ?_
        first | refine G.addI rfl rfl (by omega) ?_ | refine G.bin rfl rfl rfl ?_
        rw [show (((1 + (Fo.enc f).length) : Nat) : Int) + ((Fo.enc (Fo.one y js)).length : Int) = (((1 + (Fo.enc f).length) + (Fo.enc (Fo.one y js)).length : Nat) : Int) by omega]
        refine G.slMid (n := (1 + (Fo.enc f).length)) (m := (1 + (Fo.enc f).length) + (Fo.enc (Fo.one y js)).length) rfl rfl rfl (by first | omega | (simp only [List.length_map, List.length_append, List.length_cons, List.length_nil, List.length_replicate, List.length_take, List.length_drop, List.length_set]; omega)) (by first | omega | (simp only [List.length_map, List.length_append, List.length_cons, List.length_nil, List.length_replicate, List.length_take, List.length_drop, List.length_set]; omega)) ?_
        rw [hmt]
        refine G.call0 rfl rfl (nlength_ok (Fo.enc (Fo.one y js)) (by omega)) ?_
        rintro _ _ ⟨rfl, rfl⟩
        refine ⟨rfl, ?_⟩
        change WpOpsG _ _ ((61, _) :: _) _ _
        rw [Fo.len_one hyo (by omega), if_pos (by omega)]
        change WpOpsG _ _ ((61, .tup [.v (.int .i64 (Fo.lenX y js.tot)), .v (.bool true)]) :: _) _ _
        refine G.mv rfl ?_
        refine G.ext rfl rfl ?_
        refine G.ext rfl rfl ?_
        refine G.mv rfl ?_
        refine G.mv rfl ?_
        refine WpOpsG.nil ?_
        change WpG _ _ _ _ _
        refine WpG.seq ?_
        refine WpG.seq ?_
        refine WpG.reg ?_
        refine G.mv rfl ?_
        refine G.un rfl rfl ?_
        refine G.mv rfl ?_
        refine G.yes rfl ?_
        refine G.mv rfl ?_
        refine G.yes rfl ?_
        refine G.mv rfl ?_
        refine G.yes rfl ?_
        refine G.mv rfl ?_
        refine G.yes rfl ?_
        refine G.mv rfl ?_
        refine G.yes rfl ?_
        first | refine G.addI rfl rfl (by omega) ?_ | refine G.bin rfl rfl rfl ?_
        rw [show (((1 + (Fo.enc f).length) : Nat) : Int) + ((Fo.enc (Fo.one y js)).length : Int) = (((1 + (Fo.enc f).length) + (Fo.enc (Fo.one y js)).length : Nat) : Int) by omega]
        refine G.yes rfl ?_
        refine G.slMid (n := (1 + (Fo.enc f).length)) (m := (1 + (Fo.enc f).length) + (Fo.enc (Fo.one y js)).length) rfl rfl rfl (by first | omega | (simp only [List.length_map, List.length_append, List.length_cons, List.length_nil, List.length_replicate, List.length_take, List.length_drop, List.length_set]; omega)) (by first | omega | (simp only [List.length_map, List.length_append, List.length_cons, List.length_nil, List.length_replicate, List.length_take, List.length_drop, List.length_set]; omega)) ?_
        rw [hmt]
        refine G.yes rfl ?_
        refine G.call0 rfl rfl (ndepth_ok (Fo.enc (Fo.one y js)) (by omega)) ?_
        rintro _ _ ⟨rfl, rfl⟩
        refine ⟨rfl, ?_⟩
        change WpOpsG _ _ ((73, _) :: _) _ _
        rw [Fo.dep_one hyo (by omega)]
        refine G.yes rfl ?_
        refine G.mv rfl ?_
        refine G.yes rfl ?_
        refine G.call0 rfl rfl (ndepth_ok (Fo.enc (Fo.one x ks)) (by omega)) ?_
        rintro _ _ ⟨rfl, rfl⟩
        refine ⟨rfl, ?_⟩
        change WpOpsG _ _ ((75, _) :: _) _ _
        rw [Fo.dep_one hx.1 (by omega)]
        refine G.yes rfl ?_
        refine G.bin rfl rfl rfl ?_
        rw [show decide (1 + js.dep ≥ 1 + ks.dep) = false from decide_eq_false (by omega)]
        first | refine G.pickT rfl rfl ?_ | refine G.pickF rfl rfl ?_ | refine G.pick rfl rfl rfl ?_
        refine WpOpsG.nil ?_
        change WpG _ _ _ _ _
        refine WpG.cond rfl (fun hq4 => absurd hq4 (by first | decide | simp)) (fun hq4 => ?_)
        refine WpG.skip ?_
        change WpG _ _ _ _ _
        refine WpG.reg ?_
        refine G.mv rfl ?_
        refine G.mv rfl ?_
        first | refine G.addI rfl rfl (by omega) ?_ | refine G.bin rfl rfl rfl ?_
        refine G.mv rfl ?_
        refine G.mv rfl ?_
        first | refine G.addI rfl rfl (by omega) ?_ | refine G.bin rfl rfl rfl ?_
        refine G.mv rfl ?_
        refine G.mv rfl ?_
        refine WpOpsG.nil ?_
        change WpG _ _ _ _ _
        refine WpG.reg ?_
        first | refine G.addI rfl rfl (by omega) ?_ | refine G.bin rfl rfl rfl ?_
        refine G.mv rfl ?_
        refine WpOpsG.nil ?_
        refine ⟨(f.app (Fo.one y js), r), by show ks.cnt - (f.app (Fo.one y js)).cnt < ks.cnt - f.cnt; rw [Fo.cnt_app]; have : (Fo.one y js).cnt = 1 := rfl; omega, ?_, ⟨rfl, ?_, ?_, rfl, rfl, ?_, trivial⟩, trivial, rfl⟩
        · show ks = Fo.app (Fo.app f (Fo.one y js)) r
          rw [hks, Fo.app_assoc]; rfl
        · rw [Fo.enc_app, List.length_append, ← Nat.add_assoc]; show some (GV.v (.int .i64 (((1 + (Fo.enc f).length : Nat) : Int) + ((Fo.enc (Fo.one y js)).length : Int)))) = _; congr 3
        · rw [Fo.totU_app]; show some (GV.v (.int .i64 (f.totU + Fo.lenX y js.tot))) = some (GV.v (.int .i64 (f.totU + (Fo.lenX y js.tot + 0)))); congr 3; omega
        · rw [Fo.cnt_app]; rfl
      · (try simp only [decide_eq_true_eq, decide_eq_false_iff_not, Bool.or_eq_true, Bool.and_eq_true, Bool.or_eq_false_iff, Bool.and_eq_false_iff, bne_iff_ne, beq_iff_eq, beq_eq_false_iff_ne, bne_eq_false_iff_eq, ne_eq, Bool.not_eq_true', Bool.not_eq_false', Int.not_lt, Int.not_le, Decidable.not_not, List.length_map, List.length_cons, List.length_nil] at hq2)
        refine WpG.exit ?_
        change WpG _ _ _ _ _
        refine WpG.seq ?_
        have hfk : f = ks ∧ g = .nil := by
          cases g with
          | nil => exact ⟨by rw [hks]; exact (Fo.app_nil f).symm, rfl⟩
          | cons y js r =>
            exfalso
            have := Fo.cnt_app f (.cons y js r)
            rw [← hks] at this
            have h0 : (Fo.cons y js r).cnt = 1 + r.cnt := rfl
            omega
        obtain ⟨hf1, hg1⟩ := hfk
        clear hks
        subst hf1
        refine WpG.reg ?_
        refine G.mv rfl ?_
        refine G.call0 rfl rfl (nlength_ok (Fo.enc (Fo.one x f)) (by omega)) ?_
        rintro _ _ ⟨rfl, rfl⟩
        refine ⟨rfl, ?_⟩
        change WpOpsG _ _ ((87, _) :: _) _ _
        rw [Fo.len_one hx.1 (by omega), if_pos (by omega)]
        change WpOpsG _ _ ((87, .tup [.v (.int .i64 (Fo.lenX x f.tot)), .v (.bool true)]) :: _) _ _
        refine G.mv rfl ?_
        refine G.ext rfl rfl ?_
        refine G.ext rfl rfl ?_
        refine G.mv rfl ?_
        refine G.mv rfl ?_
        refine WpOpsG.nil ?_
        change WpG _ _ _ _ _
        refine WpG.seqJ ([(5, .fsl 3 ((Fo.enc (Fo.one x f)).map encD)), (6, .v (.int .i64 ((1 + (Fo.enc f).length : Nat) : Int))), (7, .v (.int .i64 (Fo.lenX x f.tot))), (13, .v (.int .i64 (Fo.lenX x f.tot))), (14, .v (.bool true))]) ([]) ⟨rfl, rfl⟩ ?_ ?_
        · change WpG _ _ _ _ _
          refine WpG.seq ?_
          refine WpG.reg ?_
          refine G.mv rfl ?_
          refine G.iaddrM rfl rfl (by decide) (show (Fo.enc (Fo.one x f))[(0 : Int).toNat]? = some x from rfl) ?_
          first | refine G.faddrB rfl ?_ | refine G.faddrF rfl ?_ | refine G.faddrE rfl ?_
          first | refine G.load1B rfl rfl rfl ?_ | refine G.load1F rfl rfl ?_ | refine G.load1E rfl rfl (List.getElem?_eq_getElem (by first | omega | (simp only [List.length_map, List.length_append, List.length_cons, List.length_nil, List.length_replicate, List.length_take, List.length_drop, List.length_set]; omega))) rfl ?_ | refine G.load1EM rfl rfl (List.getElem?_eq_getElem (by first | omega | (simp only [List.length_map, List.length_append, List.length_cons, List.length_nil, List.length_replicate, List.length_take, List.length_drop, List.length_set]; omega))) rfl ?_
          refine WpOpsG.nil ?_
          change WpG _ _ _ _ _
          refine WpG.block ?_
          refine WpG.seq ?_
          refine WpG.reg ?_
          refine G.bin rfl rfl rfl ?_
          refine G.mv rfl ?_
          refine WpOpsG.nil ?_
          change WpG _ _ _ _ _
          refine WpG.cond rfl (fun hq5 => ?_) (fun hq5 => ?_)
          · (try simp only [decide_eq_true_eq, decide_eq_false_iff_not, Bool.or_eq_true, Bool.and_eq_true, Bool.or_eq_false_iff, Bool.and_eq_false_iff, bne_iff_ne, beq_iff_eq, beq_eq_false_iff_ne, bne_eq_false_iff_eq, ne_eq, Bool.not_eq_true', Bool.not_eq_false', Int.not_lt, Int.not_le, Decidable.not_not, List.length_map, List.length_cons, List.length_nil] at hq5)
            refine WpG.reg ?_
            refine G.mv rfl ?_
            refine G.mv rfl ?_
            refine G.iaddrM rfl rfl (by decide) (show (Fo.enc (Fo.one x f))[(0 : Int).toNat]? = some x from rfl) ?_
            first | refine G.faddrB rfl ?_ | refine G.faddrF rfl ?_ | refine G.faddrE rfl ?_
            first | refine G.load1B rfl rfl rfl ?_ | refine G.load1F rfl rfl ?_ | refine G.load1E rfl rfl (List.getElem?_eq_getElem (by first | omega | (simp only [List.length_map, List.length_append, List.length_cons, List.length_nil, List.length_replicate, List.length_take, List.length_drop, List.length_set]; omega))) rfl ?_ | refine G.load1EM rfl rfl (List.getElem?_eq_getElem (by first | omega | (simp only [List.length_map, List.length_append, List.length_cons, List.length_nil, List.length_replicate, List.length_take, List.length_drop, List.length_set]; omega))) rfl ?_
            refine G.mulI rfl rfl (by rw [hv.1 (by omega)]; omega) ?_
            refine G.mv rfl ?_
            refine WpOpsG.nil ?_
            first
              | (exfalso; omega)
              | (have hv1 := hv.1 (by omega)
                 rw [hv1]; exact ⟨⟨rfl, rfl, rfl, rfl, rfl, trivial⟩, trivial, rfl⟩)
              | (rw [← hv.2.1 (by omega)]; exact ⟨⟨rfl, rfl, rfl, rfl, rfl, trivial⟩, trivial, rfl⟩)
              | (rw [← hv.2.2.1 (by omega)]; exact ⟨⟨rfl, rfl, rfl, rfl, rfl, trivial⟩, trivial, rfl⟩)
          · (try simp only [decide_eq_true_eq, decide_eq_false_iff_not, Bool.or_eq_true, Bool.and_eq_true, Bool.or_eq_false_iff, Bool.and_eq_false_iff, bne_iff_ne, beq_iff_eq, beq_eq_false_iff_ne, bne_eq_false_iff_eq, ne_eq, Bool.not_eq_true', Bool.not_eq_false', Int.not_lt, Int.not_le, Decidable.not_not, List.length_map, List.length_cons, List.length_nil] at hq5)
            refine WpG.seq ?_
            refine WpG.seq ?_
            refine WpG.reg ?_
            refine G.bin rfl rfl rfl ?_
            refine G.mv rfl ?_
            refine WpOpsG.nil ?_
            change WpG _ _ _ _ _
            refine WpG.cond rfl (fun hq6 => ?_) (fun hq6 => ?_)
            · (try simp only [decide_eq_true_eq, decide_eq_false_iff_not, Bool.or_eq_true, Bool.and_eq_true, Bool.or_eq_false_iff, Bool.and_eq_false_iff, bne_iff_ne, beq_iff_eq, beq_eq_false_iff_ne, bne_eq_false_iff_eq, ne_eq, Bool.not_eq_true', Bool.not_eq_false', Int.not_lt, Int.not_le, Decidable.not_not, List.length_map, List.length_cons, List.length_nil] at hq6)
              refine WpG.skip ?_
              change WpG _ _ _ _ _
              refine WpG.cond rfl (fun hq7 => ?_) (fun hq7 => ?_)
              · (try simp only [decide_eq_true_eq, decide_eq_false_iff_not, Bool.or_eq_true, Bool.and_eq_true, Bool.or_eq_false_iff, Bool.and_eq_false_iff, bne_iff_ne, beq_iff_eq, beq_eq_false_iff_ne, bne_eq_false_iff_eq, ne_eq, Bool.not_eq_true', Bool.not_eq_false', Int.not_lt, Int.not_le, Decidable.not_not, List.length_map, List.length_cons, List.length_nil] at hq7)
                refine WpG.reg ?_
                refine G.mv rfl ?_
                refine G.iaddrM rfl rfl (by decide) (show (Fo.enc (Fo.one x f))[(0 : Int).toNat]? = some x from rfl) ?_
                first | refine G.faddrB rfl ?_ | refine G.faddrF rfl ?_ | refine G.faddrE rfl ?_
                first | refine G.load1B rfl rfl rfl ?_ | refine G.load1F rfl rfl ?_ | refine G.load1E rfl rfl (List.getElem?_eq_getElem (by first | omega | (simp only [List.length_map, List.length_append, List.length_cons, List.length_nil, List.length_replicate, List.length_take, List.length_drop, List.length_set]; omega))) rfl ?_ | refine G.load1EM rfl rfl (List.getElem?_eq_getElem (by first | omega | (simp only [List.length_map, List.length_append, List.length_cons, List.length_nil, List.length_replicate, List.length_take, List.length_drop, List.length_set]; omega))) rfl ?_
                refine G.mv rfl ?_
                refine WpOpsG.nil ?_
                first
                  | (exfalso; omega)
                  | (have hv1 := hv.1 (by omega)
                     rw [hv1]; exact ⟨⟨rfl, rfl, rfl, rfl, rfl, trivial⟩, trivial, rfl⟩)
                  | (rw [← hv.2.1 (by omega)]; exact ⟨⟨rfl, rfl, rfl, rfl, rfl, trivial⟩, trivial, rfl⟩)
                  | (rw [← hv.2.2.1 (by omega)]; exact ⟨⟨rfl, rfl, rfl, rfl, rfl, trivial⟩, trivial, rfl⟩)
              · (try simp only [decide_eq_true_eq, decide_eq_false_iff_not, Bool.or_eq_true, Bool.and_eq_true, Bool.or_eq_false_iff, Bool.and_eq_false_iff, bne_iff_ne, beq_iff_eq, beq_eq_false_iff_ne, bne_eq_false_iff_eq, ne_eq, Bool.not_eq_true', Bool.not_eq_false', Int.not_lt, Int.not_le, Decidable.not_not, List.length_map, List.length_cons, List.length_nil] at hq7)
                refine WpG.skip ?_
                first
                  | (exfalso; omega)
                  | (have hv1 := hv.1 (by omega)
                     rw [hv1]; exact ⟨⟨rfl, rfl, rfl, rfl, rfl, trivial⟩, trivial, rfl⟩)
                  | (rw [← hv.2.1 (by omega)]; exact ⟨⟨rfl, rfl, rfl, rfl, rfl, trivial⟩, trivial, rfl⟩)
                  | (rw [← hv.2.2.1 (by omega)]; exact ⟨⟨rfl, rfl, rfl, rfl, rfl, trivial⟩, trivial, rfl⟩)
            · (try simp only [decide_eq_true_eq, decide_eq_false_iff_not, Bool.or_eq_true, Bool.and_eq_true, Bool.or_eq_false_iff, Bool.and_eq_false_iff, bne_iff_ne, beq_iff_eq, beq_eq_false_iff_ne, bne_eq_false_iff_eq, ne_eq, Bool.not_eq_true', Bool.not_eq_false', Int.not_lt, Int.not_le, Decidable.not_not, List.length_map, List.length_cons, List.length_nil] at hq6)
              refine WpG.reg ?_
              refine G.bin rfl rfl rfl ?_
              refine G.mv rfl ?_
              refine WpOpsG.nil ?_
              change WpG _ _ _ _ _
              refine WpG.cond rfl (fun hq8 => ?_) (fun hq8 => ?_)
              · (try simp only [decide_eq_true_eq, decide_eq_false_iff_not, Bool.or_eq_true, Bool.and_eq_true, Bool.or_eq_false_iff, Bool.and_eq_false_iff, bne_iff_ne, beq_iff_eq, beq_eq_false_iff_ne, bne_eq_false_iff_eq, ne_eq, Bool.not_eq_true', Bool.not_eq_false', Int.not_lt, Int.not_le, Decidable.not_not, List.length_map, List.length_cons, List.length_nil] at hq8)
                refine WpG.reg ?_
                refine G.mv rfl ?_
                refine G.iaddrM rfl rfl (by decide) (show (Fo.enc (Fo.one x f))[(0 : Int).toNat]? = some x from rfl) ?_
                first | refine G.faddrB rfl ?_ | refine G.faddrF rfl ?_ | refine G.faddrE rfl ?_
                first | refine G.load1B rfl rfl rfl ?_ | refine G.load1F rfl rfl ?_ | refine G.load1E rfl rfl (List.getElem?_eq_getElem (by first | omega | (simp only [List.length_map, List.length_append, List.length_cons, List.length_nil, List.length_replicate, List.length_take, List.length_drop, List.length_set]; omega))) rfl ?_ | refine G.load1EM rfl rfl (List.getElem?_eq_getElem (by first | omega | (simp only [List.length_map, List.length_append, List.length_cons, List.length_nil, List.length_replicate, List.length_take, List.length_drop, List.length_set]; omega))) rfl ?_
                refine G.mv rfl ?_
                refine WpOpsG.nil ?_
                first
                  | (exfalso; omega)
                  | (have hv1 := hv.1 (by omega)
                     rw [hv1]; exact ⟨⟨rfl, rfl, rfl, rfl, rfl, trivial⟩, trivial, rfl⟩)
                  | (rw [← hv.2.1 (by omega)]; exact ⟨⟨rfl, rfl, rfl, rfl, rfl, trivial⟩, trivial, rfl⟩)
                  | (rw [← hv.2.2.1 (by omega)]; exact ⟨⟨rfl, rfl, rfl, rfl, rfl, trivial⟩, trivial, rfl⟩)
              · (try simp only [decide_eq_true_eq, decide_eq_false_iff_not, Bool.or_eq_true, Bool.and_eq_true, Bool.or_eq_false_iff, Bool.and_eq_false_iff, bne_iff_ne, beq_iff_eq, beq_eq_false_iff_ne, bne_eq_false_iff_eq, ne_eq, Bool.not_eq_true', Bool.not_eq_false', Int.not_lt, Int.not_le, Decidable.not_not, List.length_map, List.length_cons, List.length_nil] at hq8)
                refine WpG.skip ?_
                first
                  | (exfalso; omega)
                  | (have hv1 := hv.1 (by omega)
                     rw [hv1]; exact ⟨⟨rfl, rfl, rfl, rfl, rfl, trivial⟩, trivial, rfl⟩)
                  | (rw [← hv.2.1 (by omega)]; exact ⟨⟨rfl, rfl, rfl, rfl, rfl, trivial⟩, trivial, rfl⟩)
                  | (rw [← hv.2.2.1 (by omega)]; exact ⟨⟨rfl, rfl, rfl, rfl, rfl, trivial⟩, trivial, rfl⟩)
        change WpG _ _ _ _ _
        refine WpG.seq ?_
        refine WpG.reg ?_
        refine G.mv rfl ?_
        refine G.mv rfl ?_
        refine G.yes rfl ?_
        refine G.mv rfl ?_
        refine G.yes rfl ?_
        refine G.mv rfl ?_
        refine G.yes rfl ?_
        refine G.bin rfl rfl rfl ?_
        rw [show ((Fo.lenX x f.tot : Int) == Fo.lenX x f.tot) = true by simp]
        first | refine G.pickT rfl rfl ?_ | refine G.pickF rfl rfl ?_ | refine G.pick rfl rfl rfl ?_
        refine G.mv rfl ?_
        refine G.yes rfl ?_
        refine G.mv rfl ?_
        refine G.yes rfl ?_
        refine G.mv rfl ?_
        refine G.yes rfl ?_
        first | refine G.lenM rfl ?_ | refine G.lenOM rfl rfl ?_ | refine G.lenF rfl ?_ | refine G.lenO rfl rfl ?_ | refine G.lenNil rfl ?_
        refine G.yes rfl ?_
        refine G.bin rfl rfl rfl ?_
        rw [show (((1 + (Fo.enc f).length : Nat) : Int) == ((Fo.enc (Fo.one x f)).length : Int)) = true by rw [hel]; simp]
        first | refine G.pickT rfl rfl ?_ | refine G.pickF rfl rfl ?_ | refine G.pick rfl rfl rfl ?_
        refine G.mv rfl ?_
        refine G.yes rfl ?_
        refine G.mv rfl ?_
        refine G.yes rfl ?_
        refine G.call0 rfl rfl (nsize_ok (Fo.enc (Fo.one x f)) 0 (by omega) (by unfold i64; decide)) ?_
        rintro _ _ ⟨rfl, rfl⟩
        refine ⟨rfl, ?_⟩
        change WpOpsG _ _ ((123, _) :: _) _ _
        rw [show sizeV (Fo.enc (Fo.one x f)) 0 = ((Fo.enc (Fo.one x f)).length : Int) by have h := Fo.size_one hx.1 [] []; rw [List.nil_append, List.append_nil] at h; exact h]
        refine G.yes rfl ?_
        refine G.mv rfl ?_
        refine G.yes rfl ?_
        first | refine G.lenM rfl ?_ | refine G.lenOM rfl rfl ?_ | refine G.lenF rfl ?_ | refine G.lenO rfl rfl ?_ | refine G.lenNil rfl ?_
        refine G.yes rfl ?_
        refine G.bin rfl rfl rfl ?_
        rw [show ((((Fo.enc (Fo.one x f)).length : Int) : Int) == ((Fo.enc (Fo.one x f)).length : Int)) = true by simp]
        first | refine G.pickT rfl rfl ?_ | refine G.pickF rfl rfl ?_ | refine G.pick rfl rfl rfl ?_
        refine G.mv rfl ?_
        refine G.yes rfl ?_
        refine G.call0 rfl rfl (known3_ok) ?_
        rintro _ _ ⟨rfl, rfl⟩
        refine ⟨rfl, ?_⟩
        change WpOpsG _ _ ((129, _) :: _) _ _
        first | refine G.pickT rfl rfl ?_ | refine G.pickF rfl rfl ?_ | refine G.pick rfl rfl rfl ?_
        refine G.mv rfl ?_
        refine WpOpsG.nil ?_
        change WpG _ _ _ _ _
        refine WpG.ret ?_
        refine ⟨_, [], rfl, (hasP_le (by repeat (first | exact trivial | refine ⟨rfl, ?_⟩))), rfl, rfl, rfl, ?_⟩
        exact ⟨rfl, rfl⟩
    · exact rfl
end Go.AM.L3
