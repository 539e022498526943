/- Contracts of the functions that the statement reaches. No condition. -/
import Derived.Test.YtbnhmpjcmgbabaaC17e
import Derived.Test.YtbnhmpjcmgbabaaPL17c
set_option linter.all false
set_option maxRecDepth 10000
namespace Go.AM.L17
open Go.AM.PL
theorem portOrder_ok (ns : List Int) (size : Int) (takes : List Int) (hn : ns.length ≤ 2 ^ 50) (hns : ∀ x ∈ ns, 0 ≤ x ∧ x < 4294967296) (hs : i64 size) (ht : takes.length ≤ 2 ^ 50) (hti : ∀ x ∈ takes, i64 x) : WpCallG A 5 [.fsl 1 (ns.map encU), .v (.int .i64 size), .fsl 1 (takes.map encK)] [] (fun v H => v = .v (.bool true) ∧ H = []) := by
  refine WpCallG.intro g5 rfl rfl ?_
  unfold af5
  change WpG _ _ _ _ _
  refine WpG.seq ?_
  refine WpG.reg ?_
  refine G.mv rfl ?_
  refine WpOpsG.nil ?_
  change WpG _ _ _ _ _
  refine WpG.seq ?_
  refine WpG.reg ?_
  refine G.mv rfl ?_
  refine G.call0 rfl rfl (within_ok size 1 8 hs (by decide) (by decide) (by decide)) ?_
  rintro _ _ ⟨rfl, rfl⟩
  refine ⟨rfl, ?_⟩
  change WpOpsG _ _ ((17, _) :: _) _ _
  have hk := within_rng size 1 8 (by decide)
  obtain ⟨kk, hkk⟩ : ∃ kk, within size 1 8 = kk := ⟨_, rfl⟩
  rw [hkk] at hk ⊢
  refine G.mv rfl ?_
  refine WpOpsG.nil ?_
  change WpG _ _ _ _ _
  refine WpG.seq ?_
  refine WpG.reg ?_
  refine G.mv rfl ?_
  refine G.build rfl ?_
  refine G.build rfl ?_
  refine G.bsliceF rfl rfl rfl ?_
  change WpOpsG _ _ ((21, .fsl 6 ((oC kk).map encC)) :: _) _ _
  refine G.call0 rfl rfl ((new_ok (oC kk) (by show 2 ≤ 2 ^ 30; decide)).ren [(0, 10), (1, 11)]) ?_
  rintro _ _ ⟨_, _, ⟨rfl, rfl⟩, rfl, rfl⟩
  change newOk _ _ [(10, .box [.fsl 6 ((oC kk).map encC), .msl 11]), (11, .mat 1 _)] = true ∧ _
  refine ⟨rfl, ?_⟩
  change WpOpsG _ _ ((22, .bptr 10 0) :: _) ([(10, .box [.fsl 6 ((oC kk).map encC), .msl 11]), (11, .mat 1 (encHas (List.replicate (oC kk).length [])))] ++ _) _
  refine G.mv rfl ?_
  refine WpOpsG.nil ?_
  change WpG _ _ _ _ _
  refine WpG.seq ?_
  refine WpG.seq ?_
  refine WpG.reg ?_
  refine G.mv rfl ?_
  first | refine G.eqnilB rfl ?_ | refine G.eqnilP rfl ?_ | refine G.eqnilF rfl (fun hnil24 hnil24_e => ?_)
  refine WpOpsG.nil ?_
  change WpG _ _ _ _ _
  refine WpG.cond rfl (fun hq1 => absurd hq1 (by first | decide | simp)) (fun hq1 => ?_)
  refine WpG.skip ?_
  change WpG _ _ _ _ _
  refine WpG.seq ?_
  refine WpG.reg ?_
  refine G.mv rfl ?_
  refine WpOpsG.nil ?_
  change WpG _ _ _ _ _
  refine WpG.seq ?_
  refine WpG.seq ?_
  refine WpG.reg ?_
  refine G.mv rfl ?_
  refine WpOpsG.nil ?_
  change WpG _ _ _ _ _
  refine WpG.block ?_
  refine WpG.ownNil (g := 20) (k := 9) (w := 1) rfl rfl ?_
  refine WpG.loop (S := Nat × List Int × List Int) (fun s => [(0, .fsl 1 (ns.map encU)), (2, .fsl 1 (takes.map encK)), (7, .v (.int .i64 kk)), (8, .bptr 10 0), (9, .osl 20), (10, .v (.int .i64 (s.1 : Int)))]) (fun s => [(20, .arr .yes 1 (s.2.1.map encU)), (10, .box [.fsl 6 ((oC kk).map encC), .msl 11]), (11, .mat 1 (encHas [s.2.1, s.2.2]))]) (fun s => s.1 ≤ ns.length ∧ s.1 ≤ 40 ∧ s.2.1.length ≤ 8 ∧ s.2.2.length ≤ 8) (fun s => 40 - s.1) (fun s => ⟨rfl, rfl⟩) ?_ (0, [], []) ?_ (by repeat (first | exact trivial | refine ⟨rfl, ?_⟩)) (by repeat (first | exact trivial | refine ⟨rfl, ?_⟩)) rfl
  · rintro ⟨i, W, X⟩ ⟨hI, hI2, hW, hX⟩
    dsimp only at hI hI2 hW hX ⊢
    refine WpG.seq ?_
    refine WpG.seq ?_
    refine WpG.reg ?_
    refine G.mv rfl ?_
    refine G.mv rfl ?_
    first | refine G.lenM rfl ?_ | refine G.lenOM rfl rfl ?_ | refine G.lenF rfl ?_ | refine G.lenO rfl rfl ?_ | refine G.lenNil rfl ?_
    refine G.bin rfl rfl rfl ?_
    refine G.mv rfl ?_
    apply G.andS rfl rfl rfl rfl rfl rfl
    case hB =>
      intro hs2
      (try simp only [decide_eq_true_eq, decide_eq_false_iff_not, Bool.or_eq_true, Bool.and_eq_true, Bool.or_eq_false_iff, Bool.and_eq_false_iff, bne_iff_ne, beq_iff_eq, beq_eq_false_iff_ne, bne_eq_false_iff_eq, ne_eq, Bool.not_eq_true', Bool.not_eq_false', Int.not_lt, Int.not_le, Decidable.not_not, List.length_map, List.length_cons, List.length_nil] at hs2)
      refine G.mv rfl ?_
      refine G.bin rfl rfl rfl ?_
      refine WpOpsG.nil ?_
      exact ⟨rfl, (by repeat (first | exact LLe.refl _ | refine LLe.cons rfl ?_)), (by repeat (first | exact HLe.refl _ | refine HLe.cons rfl ?_)), rfl⟩
    refine WpOpsG.nil ?_
    change WpG _ _ _ _ _
    refine WpG.cond rfl (fun hq3 => ?_) (fun hq3 => ?_)
    · (try simp only [decide_eq_true_eq, decide_eq_false_iff_not, Bool.or_eq_true, Bool.and_eq_true, Bool.or_eq_false_iff, Bool.and_eq_false_iff, bne_iff_ne, beq_iff_eq, beq_eq_false_iff_ne, bne_eq_false_iff_eq, ne_eq, Bool.not_eq_true', Bool.not_eq_false', Int.not_lt, Int.not_le, Decidable.not_not, List.length_map, List.length_cons, List.length_nil] at hq3)
      refine WpG.skip ?_
      change WpG _ _ _ _ _
      refine WpG.seq ?_
      refine WpG.block ?_
      refine WpG.seq ?_
      have hil : i < ns.length := by omega
      have hni := (hns ns[i] (List.getElem_mem hil)).2
      obtain ⟨c0, V, hV, hc1, hc2⟩ := ord_send (kk := kk) (n := ns[i]) W X hni
      have hVl := ord_len hV hk.2 hW
      refine WpG.reg ?_
      refine G.mv rfl ?_
      refine G.mv rfl ?_
      refine G.mv rfl ?_
      first | refine G.iaddrN rfl rfl (List.getElem?_eq_getElem (by first | omega | (simp only [List.length_map, List.length_append, List.length_cons, List.length_nil, List.length_replicate, List.length_take, List.length_drop, List.length_set]; omega))) ?_ | refine G.iaddrM rfl rfl (by omega) (List.getElem?_eq_getElem (by first | omega | (simp only [List.length_map, List.length_append, List.length_cons, List.length_nil, List.length_replicate, List.length_take, List.length_drop, List.length_set]; omega))) ?_ | refine G.iaddrF rfl rfl (by omega) rfl ?_ | refine G.iaddrO rfl rfl rfl (by omega) (by first | omega | (simp only [List.length_map, List.length_append, List.length_cons, List.length_nil, List.length_replicate, List.length_take, List.length_drop, List.length_set]; omega)) ?_ | refine G.iaddrF rfl rfl (by omega) (List.getElem?_eq_getElem (by first | omega | (simp only [List.length_map, List.length_append, List.length_cons, List.length_nil, List.length_replicate, List.length_take, List.length_drop, List.length_set]; omega))) ?_
      first | refine G.load1B rfl rfl rfl ?_ | refine G.load1F rfl rfl ?_ | refine G.load1E rfl rfl (List.getElem?_eq_getElem (by first | omega | (simp only [List.length_map, List.length_append, List.length_cons, List.length_nil, List.length_replicate, List.length_take, List.length_drop, List.length_set]; omega))) rfl ?_ | refine G.load1EM rfl rfl (List.getElem?_eq_getElem (by first | omega | (simp only [List.length_map, List.length_append, List.length_cons, List.length_nil, List.length_replicate, List.length_take, List.length_drop, List.length_set]; omega))) rfl ?_
      refine G.call (P := [(10, .box [.fsl 6 ((oC kk).map encC), .msl 11]), (11, .mat 1 (encHas [W, X]))]) rfl (by repeat (first | exact trivial | refine ⟨rfl, ?_⟩)) rfl rfl ((send_ok (oC kk) [W, X] 0 ns[i] (by show 2 ≤ 2 ^ 30; decide) rfl (small2 hW hX)).ren [(1, 10), (2, 11)]) ?_
      rintro _ _ ⟨_, _, ⟨rfl, rfl⟩, rfl, rfl⟩
      rw [hc1, hc2]
      change newOk _ _ [(10, .box [.fsl 6 ((oC kk).map encC), .msl 11]), (11, .mat 1 (encHas [V, X]))] = true ∧ _
      refine ⟨rfl, ?_⟩
      change WpOpsG _ _ ((40, _) :: _) ([(10, .box [.fsl 6 ((oC kk).map encC), .msl 11]), (11, .mat 1 (encHas [V, X]))] ++ _) _
      refine G.mv rfl ?_
      refine WpOpsG.nil ?_
      change WpG _ _ _ _ _
      refine WpG.seq ?_
      refine WpG.seq ?_
      refine WpG.reg ?_
      refine G.mv rfl ?_
      refine G.mv rfl ?_
      refine G.mv rfl ?_
      first | refine G.iaddrN rfl rfl (List.getElem?_eq_getElem (by first | omega | (simp only [List.length_map, List.length_append, List.length_cons, List.length_nil, List.length_replicate, List.length_take, List.length_drop, List.length_set]; omega))) ?_ | refine G.iaddrM rfl rfl (by omega) (List.getElem?_eq_getElem (by first | omega | (simp only [List.length_map, List.length_append, List.length_cons, List.length_nil, List.length_replicate, List.length_take, List.length_drop, List.length_set]; omega))) ?_ | refine G.iaddrF rfl rfl (by omega) rfl ?_ | refine G.iaddrO rfl rfl rfl (by omega) (by first | omega | (simp only [List.length_map, List.length_append, List.length_cons, List.length_nil, List.length_replicate, List.length_take, List.length_drop, List.length_set]; omega)) ?_ | refine G.iaddrF rfl rfl (by omega) (List.getElem?_eq_getElem (by first | omega | (simp only [List.length_map, List.length_append, List.length_cons, List.length_nil, List.length_replicate, List.length_take, List.length_drop, List.length_set]; omega))) ?_
      first | refine G.load1B rfl rfl rfl ?_ | refine G.load1F rfl rfl ?_ | refine G.load1E rfl rfl (List.getElem?_eq_getElem (by first | omega | (simp only [List.length_map, List.length_append, List.length_cons, List.length_nil, List.length_replicate, List.length_take, List.length_drop, List.length_set]; omega))) rfl ?_ | refine G.load1EM rfl rfl (List.getElem?_eq_getElem (by first | omega | (simp only [List.length_map, List.length_append, List.length_cons, List.length_nil, List.length_replicate, List.length_take, List.length_drop, List.length_set]; omega))) rfl ?_
      refine G.call (P := [(10, .box [.fsl 6 ((oC kk).map encC), .msl 11]), (11, .mat 1 (encHas [V, X]))]) rfl (by repeat (first | exact trivial | refine ⟨rfl, ?_⟩)) rfl rfl ((send_ok (oC kk) [V, X] 1 ns[i] (by show 2 ≤ 2 ^ 30; decide) rfl (small2 hVl hX)).ren [(1, 10), (2, 11)]) ?_
      rintro _ _ ⟨_, _, ⟨rfl, rfl⟩, rfl, rfl⟩
      rw [(ord_s1 V X hni).1, (ord_s1 V X hni).2]
      change newOk _ _ [(10, .box [.fsl 6 ((oC kk).map encC), .msl 11]), (11, .mat 1 (encHas [V, [ns[i]]]))] = true ∧ _
      refine ⟨rfl, ?_⟩
      change WpOpsG _ _ ((46, _) :: _) ([(10, .box [.fsl 6 ((oC kk).map encC), .msl 11]), (11, .mat 1 (encHas [V, [ns[i]]]))] ++ _) _
      refine G.bin rfl rfl rfl ?_
      refine G.mv rfl ?_
      refine WpOpsG.known 48 false rfl rfl ?_
      refine G.mv rfl ?_
      refine G.bin rfl rfl rfl ?_
      refine G.mv rfl ?_
      first | refine G.lenM rfl ?_ | refine G.lenOM rfl rfl ?_ | refine G.lenF rfl ?_ | refine G.lenO rfl rfl ?_ | refine G.lenNil rfl ?_
      refine G.mv rfl ?_
      refine G.bin rfl rfl rfl ?_
      refine G.beq rfl rfl rfl ?_
      rw [show (true ^^ ((c0 == 0) == decide ((W.length : Int) < kk))) = false from ord_c1 hV]
      first | refine G.pickT rfl rfl ?_ | refine G.pickF rfl rfl ?_ | refine G.pick rfl rfl rfl ?_
      refine G.mv rfl ?_
      refine WpOpsG.known 57 false rfl rfl ?_
      refine G.mv rfl ?_
      refine G.bin rfl rfl rfl ?_
      refine G.mv rfl ?_
      apply G.andS rfl rfl rfl rfl rfl rfl
      case hB =>
        intro hs4
        (try simp only [decide_eq_true_eq, decide_eq_false_iff_not, Bool.or_eq_true, Bool.and_eq_true, Bool.or_eq_false_iff, Bool.and_eq_false_iff, bne_iff_ne, beq_iff_eq, beq_eq_false_iff_ne, bne_eq_false_iff_eq, ne_eq, Bool.not_eq_true', Bool.not_eq_false', Int.not_lt, Int.not_le, Decidable.not_not, List.length_map, List.length_cons, List.length_nil] at hs4)
        refine G.mv rfl ?_
        refine G.bin rfl rfl rfl ?_
        refine WpOpsG.nil ?_
        exact ⟨rfl, (by repeat (first | exact LLe.refl _ | refine LLe.cons rfl ?_)), (by repeat (first | exact HLe.refl _ | refine HLe.cons rfl ?_)), rfl⟩
      first | refine G.pickT rfl rfl ?_ | refine G.pickF rfl rfl ?_ | refine G.pick rfl rfl rfl ?_
      rw [show ((c0 != 0) && (c0 != 1)) = false from ord_c2 hV]
      refine WpOpsG.nil ?_
      change WpG _ _ _ _ _
      refine WpG.cond rfl (fun hq5 => absurd hq5 (by first | decide | simp)) (fun hq5 => ?_)
      refine WpG.skip ?_
      change WpG _ _ _ _ _
      refine WpG.seqJ ([(0, .fsl 1 (ns.map encU)), (2, .fsl 1 (takes.map encK)), (7, .v (.int .i64 kk)), (8, .bptr 10 0), (9, .osl 20), (10, .v (.int .i64 (i : Int)))]) ([(20, .arr .yes 1 (V.map encU)), (10, .box [.fsl 6 ((oC kk).map encC), .msl 11]), (11, .mat 1 (encHas [V, [ns[i]]]))]) ⟨rfl, rfl⟩ ?_ ?_
      · change WpG _ _ _ _ _
        refine WpG.seq ?_
        refine WpG.reg ?_
        refine G.mv rfl ?_
        refine G.bin rfl rfl rfl ?_
        refine WpOpsG.nil ?_
        change WpG _ _ _ _ _
        refine WpG.cond rfl (fun hq6 => ?_) (fun hq6 => ?_)
        · (try simp only [decide_eq_true_eq, decide_eq_false_iff_not, Bool.or_eq_true, Bool.and_eq_true, Bool.or_eq_false_iff, Bool.and_eq_false_iff, bne_iff_ne, beq_iff_eq, beq_eq_false_iff_ne, bne_eq_false_iff_eq, ne_eq, Bool.not_eq_true', Bool.not_eq_false', Int.not_lt, Int.not_le, Decidable.not_not, List.length_map, List.length_cons, List.length_nil] at hq6)
          refine WpG.reg ?_
          refine G.mv rfl ?_
          refine G.mv rfl ?_
          refine G.mv rfl ?_
          first | refine G.iaddrN rfl rfl (List.getElem?_eq_getElem (by first | omega | (simp only [List.length_map, List.length_append, List.length_cons, List.length_nil, List.length_replicate, List.length_take, List.length_drop, List.length_set]; omega))) ?_ | refine G.iaddrM rfl rfl (by omega) (List.getElem?_eq_getElem (by first | omega | (simp only [List.length_map, List.length_append, List.length_cons, List.length_nil, List.length_replicate, List.length_take, List.length_drop, List.length_set]; omega))) ?_ | refine G.iaddrF rfl rfl (by omega) rfl ?_ | refine G.iaddrO rfl rfl rfl (by omega) (by first | omega | (simp only [List.length_map, List.length_append, List.length_cons, List.length_nil, List.length_replicate, List.length_take, List.length_drop, List.length_set]; omega)) ?_ | refine G.iaddrF rfl rfl (by omega) (List.getElem?_eq_getElem (by first | omega | (simp only [List.length_map, List.length_append, List.length_cons, List.length_nil, List.length_replicate, List.length_take, List.length_drop, List.length_set]; omega))) ?_
          first | refine G.load1B rfl rfl rfl ?_ | refine G.load1F rfl rfl ?_ | refine G.load1E rfl rfl (List.getElem?_eq_getElem (by first | omega | (simp only [List.length_map, List.length_append, List.length_cons, List.length_nil, List.length_replicate, List.length_take, List.length_drop, List.length_set]; omega))) rfl ?_ | refine G.load1EM rfl rfl (List.getElem?_eq_getElem (by first | omega | (simp only [List.length_map, List.length_append, List.length_cons, List.length_nil, List.length_replicate, List.length_take, List.length_drop, List.length_set]; omega))) rfl ?_
          refine G.bsliceF rfl rfl rfl ?_
          first | refine G.app rfl rfl rfl rfl trivial (by first | omega | (simp only [List.length_map, List.length_append, List.length_cons, List.length_nil, List.length_replicate, List.length_take, List.length_drop, List.length_set]; omega)) ?_ | refine G.app rfl rfl rfl rfl (by first | decide | exact Nat.le_refl _) (by first | omega | (simp only [List.length_map, List.length_append, List.length_cons, List.length_nil, List.length_replicate, List.length_take, List.length_drop, List.length_set]; omega)) ?_ | refine G.appNil (g := 10) rfl rfl rfl rfl (by first | omega | (simp only [List.length_map, List.length_append, List.length_cons, List.length_nil, List.length_replicate, List.length_take, List.length_drop, List.length_set]; omega)) ?_
          refine G.mv rfl ?_
          refine WpOpsG.nil ?_
          refine ⟨(by repeat (first | exact trivial | refine ⟨rfl, ?_⟩)), ⟨?_, rfl, rfl, trivial⟩, rfl⟩
          first
            | (rw [show V = W ++ [ns[i]] from ord_T hV (by assumption), List.map_append]; rfl)
            | (rw [show V = W from ord_F hV (by assumption)]; rfl)
        · (try simp only [decide_eq_true_eq, decide_eq_false_iff_not, Bool.or_eq_true, Bool.and_eq_true, Bool.or_eq_false_iff, Bool.and_eq_false_iff, bne_iff_ne, beq_iff_eq, beq_eq_false_iff_ne, bne_eq_false_iff_eq, ne_eq, Bool.not_eq_true', Bool.not_eq_false', Int.not_lt, Int.not_le, Decidable.not_not, List.length_map, List.length_cons, List.length_nil] at hq6)
          refine WpG.skip ?_
          refine ⟨(by repeat (first | exact trivial | refine ⟨rfl, ?_⟩)), ⟨?_, rfl, rfl, trivial⟩, rfl⟩
          first
            | (rw [show V = W ++ [ns[i]] from ord_T hV (by assumption), List.map_append]; rfl)
            | (rw [show V = W from ord_F hV (by assumption)]; rfl)
      change WpG _ _ _ _ _
      refine WpG.seq ?_
      refine WpG.reg ?_
      refine G.mv rfl ?_
      refine G.mv rfl ?_
      first | refine G.lenM rfl ?_ | refine G.lenOM rfl rfl ?_ | refine G.lenF rfl ?_ | refine G.lenO rfl rfl ?_ | refine G.lenNil rfl ?_
      refine G.bin rfl rfl rfl ?_
      refine G.mv rfl ?_
      apply G.andS rfl rfl rfl rfl rfl rfl
      case hB =>
        intro hs7
        (try simp only [decide_eq_true_eq, decide_eq_false_iff_not, Bool.or_eq_true, Bool.and_eq_true, Bool.or_eq_false_iff, Bool.and_eq_false_iff, bne_iff_ne, beq_iff_eq, beq_eq_false_iff_ne, bne_eq_false_iff_eq, ne_eq, Bool.not_eq_true', Bool.not_eq_false', Int.not_lt, Int.not_le, Decidable.not_not, List.length_map, List.length_cons, List.length_nil] at hs7)
        refine G.mv rfl ?_
        refine G.mv rfl ?_
        refine G.iaddrM rfl rfl (by omega) (gd17 0 (by omega)) ?_
        first | refine G.load1B rfl rfl rfl ?_ | refine G.load1F rfl rfl ?_ | refine G.load1E rfl rfl (List.getElem?_eq_getElem (by first | omega | (simp only [List.length_map, List.length_append, List.length_cons, List.length_nil, List.length_replicate, List.length_take, List.length_drop, List.length_set]; omega))) rfl ?_ | refine G.load1EM rfl rfl (List.getElem?_eq_getElem (by first | omega | (simp only [List.length_map, List.length_append, List.length_cons, List.length_nil, List.length_replicate, List.length_take, List.length_drop, List.length_set]; omega))) rfl ?_
        refine G.andK rfl rfl ?_
        refine G.bin rfl rfl rfl ?_
        refine WpOpsG.nil ?_
        exact ⟨rfl, (by repeat (first | exact LLe.refl _ | refine LLe.cons rfl ?_)), (by repeat (first | exact HLe.refl _ | refine HLe.cons rfl ?_)), rfl⟩
      refine G.mv rfl ?_
      apply G.andS rfl rfl rfl rfl rfl rfl
      case hB =>
        intro hs8
        (try simp only [decide_eq_true_eq, decide_eq_false_iff_not, Bool.or_eq_true, Bool.and_eq_true, Bool.or_eq_false_iff, Bool.and_eq_false_iff, bne_iff_ne, beq_iff_eq, beq_eq_false_iff_ne, bne_eq_false_iff_eq, ne_eq, Bool.not_eq_true', Bool.not_eq_false', Int.not_lt, Int.not_le, Decidable.not_not, List.length_map, List.length_cons, List.length_nil] at hs8)
        refine G.mv rfl ?_
        first | refine G.lenM rfl ?_ | refine G.lenOM rfl rfl ?_ | refine G.lenF rfl ?_ | refine G.lenO rfl rfl ?_ | refine G.lenNil rfl ?_
        refine G.bin rfl rfl rfl ?_
        refine WpOpsG.nil ?_
        exact ⟨rfl, (by repeat (first | exact LLe.refl _ | refine LLe.cons rfl ?_)), (by repeat (first | exact HLe.refl _ | refine HLe.cons rfl ?_)), rfl⟩
      refine WpOpsG.nil ?_
      change WpG _ _ _ _ _
      refine WpG.cond rfl (fun hq9 => ?_) (fun hq9 => ?_)
      · (try simp only [decide_eq_true_eq, decide_eq_false_iff_not, Bool.or_eq_true, Bool.and_eq_true, Bool.or_eq_false_iff, Bool.and_eq_false_iff, bne_iff_ne, beq_iff_eq, beq_eq_false_iff_ne, bne_eq_false_iff_eq, ne_eq, Bool.not_eq_true', Bool.not_eq_false', Int.not_lt, Int.not_le, Decidable.not_not, List.length_map, List.length_cons, List.length_nil] at hq9)
        refine WpG.seq ?_
        have hV0 : 0 < V.length := by omega
        refine WpG.reg ?_
        refine G.mv rfl ?_
        refine G.call (P := [(10, .box [.fsl 6 ((oC kk).map encC), .msl 11]), (11, .mat 1 (encHas [V, [ns[i]]]))]) rfl (by repeat (first | exact trivial | refine ⟨rfl, ?_⟩)) rfl rfl ((recv_ok (oC kk) [V, [ns[i]]] 0 (by show 2 ≤ 2 ^ 30; decide) rfl (small2 hVl (by show 1 ≤ 8; decide))).ren [(1, 10), (2, 11)]) ?_
        rintro _ _ ⟨_, _, ⟨rfl, rfl⟩, rfl, rfl⟩
        rw [(ord_r0 hV0).1, (ord_r0 hV0).2.1, (ord_r0 hV0).2.2]
        change newOk _ _ [(10, .box [.fsl 6 ((oC kk).map encC), .msl 11]), (11, .mat 1 (encHas [V.tail, [ns[i]]]))] = true ∧ _
        refine ⟨rfl, ?_⟩
        change WpOpsG _ _ ((93, _) :: _) ([(10, .box [.fsl 6 ((oC kk).map encC), .msl 11]), (11, .mat 1 (encHas [V.tail, [ns[i]]]))] ++ _) _
        refine G.mv rfl ?_
        refine G.ext rfl rfl ?_
        refine G.ext rfl rfl ?_
        refine G.mv rfl ?_
        refine G.mv rfl ?_
        refine WpOpsG.nil ?_
        change WpG _ _ _ _ _
        refine WpG.seq ?_
        refine WpG.reg ?_
        refine G.mv rfl ?_
        refine G.call (P := [(10, .box [.fsl 6 ((oC kk).map encC), .msl 11]), (11, .mat 1 (encHas [V.tail, [ns[i]]]))]) rfl (by repeat (first | exact trivial | refine ⟨rfl, ?_⟩)) rfl rfl ((recv_ok (oC kk) [V.tail, [ns[i]]] 1 (by show 2 ≤ 2 ^ 30; decide) rfl (small2 (by rw [List.length_tail]; omega) (by show 1 ≤ 8; decide))).ren [(1, 10), (2, 11)]) ?_
        rintro _ _ ⟨_, _, ⟨rfl, rfl⟩, rfl, rfl⟩
        rw [ord_r1.1, ord_r1.2.1, ord_r1.2.2]
        change newOk _ _ [(10, .box [.fsl 6 ((oC kk).map encC), .msl 11]), (11, .mat 1 (encHas [V.tail, [ns[i]]]))] = true ∧ _
        refine ⟨rfl, ?_⟩
        change WpOpsG _ _ ((98, _) :: _) ([(10, .box [.fsl 6 ((oC kk).map encC), .msl 11]), (11, .mat 1 (encHas [V.tail, [ns[i]]]))] ++ _) _
        refine G.mv rfl ?_
        refine G.ext rfl rfl ?_
        refine G.ext rfl rfl ?_
        refine G.mv rfl ?_
        refine G.mv rfl ?_
        refine WpOpsG.nil ?_
        change WpG _ _ _ _ _
        refine WpG.seq ?_
        refine WpG.seq ?_
        refine WpG.reg ?_
        refine G.mv rfl ?_
        refine G.mv rfl ?_
        first | refine G.iaddrN rfl rfl (List.getElem?_eq_getElem (by first | omega | (simp only [List.length_map, List.length_append, List.length_cons, List.length_nil, List.length_replicate, List.length_take, List.length_drop, List.length_set]; omega))) ?_ | refine G.iaddrM rfl rfl (by omega) (List.getElem?_eq_getElem (by first | omega | (simp only [List.length_map, List.length_append, List.length_cons, List.length_nil, List.length_replicate, List.length_take, List.length_drop, List.length_set]; omega))) ?_ | refine G.iaddrF rfl rfl (by omega) rfl ?_ | refine G.iaddrO rfl rfl rfl (by omega) (by first | omega | (simp only [List.length_map, List.length_append, List.length_cons, List.length_nil, List.length_replicate, List.length_take, List.length_drop, List.length_set]; omega)) ?_ | refine G.iaddrF rfl rfl (by omega) (List.getElem?_eq_getElem (by first | omega | (simp only [List.length_map, List.length_append, List.length_cons, List.length_nil, List.length_replicate, List.length_take, List.length_drop, List.length_set]; omega))) ?_
        refine G.load1E rfl rfl (head_at (by omega)) rfl ?_
        refine G.bin rfl rfl rfl ?_
        rw [bne_self_eq_false]
        refine G.mv rfl ?_
        refine WpOpsG.known 106 false rfl rfl ?_
        refine G.mv rfl ?_
        refine G.bin rfl rfl rfl ?_
        first | refine G.pickT rfl rfl ?_ | refine G.pickF rfl rfl ?_ | refine G.pick rfl rfl rfl ?_
        refine G.mv rfl ?_
        refine WpOpsG.known 110 false rfl rfl ?_
        refine G.mv rfl ?_
        refine G.mv rfl ?_
        refine G.mv rfl ?_
        first | refine G.iaddrN rfl rfl (List.getElem?_eq_getElem (by first | omega | (simp only [List.length_map, List.length_append, List.length_cons, List.length_nil, List.length_replicate, List.length_take, List.length_drop, List.length_set]; omega))) ?_ | refine G.iaddrM rfl rfl (by omega) (List.getElem?_eq_getElem (by first | omega | (simp only [List.length_map, List.length_append, List.length_cons, List.length_nil, List.length_replicate, List.length_take, List.length_drop, List.length_set]; omega))) ?_ | refine G.iaddrF rfl rfl (by omega) rfl ?_ | refine G.iaddrO rfl rfl rfl (by omega) (by first | omega | (simp only [List.length_map, List.length_append, List.length_cons, List.length_nil, List.length_replicate, List.length_take, List.length_drop, List.length_set]; omega)) ?_ | refine G.iaddrF rfl rfl (by omega) (List.getElem?_eq_getElem (by first | omega | (simp only [List.length_map, List.length_append, List.length_cons, List.length_nil, List.length_replicate, List.length_take, List.length_drop, List.length_set]; omega))) ?_
        first | refine G.load1B rfl rfl rfl ?_ | refine G.load1F rfl rfl ?_ | refine G.load1E rfl rfl (List.getElem?_eq_getElem (by first | omega | (simp only [List.length_map, List.length_append, List.length_cons, List.length_nil, List.length_replicate, List.length_take, List.length_drop, List.length_set]; omega))) rfl ?_ | refine G.load1EM rfl rfl (List.getElem?_eq_getElem (by first | omega | (simp only [List.length_map, List.length_append, List.length_cons, List.length_nil, List.length_replicate, List.length_take, List.length_drop, List.length_set]; omega))) rfl ?_
        refine G.bin rfl rfl rfl ?_
        rw [bne_self_eq_false]
        first | refine G.pickT rfl rfl ?_ | refine G.pickF rfl rfl ?_ | refine G.pick rfl rfl rfl ?_
        refine G.mv rfl ?_
        refine WpOpsG.known 118 false rfl rfl ?_
        refine G.mv rfl ?_
        refine G.bin rfl rfl rfl ?_
        first | refine G.pickT rfl rfl ?_ | refine G.pickF rfl rfl ?_ | refine G.pick rfl rfl rfl ?_
        refine WpOpsG.nil ?_
        change WpG _ _ _ _ _
        refine WpG.cond rfl (fun hq10 => absurd hq10 (by first | decide | simp)) (fun hq10 => ?_)
        refine WpG.skip ?_
        change WpG _ _ _ _ _
        refine WpG.reg ?_
        refine G.mv rfl ?_
        refine G.slO (full' := .yes) rfl rfl rfl (bndG_some rfl (by rw [List.length_map]; omega)) ⟨rfl, rfl⟩ ?_
        rw [show ((V.map encU).take (V.map encU).length).drop (1 : Int).toNat = V.tail.map encU from tail_at]
        refine G.mv rfl ?_
        refine WpOpsG.nil ?_
        change WpG _ _ _ _ _
        refine WpG.reg ?_
        refine G.mv rfl ?_
        first | refine G.addI rfl rfl (by omega) ?_ | refine G.bin rfl rfl rfl ?_
        refine G.mv rfl ?_
        refine WpOpsG.nil ?_
        first
          | exact ⟨(i + 1, V.tail, [ns[i]]), by show 40 - (i + 1) < 40 - i; omega, ⟨by show i + 1 ≤ _; omega, by show i + 1 ≤ _; omega, by show V.tail.length ≤ 8; rw [List.length_tail]; omega, by show 1 ≤ 8; decide⟩, ⟨rfl, rfl, rfl, rfl, rfl, rfl, trivial⟩, ⟨rfl, rfl, rfl, trivial⟩, rfl⟩
          | exact ⟨(i + 1, V, [ns[i]]), by show 40 - (i + 1) < 40 - i; omega, ⟨by show i + 1 ≤ _; omega, by show i + 1 ≤ _; omega, by show V.length ≤ 8; omega, by show 1 ≤ 8; decide⟩, ⟨rfl, rfl, rfl, rfl, rfl, rfl, trivial⟩, ⟨rfl, rfl, rfl, trivial⟩, rfl⟩
      · (try simp only [decide_eq_true_eq, decide_eq_false_iff_not, Bool.or_eq_true, Bool.and_eq_true, Bool.or_eq_false_iff, Bool.and_eq_false_iff, bne_iff_ne, beq_iff_eq, beq_eq_false_iff_ne, bne_eq_false_iff_eq, ne_eq, Bool.not_eq_true', Bool.not_eq_false', Int.not_lt, Int.not_le, Decidable.not_not, List.length_map, List.length_cons, List.length_nil] at hq9)
        refine WpG.skip ?_
        change WpG _ _ _ _ _
        refine WpG.reg ?_
        refine G.mv rfl ?_
        first | refine G.addI rfl rfl (by omega) ?_ | refine G.bin rfl rfl rfl ?_
        refine G.mv rfl ?_
        refine WpOpsG.nil ?_
        first
          | exact ⟨(i + 1, V.tail, [ns[i]]), by show 40 - (i + 1) < 40 - i; omega, ⟨by show i + 1 ≤ _; omega, by show i + 1 ≤ _; omega, by show V.tail.length ≤ 8; rw [List.length_tail]; omega, by show 1 ≤ 8; decide⟩, ⟨rfl, rfl, rfl, rfl, rfl, rfl, trivial⟩, ⟨rfl, rfl, rfl, trivial⟩, rfl⟩
          | exact ⟨(i + 1, V, [ns[i]]), by show 40 - (i + 1) < 40 - i; omega, ⟨by show i + 1 ≤ _; omega, by show i + 1 ≤ _; omega, by show V.length ≤ 8; omega, by show 1 ≤ 8; decide⟩, ⟨rfl, rfl, rfl, rfl, rfl, rfl, trivial⟩, ⟨rfl, rfl, rfl, trivial⟩, rfl⟩
    · (try simp only [decide_eq_true_eq, decide_eq_false_iff_not, Bool.or_eq_true, Bool.and_eq_true, Bool.or_eq_false_iff, Bool.and_eq_false_iff, bne_iff_ne, beq_iff_eq, beq_eq_false_iff_ne, bne_eq_false_iff_eq, ne_eq, Bool.not_eq_true', Bool.not_eq_false', Int.not_lt, Int.not_le, Decidable.not_not, List.length_map, List.length_cons, List.length_nil] at hq3)
      refine WpG.exit ?_
      change WpG _ _ _ _ _
      refine WpG.seq ?_
      refine WpG.reg ?_
      refine G.mv rfl ?_
      refine G.lend rfl rfl ((held_ok (oC kk) [W, X] 0 (by show 2 ≤ 2 ^ 30; decide) rfl (small2 hW hX)).ren [(0, 21)]) ?_
      rintro _ _ ⟨_, _, ⟨rfl, rfl⟩, rfl, rfl⟩
      change _ ∧ flatH [(21, _)] ∧ newOk _ _ [(21, _)] = true ∧ _
      rw [ord_held]
      refine ⟨rfl, ⟨flat_map (fun _ => rfl), trivial⟩, rfl, ?_⟩
      change WpOpsG _ _ ((125, .osl 21) :: _) ([(21, .arr .yes 1 (W.map encU))] ++ _) _
      refine G.mv rfl ?_
      refine G.lend rfl rfl (sameU_ok W W (by omega) (by omega)) ?_
      rintro _ _ ⟨rfl, rfl⟩
      refine ⟨rfl, trivial, rfl, ?_⟩
      change WpOpsG _ _ ((127, _) :: _) _ _
      rw [decide_eq_true rfl]
      refine G.mv rfl ?_
      refine WpOpsG.known 128 true rfl rfl ?_
      refine G.call0 rfl rfl (known17_ok) ?_
      rintro _ _ ⟨rfl, rfl⟩
      refine ⟨rfl, ?_⟩
      change WpOpsG _ _ ((129, _) :: _) _ _
      first | refine G.pickT rfl rfl ?_ | refine G.pickF rfl rfl ?_ | refine G.pick rfl rfl rfl ?_
      refine G.mv rfl ?_
      refine WpOpsG.nil ?_
      change WpG _ _ _ _ _
      refine WpG.ret ?_
      refine ⟨_, [], rfl, (hasP_le (by repeat (first | exact trivial | refine ⟨rfl, ?_⟩))), rfl, rfl, rfl, ?_⟩
      exact ⟨rfl, rfl⟩
  · exact ⟨Nat.zero_le _, by decide, by decide, by decide⟩
end Go.AM.L17
