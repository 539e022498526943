/- Contracts of the functions that the statement reaches. No condition. -/
import Derived.Test.YtmgeangfplgcbaaC8f
set_option linter.all false
set_option maxRecDepth 10000
namespace Go.AM.L8
open Go.AM.PL
theorem wordMoved_ok (t ats : List Int) (bits : Int) (ht : t.length ≤ 2 ^ 50) (hi : ∀ x ∈ t, i64 x) (hats : ats.length ≤ 2 ^ 50) (hai : ∀ x ∈ ats, i64 x) : WpCallG A 7 [.fsl 1 (t.map encK), .fsl 1 (ats.map encK), .v (.int .i64 bits)] [] (fun v H => v = .v (.bool true) ∧ H = []) := by
  refine WpCallG.intro g7 rfl rfl ?_
  unfold af7
  change WpG _ _ _ _ _
  refine WpG.seq ?_
  refine WpG.reg ?_
  refine G.mv rfl ?_
  refine WpOpsG.nil ?_
  change WpG _ _ _ _ _
  refine WpG.seq ?_
  refine WpG.reg ?_
  refine G.mv rfl ?_
  refine G.build rfl ?_
  refine G.box (g := 11) rfl rfl rfl ?_
  change WpOpsG _ _ _ ((11, tbox t 0) :: _) _
  refine G.call (P := [(11, tbox t 0)]) rfl (by repeat (first | exact trivial | refine ⟨rfl, ?_⟩)) rfl rfl ((truns_ok t 0 4 14 ht hi (by omega) (by decide) (by decide)).ren [(0, 11)]) ?_
  rintro _ _ ⟨_, _, ⟨rfl, rfl⟩, rfl, rfl⟩
  change newOk _ _ [(11, tbox t _)] = true ∧ _
  refine ⟨rfl, ?_⟩
  change WpOpsG _ _ ((22, .fsl 2 ((tapeRuns t 0 4 14).1.map encN)) :: _) ([(11, tbox t _)] ++ _) _
  have hr := tapeRuns_ok t 0 4 14 (by decide) (by decide) (by omega)
  obtain ⟨rs, hrs⟩ : ∃ rs, rs = (tapeRuns t 0 4 14).1 := ⟨_, rfl⟩
  rw [← hrs] at hr ⊢
  have hrN := okT_N4 hr.1
  have hl16 : rs.length ≤ 14 := by have := hr.2.2.1; omega
  refine G.call0 rfl rfl ((rtidy_ok rs (by omega) hrN).ren [(0, 20)]) ?_
  rintro _ _ ⟨_, _, ⟨rfl, rfl⟩, rfl, rfl⟩
  change newOk _ _ [(20, _)] = true ∧ _
  refine ⟨rfl, ?_⟩
  change WpOpsG _ _ ((23, .osl 20) :: _) ([(20, .arr .yes 2 ((tidyV rs).map encN))] ++ _) _
  obtain ⟨l, hl⟩ : ∃ l, tidyV rs = l := ⟨_, rfl⟩
  have hadj : ∀ k, k + 1 < l.length → (l.getD k ⟨0, 0⟩).p ≠ (l.getD (k + 1) ⟨0, 0⟩).p := fun k hk => by rw [← hl] at hk ⊢; exact tidyV_adj hrN hk
  have hlr := tidied_ok hr.1 hl
  have hlN : ∀ r ∈ l, okN r := fun r hr => (hlr r hr).1
  have hll : l.length ≤ rs.length := by rw [← hl]; exact tidyV_len rs
  have hlw : (word l).length < 2 ^ 62 := by rw [← hl]; exact tidied_word hr.1 (by omega)
  rw [hl]
  have h4 : ∀ r ∈ l, -1 ≤ r.p ∧ r.p < 4 := fun r hr => (hlr r hr).2.2
  refine WpOpsG.freeze 20 rfl ?_
  refine G.mv rfl ?_
  refine WpOpsG.nil ?_
  change WpG _ _ _ _ _
  refine WpG.seq ?_
  refine WpG.reg ?_
  refine G.mv rfl ?_
  refine G.call0 rfl rfl (dependence_ok 4 bits (by decide)) ?_
  rintro _ _ ⟨rfl, rfl⟩
  refine ⟨rfl, ?_⟩
  change WpOpsG _ _ ((25, _) :: _) _ _
  refine G.mv rfl ?_
  refine WpOpsG.nil ?_
  change WpG _ _ _ _ _
  refine WpG.seq ?_
  refine WpG.reg ?_
  refine G.mv rfl ?_
  refine G.mv rfl ?_
  refine WpOpsG.nil ?_
  change WpG _ _ _ _ _
  refine WpG.seq ?_
  refine WpG.seq ?_
  refine WpG.reg ?_
  refine G.mv rfl ?_
  refine WpOpsG.nil ?_
  change WpG _ _ _ _ _
  refine WpG.block ?_
  refine WpG.loop (S := Nat) (fun i => [(1, .fsl 1 (ats.map encK)), (7, .fsl 2 (l.map encN)), (8, .fsl 1 ((depM 4 bits).map encBs)), (9, .fsl 2 ((moveV (depM 4 bits) l (ats.take i)).map encN)), (10, .v (.int .i64 (i : Int)))]) (fun _ => []) (fun i => i ≤ ats.length ∧ MInv (depM 4 bits) l (moveV (depM 4 bits) l (ats.take i))) (fun i => 25 - i) (fun s => ⟨rfl, rfl⟩) ?_ 0 ?_ (by repeat (first | exact trivial | refine ⟨rfl, ?_⟩)) (by repeat (first | exact trivial | refine ⟨rfl, ?_⟩)) rfl
  · rintro i ⟨hI, hMI⟩
    refine WpG.seq ?_
    refine WpG.seq ?_
    obtain ⟨X, hX⟩ : ∃ X, moveV (depM 4 bits) l (ats.take i) = X := ⟨_, rfl⟩
    rw [hX] at hMI ⊢
    have hXl := hMI.1
    have hXN : ∀ r ∈ X, okN r := fun r hr => hlN r (hMI.2.1 r hr)
    refine WpG.reg ?_
    refine G.mv rfl ?_
    refine G.mv rfl ?_
    first | refine G.lenM rfl ?_ | refine G.lenOM rfl rfl ?_ | refine G.lenF rfl ?_ | refine G.lenO rfl rfl ?_ | refine G.lenNil rfl ?_
    refine G.bin rfl rfl rfl ?_
    refine G.mv rfl ?_
    apply G.andS rfl rfl rfl rfl rfl rfl
    case hB =>
      intro hs1
      (try simp only [decide_eq_true_eq, decide_eq_false_iff_not, Bool.or_eq_true, Bool.and_eq_true, Bool.or_eq_false_iff, Bool.and_eq_false_iff, bne_iff_ne, beq_iff_eq, beq_eq_false_iff_ne, bne_eq_false_iff_eq, ne_eq, Bool.not_eq_true', Bool.not_eq_false', Int.not_lt, Int.not_le, Decidable.not_not, List.length_map, List.length_cons, List.length_nil] at hs1)
      refine G.mv rfl ?_
      refine G.bin rfl rfl rfl ?_
      refine WpOpsG.nil ?_
      exact ⟨rfl, (by repeat (first | exact LLe.refl _ | refine LLe.cons rfl ?_)), (by repeat (first | exact HLe.refl _ | refine HLe.cons rfl ?_)), rfl⟩
    refine G.mv rfl ?_
    apply G.andS rfl rfl rfl rfl rfl rfl
    case hB =>
      intro hs2
      (try simp only [decide_eq_true_eq, decide_eq_false_iff_not, Bool.or_eq_true, Bool.and_eq_true, Bool.or_eq_false_iff, Bool.and_eq_false_iff, bne_iff_ne, beq_iff_eq, beq_eq_false_iff_ne, bne_eq_false_iff_eq, ne_eq, Bool.not_eq_true', Bool.not_eq_false', Int.not_lt, Int.not_le, Decidable.not_not, List.length_map, List.length_cons, List.length_nil] at hs2)
      refine G.mv rfl ?_
      first | refine G.lenM rfl ?_ | refine G.lenOM rfl rfl ?_ | refine G.lenF rfl ?_ | refine G.lenO rfl rfl ?_ | refine G.lenNil rfl ?_
      refine G.bin rfl rfl rfl ?_
      refine WpOpsG.nil ?_
      exact ⟨rfl, (by repeat (first | exact LLe.refl _ | refine LLe.cons rfl ?_)), (by repeat (first | exact HLe.refl _ | refine HLe.cons rfl ?_)), rfl⟩
    refine WpOpsG.nil ?_
    change WpG _ _ _ _ _
    refine WpG.cond rfl (fun hq3 => ?_) (fun hq3 => ?_)
    · (try simp only [decide_eq_true_eq, decide_eq_false_iff_not, Bool.or_eq_true, Bool.and_eq_true, Bool.or_eq_false_iff, Bool.and_eq_false_iff, bne_iff_ne, beq_iff_eq, beq_eq_false_iff_ne, bne_eq_false_iff_eq, ne_eq, Bool.not_eq_true', Bool.not_eq_false', Int.not_lt, Int.not_le, Decidable.not_not, List.length_map, List.length_cons, List.length_nil] at hq3)
      refine WpG.skip ?_
      change WpG _ _ _ _ _
      refine WpG.seq ?_
      refine WpG.block ?_
      refine WpG.seq ?_
      refine WpG.reg ?_
      refine G.mv rfl ?_
      refine G.mv rfl ?_
      first | refine G.iaddrN rfl rfl (List.getElem?_eq_getElem (by first | omega | (simp only [List.length_map, List.length_append, List.length_cons, List.length_nil, List.length_replicate, List.length_take, List.length_drop, List.length_set]; omega))) ?_ | refine G.iaddrM rfl rfl (by omega) (List.getElem?_eq_getElem (by first | omega | (simp only [List.length_map, List.length_append, List.length_cons, List.length_nil, List.length_replicate, List.length_take, List.length_drop, List.length_set]; omega))) ?_ | refine G.iaddrF rfl rfl (by omega) rfl ?_ | refine G.iaddrO rfl rfl rfl (by omega) (by first | omega | (simp only [List.length_map, List.length_append, List.length_cons, List.length_nil, List.length_replicate, List.length_take, List.length_drop, List.length_set]; omega)) ?_ | refine G.iaddrF rfl rfl (by omega) (List.getElem?_eq_getElem (by first | omega | (simp only [List.length_map, List.length_append, List.length_cons, List.length_nil, List.length_replicate, List.length_take, List.length_drop, List.length_set]; omega))) ?_
      first | refine G.load1B rfl rfl rfl ?_ | refine G.load1F rfl rfl ?_ | refine G.load1E rfl rfl (List.getElem?_eq_getElem (by first | omega | (simp only [List.length_map, List.length_append, List.length_cons, List.length_nil, List.length_replicate, List.length_take, List.length_drop, List.length_set]; omega))) rfl ?_ | refine G.load1EM rfl rfl (List.getElem?_eq_getElem (by first | omega | (simp only [List.length_map, List.length_append, List.length_cons, List.length_nil, List.length_replicate, List.length_take, List.length_drop, List.length_set]; omega))) rfl ?_
      refine G.mv rfl ?_
      first | refine G.lenM rfl ?_ | refine G.lenOM rfl rfl ?_ | refine G.lenF rfl ?_ | refine G.lenO rfl rfl ?_ | refine G.lenNil rfl ?_
      rw [hXl]
      first | refine G.subI rfl rfl (by omega) ?_ | refine G.bin rfl rfl rfl ?_
      rw [show (l.length : Int) - 2 = ((l.length - 2 : Nat) : Int) by omega]
      refine G.call0 rfl rfl (within_ok ats[i] 0 ((l.length - 2 : Nat) : Int) (hai _ (List.getElem_mem (by omega))) (by decide) (by omega) (by omega)) ?_
      rintro _ _ ⟨rfl, rfl⟩
      refine ⟨rfl, ?_⟩
      change WpOpsG _ _ ((49, _) :: _) _ _
      obtain ⟨k, hk, hk2⟩ := within_nat1 ats[i] (l.length - 2)
      rw [hk]
      refine G.mv rfl ?_
      refine WpOpsG.nil ?_
      change WpG _ _ _ _ _
      refine WpG.seq ?_
      have hkl : k + 1 < X.length := by omega
      obtain ⟨u, hu⟩ : ∃ u, X.getD k ⟨0, 0⟩ = u := ⟨_, rfl⟩
      obtain ⟨v, hv⟩ : ∃ v, X.getD (k + 1) ⟨0, 0⟩ = v := ⟨_, rfl⟩
      have hu4 := h4 u (hMI.2.1 _ (by rw [← hu]; exact getD_mem (by omega)))
      have hv4 := h4 v (hMI.2.1 _ (by rw [← hv]; exact getD_mem hkl))
      refine WpG.reg ?_
      refine G.mv rfl ?_
      refine G.mv rfl ?_
      refine G.iaddrM rfl rfl (by omega) (gd8 ⟨0, 0⟩ (by omega)) ?_
      rw [Int.toNat_natCast, hu]
      first | refine G.faddrB rfl ?_ | refine G.faddrF rfl ?_ | refine G.faddrE rfl ?_
      first | refine G.load1B rfl rfl rfl ?_ | refine G.load1F rfl rfl ?_ | refine G.load1E rfl rfl (List.getElem?_eq_getElem (by first | omega | (simp only [List.length_map, List.length_append, List.length_cons, List.length_nil, List.length_replicate, List.length_take, List.length_drop, List.length_set]; omega))) rfl ?_ | refine G.load1EM rfl rfl (List.getElem?_eq_getElem (by first | omega | (simp only [List.length_map, List.length_append, List.length_cons, List.length_nil, List.length_replicate, List.length_take, List.length_drop, List.length_set]; omega))) rfl ?_
      refine G.mv rfl ?_
      refine G.mv rfl ?_
      first | refine G.addI rfl rfl (by omega) ?_ | refine G.bin rfl rfl rfl ?_
      rw [show (k : Int) + 1 = ((k + 1 : Nat) : Int) by omega]
      refine G.iaddrM rfl rfl (by omega) (gd8 ⟨0, 0⟩ (by omega)) ?_
      rw [Int.toNat_natCast, hv]
      first | refine G.faddrB rfl ?_ | refine G.faddrF rfl ?_ | refine G.faddrE rfl ?_
      first | refine G.load1B rfl rfl rfl ?_ | refine G.load1F rfl rfl ?_ | refine G.load1E rfl rfl (List.getElem?_eq_getElem (by first | omega | (simp only [List.length_map, List.length_append, List.length_cons, List.length_nil, List.length_replicate, List.length_take, List.length_drop, List.length_set]; omega))) rfl ?_ | refine G.load1EM rfl rfl (List.getElem?_eq_getElem (by first | omega | (simp only [List.length_map, List.length_append, List.length_cons, List.length_nil, List.length_replicate, List.length_take, List.length_drop, List.length_set]; omega))) rfl ?_
      refine G.mv rfl ?_
      refine G.mv rfl ?_
      refine WpOpsG.nil ?_
      change WpG _ _ _ _ _
      refine WpG.seq ?_
      refine WpG.reg ?_
      refine G.mv rfl ?_
      refine G.bin rfl rfl rfl ?_
      refine G.mv rfl ?_
      apply G.orS rfl rfl rfl rfl rfl rfl
      case hB =>
        intro hs4
        (try simp only [decide_eq_true_eq, decide_eq_false_iff_not, Bool.or_eq_true, Bool.and_eq_true, Bool.or_eq_false_iff, Bool.and_eq_false_iff, bne_iff_ne, beq_iff_eq, beq_eq_false_iff_ne, bne_eq_false_iff_eq, ne_eq, Bool.not_eq_true', Bool.not_eq_false', Int.not_lt, Int.not_le, Decidable.not_not, List.length_map, List.length_cons, List.length_nil] at hs4)
        refine G.mv rfl ?_
        refine G.bin rfl rfl rfl ?_
        refine WpOpsG.nil ?_
        exact ⟨rfl, (by repeat (first | exact LLe.refl _ | refine LLe.cons rfl ?_)), (by repeat (first | exact HLe.refl _ | refine HLe.cons rfl ?_)), rfl⟩
      refine G.mv rfl ?_
      apply G.orS rfl rfl rfl rfl rfl rfl
      case hB =>
        intro hs5
        (try simp only [decide_eq_true_eq, decide_eq_false_iff_not, Bool.or_eq_true, Bool.and_eq_true, Bool.or_eq_false_iff, Bool.and_eq_false_iff, bne_iff_ne, beq_iff_eq, beq_eq_false_iff_ne, bne_eq_false_iff_eq, ne_eq, Bool.not_eq_true', Bool.not_eq_false', Int.not_lt, Int.not_le, Decidable.not_not, List.length_map, List.length_cons, List.length_nil] at hs5)
        refine G.mv rfl ?_
        refine G.mv rfl ?_
        refine G.bin rfl rfl rfl ?_
        refine G.mv rfl ?_
        apply G.andS rfl rfl rfl rfl rfl rfl
        case hB =>
          intro hs6
          (try simp only [decide_eq_true_eq, decide_eq_false_iff_not, Bool.or_eq_true, Bool.and_eq_true, Bool.or_eq_false_iff, Bool.and_eq_false_iff, bne_iff_ne, beq_iff_eq, beq_eq_false_iff_ne, bne_eq_false_iff_eq, ne_eq, Bool.not_eq_true', Bool.not_eq_false', Int.not_lt, Int.not_le, Decidable.not_not, List.length_map, List.length_cons, List.length_nil] at hs6)
          refine G.mv rfl ?_
          refine G.mv rfl ?_
          refine G.iaddrM rfl rfl (by omega) (gd8 [] (by rw [depM_len]; omega)) ?_
          first | refine G.load1B rfl rfl rfl ?_ | refine G.load1F rfl rfl ?_ | refine G.load1E rfl rfl (List.getElem?_eq_getElem (by first | omega | (simp only [List.length_map, List.length_append, List.length_cons, List.length_nil, List.length_replicate, List.length_take, List.length_drop, List.length_set]; omega))) rfl ?_ | refine G.load1EM rfl rfl (List.getElem?_eq_getElem (by first | omega | (simp only [List.length_map, List.length_append, List.length_cons, List.length_nil, List.length_replicate, List.length_take, List.length_drop, List.length_set]; omega))) rfl ?_
          refine G.mv rfl ?_
          refine G.iaddrM rfl rfl (by omega) (gd8 false (by rw [show ((depM 4 bits).getD u.p.toNat []).length = 4 from matF_row (by omega)]; omega)) ?_
          first | refine G.load1B rfl rfl rfl ?_ | refine G.load1F rfl rfl ?_ | refine G.load1E rfl rfl (List.getElem?_eq_getElem (by first | omega | (simp only [List.length_map, List.length_append, List.length_cons, List.length_nil, List.length_replicate, List.length_take, List.length_drop, List.length_set]; omega))) rfl ?_ | refine G.load1EM rfl rfl (List.getElem?_eq_getElem (by first | omega | (simp only [List.length_map, List.length_append, List.length_cons, List.length_nil, List.length_replicate, List.length_take, List.length_drop, List.length_set]; omega))) rfl ?_
          refine G.un rfl rfl ?_
          refine WpOpsG.nil ?_
          exact ⟨rfl, (by repeat (first | exact LLe.refl _ | refine LLe.cons rfl ?_)), (by repeat (first | exact HLe.refl _ | refine HLe.cons rfl ?_)), rfl⟩
        refine WpOpsG.nil ?_
        exact ⟨rfl, (by repeat (first | exact LLe.refl _ | refine LLe.cons rfl ?_)), (by repeat (first | exact HLe.refl _ | refine HLe.cons rfl ?_)), rfl⟩
      refine WpOpsG.nil ?_
      change WpG _ _ _ _ _
      refine WpG.cond rfl (fun hq7 => ?_) (fun hq7 => ?_)
      · (try simp only [decide_eq_true_eq, decide_eq_false_iff_not, Bool.or_eq_true, Bool.and_eq_true, Bool.or_eq_false_iff, Bool.and_eq_false_iff, bne_iff_ne, beq_iff_eq, beq_eq_false_iff_ne, bne_eq_false_iff_eq, ne_eq, Bool.not_eq_true', Bool.not_eq_false', Int.not_lt, Int.not_le, Decidable.not_not, List.length_map, List.length_cons, List.length_nil] at hq7)
        have hms : moveStep (depM 4 bits) l X ats[i] = swapV X (k : Int) := by
          unfold moveStep; dsimp only; rw [show (l.length : Int) - 2 = ((l.length - 2 : Nat) : Int) by omega, hk, Int.toNat_natCast, hu, hv, if_pos (or_assoc.1 hq7)]
        refine WpG.reg ?_
        refine G.mv rfl ?_
        refine G.mv rfl ?_
        refine G.call0 rfl rfl ((swap_ok X (k : Int) (by omega) (by unfold i64; omega)).ren [(0, 21)]) ?_
        rintro _ _ ⟨_, _, ⟨rfl, rfl⟩, rfl, rfl⟩
        change newOk _ _ [(21, _)] = true ∧ _
        refine ⟨rfl, ?_⟩
        change WpOpsG _ _ ((84, .osl 21) :: _) ([(21, .arr .yes 2 ((swapV X (k : Int)).map encN))] ++ _) _
        refine WpOpsG.freeze 21 rfl ?_
        refine G.mv rfl ?_
        refine WpOpsG.nil ?_
        change WpG _ _ _ _ _
        refine WpG.reg ?_
        refine G.mv rfl ?_
        first | refine G.addI rfl rfl (by omega) ?_ | refine G.bin rfl rfl rfl ?_
        refine G.mv rfl ?_
        refine WpOpsG.nil ?_
        refine ⟨i + 1, by omega, ⟨by omega, by rw [move_snoc (by omega), hX]; exact step_inv (by omega) h4 hMI⟩, ⟨rfl, rfl, rfl, ?_, rfl, trivial⟩, trivial, rfl⟩
        rw [move_snoc (by omega), hX, hms]; rfl
      · (try simp only [decide_eq_true_eq, decide_eq_false_iff_not, Bool.or_eq_true, Bool.and_eq_true, Bool.or_eq_false_iff, Bool.and_eq_false_iff, bne_iff_ne, beq_iff_eq, beq_eq_false_iff_ne, bne_eq_false_iff_eq, ne_eq, Bool.not_eq_true', Bool.not_eq_false', Int.not_lt, Int.not_le, Decidable.not_not, List.length_map, List.length_cons, List.length_nil] at hq7)
        have hms : moveStep (depM 4 bits) l X ats[i] = X := by
          unfold moveStep; dsimp only; rw [show (l.length : Int) - 2 = ((l.length - 2 : Nat) : Int) by omega, hk, Int.toNat_natCast, hu, hv, if_neg (fun c => by
            rcases c with c | c | ⟨c1, c2⟩
            · exact hq7.1.1 c
            · exact hq7.1.2 c
            · rcases hq7.2 with h | h
              · exact c1 h
              · rw [c2] at h; cases h)]
        refine WpG.skip ?_
        change WpG _ _ _ _ _
        refine WpG.reg ?_
        refine G.mv rfl ?_
        first | refine G.addI rfl rfl (by omega) ?_ | refine G.bin rfl rfl rfl ?_
        refine G.mv rfl ?_
        refine WpOpsG.nil ?_
        refine ⟨i + 1, by omega, ⟨by omega, by rw [move_snoc (by omega), hX]; exact step_inv (by omega) h4 hMI⟩, ⟨rfl, rfl, rfl, ?_, rfl, trivial⟩, trivial, rfl⟩
        rw [move_snoc (by omega), hX, hms]; rfl
    · (try simp only [decide_eq_true_eq, decide_eq_false_iff_not, Bool.or_eq_true, Bool.and_eq_true, Bool.or_eq_false_iff, Bool.and_eq_false_iff, bne_iff_ne, beq_iff_eq, beq_eq_false_iff_ne, bne_eq_false_iff_eq, ne_eq, Bool.not_eq_true', Bool.not_eq_false', Int.not_lt, Int.not_le, Decidable.not_not, List.length_map, List.length_cons, List.length_nil] at hq3)
      refine WpG.exit ?_
      change WpG _ _ _ _ _
      refine WpG.seq ?_
      have hXP := hMI.2.2
      refine WpG.reg ?_
      refine G.mv rfl ?_
      refine G.mv rfl ?_
      refine G.mv rfl ?_
      refine G.call0 rfl rfl (differ_ok l X (depM 4 bits) (by omega) hlN (by omega) hXN (by rw [depM_len]; decide) (fun r hr => by rw [depM_rows r hr]; decide)) ?_
      rintro _ _ ⟨rfl, rfl⟩
      refine ⟨rfl, ?_⟩
      change WpOpsG _ _ ((89, _) :: _) _ _
      rw [same_val hXP]
      refine G.mv rfl ?_
      refine G.ext rfl rfl ?_
      refine G.ext rfl rfl ?_
      refine G.ext rfl rfl ?_
      refine G.mv rfl ?_
      refine G.mv rfl ?_
      refine G.mv rfl ?_
      refine WpOpsG.nil ?_
      change WpG _ _ _ _ _
      refine WpG.seq ?_
      refine WpG.seq ?_
      refine WpG.reg ?_
      refine G.mv rfl ?_
      refine WpOpsG.nil ?_
      change WpG _ _ _ _ _
      refine WpG.block ?_
      refine WpG.loop (S := Nat) (fun p => [(7, .fsl 2 (l.map encN)), (8, .fsl 1 ((depM 4 bits).map encBs)), (9, .fsl 2 (X.map encN)), (14, .v (.int .i64 (-1))), (15, .v (.int .i64 (-1))), (16, .v (.bool false)), (17, .v (.int .i64 (p : Int)))]) (fun _ => []) (fun p => p ≤ 4) (fun p => 4 - p) (fun s => ⟨rfl, rfl⟩) ?_ 0 ?_ (by repeat (first | exact trivial | refine ⟨rfl, ?_⟩)) (by repeat (first | exact trivial | refine ⟨rfl, ?_⟩)) rfl
      · intro p hp
        refine WpG.seq ?_
        refine WpG.seq ?_
        refine WpG.reg ?_
        refine G.mv rfl ?_
        refine G.bin rfl rfl rfl ?_
        refine WpOpsG.nil ?_
        change WpG _ _ _ _ _
        refine WpG.cond rfl (fun hq8 => ?_) (fun hq8 => ?_)
        · (try simp only [decide_eq_true_eq, decide_eq_false_iff_not, Bool.or_eq_true, Bool.and_eq_true, Bool.or_eq_false_iff, Bool.and_eq_false_iff, bne_iff_ne, beq_iff_eq, beq_eq_false_iff_ne, bne_eq_false_iff_eq, ne_eq, Bool.not_eq_true', Bool.not_eq_false', Int.not_lt, Int.not_le, Decidable.not_not, List.length_map, List.length_cons, List.length_nil] at hq8)
          refine WpG.skip ?_
          change WpG _ _ _ _ _
          refine WpG.seq ?_
          refine WpG.block ?_
          refine WpG.seq ?_
          refine WpG.reg ?_
          refine G.mv rfl ?_
          refine G.mv rfl ?_
          refine WpOpsG.nil ?_
          change WpG _ _ _ _ _
          refine WpG.block ?_
          refine WpG.loop (S := Nat) (fun q => [(7, .fsl 2 (l.map encN)), (8, .fsl 1 ((depM 4 bits).map encBs)), (9, .fsl 2 (X.map encN)), (14, .v (.int .i64 (-1))), (15, .v (.int .i64 (-1))), (16, .v (.bool false)), (17, .v (.int .i64 (p : Int))), (18, .v (.int .i64 (q : Int)))]) (fun _ => []) (fun q => p ≤ q ∧ q ≤ 4) (fun q => 4 - q) (fun s => ⟨rfl, rfl⟩) ?_ p ?_ (by repeat (first | exact trivial | refine ⟨rfl, ?_⟩)) (by repeat (first | exact trivial | refine ⟨rfl, ?_⟩)) rfl
          · rintro q ⟨hq0, hq⟩
            refine WpG.seq ?_
            refine WpG.seq ?_
            refine WpG.reg ?_
            refine G.mv rfl ?_
            refine G.bin rfl rfl rfl ?_
            refine WpOpsG.nil ?_
            change WpG _ _ _ _ _
            refine WpG.cond rfl (fun hq9 => ?_) (fun hq9 => ?_)
            · (try simp only [decide_eq_true_eq, decide_eq_false_iff_not, Bool.or_eq_true, Bool.and_eq_true, Bool.or_eq_false_iff, Bool.and_eq_false_iff, bne_iff_ne, beq_iff_eq, beq_eq_false_iff_ne, bne_eq_false_iff_eq, ne_eq, Bool.not_eq_true', Bool.not_eq_false', Int.not_lt, Int.not_le, Decidable.not_not, List.length_map, List.length_cons, List.length_nil] at hq9)
              refine WpG.skip ?_
              change WpG _ _ _ _ _
              refine WpG.seq ?_
              refine WpG.block ?_
              refine WpG.seq ?_
              refine WpG.reg ?_
              refine G.mv rfl ?_
              refine G.mv rfl ?_
              refine G.iaddrM rfl rfl (by omega) (gd8 [] (by rw [depM_len]; omega)) ?_
              rw [Int.toNat_natCast]
              first | refine G.load1B rfl rfl rfl ?_ | refine G.load1F rfl rfl ?_ | refine G.load1E rfl rfl (List.getElem?_eq_getElem (by first | omega | (simp only [List.length_map, List.length_append, List.length_cons, List.length_nil, List.length_replicate, List.length_take, List.length_drop, List.length_set]; omega))) rfl ?_ | refine G.load1EM rfl rfl (List.getElem?_eq_getElem (by first | omega | (simp only [List.length_map, List.length_append, List.length_cons, List.length_nil, List.length_replicate, List.length_take, List.length_drop, List.length_set]; omega))) rfl ?_
              refine G.mv rfl ?_
              refine G.iaddrM rfl rfl (by omega) (gd8 false (by rw [show ((depM 4 bits).getD p []).length = 4 from matF_row (by omega)]; omega)) ?_
              rw [Int.toNat_natCast]
              first | refine G.load1B rfl rfl rfl ?_ | refine G.load1F rfl rfl ?_ | refine G.load1E rfl rfl (List.getElem?_eq_getElem (by first | omega | (simp only [List.length_map, List.length_append, List.length_cons, List.length_nil, List.length_replicate, List.length_take, List.length_drop, List.length_set]; omega))) rfl ?_ | refine G.load1EM rfl rfl (List.getElem?_eq_getElem (by first | omega | (simp only [List.length_map, List.length_append, List.length_cons, List.length_nil, List.length_replicate, List.length_take, List.length_drop, List.length_set]; omega))) rfl ?_
              refine G.mv rfl ?_
              apply G.andS rfl rfl rfl rfl rfl rfl
              case hB =>
                intro hs10
                (try simp only [decide_eq_true_eq, decide_eq_false_iff_not, Bool.or_eq_true, Bool.and_eq_true, Bool.or_eq_false_iff, Bool.and_eq_false_iff, bne_iff_ne, beq_iff_eq, beq_eq_false_iff_ne, bne_eq_false_iff_eq, ne_eq, Bool.not_eq_true', Bool.not_eq_false', Int.not_lt, Int.not_le, Decidable.not_not, List.length_map, List.length_cons, List.length_nil] at hs10)
                refine G.mv rfl ?_
                refine G.mv rfl ?_
                refine G.mv rfl ?_
                refine G.call0 rfl rfl ((project_ok l (p : Int) (q : Int) (by omega) hlN).ren [(0, 22)]) ?_
                rintro _ _ ⟨_, _, ⟨rfl, rfl⟩, rfl, rfl⟩
                change newOk _ _ [(22, _)] = true ∧ _
                refine ⟨rfl, ?_⟩
                change WpOpsG _ _ ((113, .osl 22) :: _) ([(22, .arr .yes 2 ((projV l (p : Int) (q : Int)).map encN))] ++ _) _
                refine G.mv rfl ?_
                refine G.mv rfl ?_
                refine G.mv rfl ?_
                refine G.call0 rfl rfl ((project_ok X (p : Int) (q : Int) (by omega) hXN).ren [(0, 23)]) ?_
                rintro _ _ ⟨_, _, ⟨rfl, rfl⟩, rfl, rfl⟩
                change newOk _ _ [(23, _)] = true ∧ _
                refine ⟨rfl, ?_⟩
                change WpOpsG _ _ ((117, .osl 23) :: _) ([(23, .arr .yes 2 ((projV X (p : Int) (q : Int)).map encN))] ++ _) _
                refine G.lend rfl rfl (refSame_ok (projV l (p : Int) (q : Int)) (projV X (p : Int) (q : Int)) (Nat.le_trans (projV_len _ _ _) (by omega)) (Nat.le_trans (projV_len _ _ _) (by omega))) ?_
                rintro _ _ ⟨rfl, rfl⟩
                refine ⟨rfl, trivial, rfl, ?_⟩
                change WpOpsG _ _ ((118, _) :: _) _ _
                rw [show decide (projV l (p : Int) (q : Int) = projV X (p : Int) (q : Int)) = true from decide_eq_true (hXP.1 p q (by omega) (by omega) (depM_T (by omega) (by omega) hs10))]
                refine G.un rfl rfl ?_
                refine WpOpsG.nil ?_
                exact ⟨rfl, (by repeat (first | exact LLe.refl _ | refine LLe.cons rfl ?_)), (by repeat (first | exact HLe.refl _ | refine HLe.cons rfl ?_)), rfl⟩
              refine WpOpsG.nil ?_
              change WpG _ _ _ _ _
              refine WpG.cond rfl (fun hq11 => ?_) (fun hq11 => ?_)
              · (try simp only [decide_eq_true_eq, decide_eq_false_iff_not, Bool.or_eq_true, Bool.and_eq_true, Bool.or_eq_false_iff, Bool.and_eq_false_iff, bne_iff_ne, beq_iff_eq, beq_eq_false_iff_ne, bne_eq_false_iff_eq, ne_eq, Bool.not_eq_true', Bool.not_eq_false', Int.not_lt, Int.not_le, Decidable.not_not, List.length_map, List.length_cons, List.length_nil] at hq11)
                simp at hq11
              · (try simp only [decide_eq_true_eq, decide_eq_false_iff_not, Bool.or_eq_true, Bool.and_eq_true, Bool.or_eq_false_iff, Bool.and_eq_false_iff, bne_iff_ne, beq_iff_eq, beq_eq_false_iff_ne, bne_eq_false_iff_eq, ne_eq, Bool.not_eq_true', Bool.not_eq_false', Int.not_lt, Int.not_le, Decidable.not_not, List.length_map, List.length_cons, List.length_nil] at hq11)
                refine WpG.skip ?_
                change WpG _ _ _ _ _
                refine WpG.reg ?_
                refine G.mv rfl ?_
                first | refine G.addI rfl rfl (by omega) ?_ | refine G.bin rfl rfl rfl ?_
                refine G.mv rfl ?_
                refine WpOpsG.nil ?_
                exact ⟨q + 1, by omega, ⟨by omega, by omega⟩, ⟨rfl, rfl, rfl, rfl, rfl, rfl, rfl, rfl, trivial⟩, trivial, rfl⟩
            · (try simp only [decide_eq_true_eq, decide_eq_false_iff_not, Bool.or_eq_true, Bool.and_eq_true, Bool.or_eq_false_iff, Bool.and_eq_false_iff, bne_iff_ne, beq_iff_eq, beq_eq_false_iff_ne, bne_eq_false_iff_eq, ne_eq, Bool.not_eq_true', Bool.not_eq_false', Int.not_lt, Int.not_le, Decidable.not_not, List.length_map, List.length_cons, List.length_nil] at hq9)
              refine WpG.exit ?_
              change WpG _ _ _ _ _
              refine WpG.reg ?_
              refine G.mv rfl ?_
              first | refine G.addI rfl rfl (by omega) ?_ | refine G.bin rfl rfl rfl ?_
              refine G.mv rfl ?_
              refine WpOpsG.nil ?_
              exact ⟨p + 1, by omega, by omega, ⟨rfl, rfl, rfl, rfl, rfl, rfl, rfl, trivial⟩, trivial, rfl⟩
          · exact ⟨Nat.le_refl _, hp⟩
        · (try simp only [decide_eq_true_eq, decide_eq_false_iff_not, Bool.or_eq_true, Bool.and_eq_true, Bool.or_eq_false_iff, Bool.and_eq_false_iff, bne_iff_ne, beq_iff_eq, beq_eq_false_iff_ne, bne_eq_false_iff_eq, ne_eq, Bool.not_eq_true', Bool.not_eq_false', Int.not_lt, Int.not_le, Decidable.not_not, List.length_map, List.length_cons, List.length_nil] at hq8)
          refine WpG.exit ?_
          change WpG _ _ _ _ _
          refine WpG.seq ?_
          refine WpG.reg ?_
          refine G.mv rfl ?_
          refine G.bin rfl rfl rfl ?_
          refine G.mv rfl ?_
          refine WpOpsG.known 123 true rfl rfl ?_
          refine G.mv rfl ?_
          refine G.bin rfl rfl rfl ?_
          first | refine G.pickT rfl rfl ?_ | refine G.pickF rfl rfl ?_ | refine G.pick rfl rfl rfl ?_
          refine G.mv rfl ?_
          refine WpOpsG.known 127 true rfl rfl ?_
          refine G.mv rfl ?_
          refine G.un rfl rfl ?_
          first | refine G.pickT rfl rfl ?_ | refine G.pickF rfl rfl ?_ | refine G.pick rfl rfl rfl ?_
          refine G.mv rfl ?_
          refine WpOpsG.known 131 true rfl rfl ?_
          refine G.mv rfl ?_
          refine G.mv rfl ?_
          refine G.mv rfl ?_
          refine G.call0 rfl rfl (wsame_ok X l (depM 4 bits) (by omega) hXN (by omega) hlN (by rw [depM_len]; decide) (fun r hr => by rw [depM_rows r hr]; decide)) ?_
          rintro _ _ ⟨rfl, rfl⟩
          refine ⟨rfl, ?_⟩
          change WpOpsG _ _ ((135, _) :: _) _ _
          rw [same_val hXP.symm]
          first | refine G.pickT rfl rfl ?_ | refine G.pickF rfl rfl ?_ | refine G.pick rfl rfl rfl ?_
          refine G.mv rfl ?_
          refine WpOpsG.known 137 true rfl rfl ?_
          refine G.call0 rfl rfl (known8_ok) ?_
          rintro _ _ ⟨rfl, rfl⟩
          refine ⟨rfl, ?_⟩
          change WpOpsG _ _ ((138, _) :: _) _ _
          first | refine G.pickT rfl rfl ?_ | refine G.pickF rfl rfl ?_ | refine G.pick rfl rfl rfl ?_
          refine G.mv rfl ?_
          refine WpOpsG.nil ?_
          change WpG _ _ _ _ _
          refine WpG.ret ?_
          refine ⟨_, [], rfl, (hasP_le (by repeat (first | exact trivial | refine ⟨rfl, ?_⟩))), rfl, rfl, rfl, ?_⟩
          exact ⟨rfl, rfl⟩
      · exact Nat.zero_le _
  · exact ⟨Nat.zero_le _, rfl, fun _ h => h, okP.refl⟩
end Go.AM.L8
