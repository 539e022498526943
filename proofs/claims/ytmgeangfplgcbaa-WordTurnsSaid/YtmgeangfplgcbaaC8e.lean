/- Contracts of the functions that the statement reaches. No condition. -/
import Derived.Test.YtmgeangfplgcbaaC8d
set_option linter.all false
set_option maxRecDepth 10000
namespace Go.AM.L8
open Go.AM.PL
theorem wordTurns_ok (t : List Int) (at_ bits : Int) (ht : t.length ≤ 2 ^ 50) (hi : ∀ x ∈ t, i64 x) (h1 : i64 at_) : WpCallG A 5 [.fsl 1 (t.map encK), .v (.int .i64 at_), .v (.int .i64 bits)] [] (fun v H => v = .v (.bool true) ∧ H = []) := by
  refine WpCallG.intro g5 rfl rfl ?_
  unfold af5
  change WpG _ _ _ _ _
  refine WpG.seq ?_
  refine WpG.reg ?_
  refine G.mv rfl ?_
  refine WpOpsG.nil ?_
  change WpG _ _ _ _ _
  refine WpG.seq ?_
  refine WpG.reg ?_
  refine G.mv rfl ?_
  refine G.build rfl ?_
  refine G.box (g := 11) rfl rfl rfl ?_
  change WpOpsG _ _ _ ((11, tbox t 0) :: _) _
  refine G.call (P := [(11, tbox t 0)]) rfl (by repeat (first | exact trivial | refine ⟨rfl, ?_⟩)) rfl rfl ((truns_ok t 0 4 16 ht hi (by omega) (by decide) (by decide)).ren [(0, 11)]) ?_
  rintro _ _ ⟨_, _, ⟨rfl, rfl⟩, rfl, rfl⟩
  change newOk _ _ [(11, tbox t _)] = true ∧ _
  refine ⟨rfl, ?_⟩
  change WpOpsG _ _ ((17, .fsl 2 ((tapeRuns t 0 4 16).1.map encN)) :: _) ([(11, tbox t _)] ++ _) _
  have hr := tapeRuns_ok t 0 4 16 (by decide) (by decide) (by omega)
  obtain ⟨rs, hrs⟩ : ∃ rs, rs = (tapeRuns t 0 4 16).1 := ⟨_, rfl⟩
  rw [← hrs] at hr ⊢
  have hrN := okT_N4 hr.1
  have hl16 : rs.length ≤ 16 := by have := hr.2.2.1; omega
  refine G.call0 rfl rfl ((rtidy_ok rs (by omega) hrN).ren [(0, 20)]) ?_
  rintro _ _ ⟨_, _, ⟨rfl, rfl⟩, rfl, rfl⟩
  change newOk _ _ [(20, _)] = true ∧ _
  refine ⟨rfl, ?_⟩
  change WpOpsG _ _ ((18, .osl 20) :: _) ([(20, .arr .yes 2 ((tidyV rs).map encN))] ++ _) _
  obtain ⟨l, hl⟩ : ∃ l, tidyV rs = l := ⟨_, rfl⟩
  have hadj : ∀ k, k + 1 < l.length → (l.getD k ⟨0, 0⟩).p ≠ (l.getD (k + 1) ⟨0, 0⟩).p := fun k hk => by rw [← hl] at hk ⊢; exact tidyV_adj hrN hk
  have hlr := tidied_ok hr.1 hl
  have hlN : ∀ r ∈ l, okN r := fun r hr => (hlr r hr).1
  have hll : l.length ≤ rs.length := by rw [← hl]; exact tidyV_len rs
  have hlw : (word l).length < 2 ^ 62 := by rw [← hl]; exact tidied_word hr.1 (by omega)
  rw [hl]
  refine WpOpsG.freeze 20 rfl ?_
  refine G.mv rfl ?_
  refine WpOpsG.nil ?_
  change WpG _ _ _ _ _
  refine WpG.seq ?_
  refine WpG.reg ?_
  refine G.mv rfl ?_
  refine G.call0 rfl rfl (dependence_ok 4 bits (by decide)) ?_
  rintro _ _ ⟨rfl, rfl⟩
  refine ⟨rfl, ?_⟩
  change WpOpsG _ _ ((20, _) :: _) _ _
  refine G.mv rfl ?_
  refine WpOpsG.nil ?_
  change WpG _ _ _ _ _
  refine WpG.seq ?_
  refine WpG.seq ?_
  refine WpG.reg ?_
  refine G.mv rfl ?_
  first | refine G.lenM rfl ?_ | refine G.lenOM rfl rfl ?_ | refine G.lenF rfl ?_ | refine G.lenO rfl rfl ?_ | refine G.lenNil rfl ?_
  refine G.bin rfl rfl rfl ?_
  refine WpOpsG.nil ?_
  change WpG _ _ _ _ _
  refine WpG.cond rfl (fun hq1 => ?_) (fun hq1 => ?_)
  · (try simp only [decide_eq_true_eq, decide_eq_false_iff_not, Bool.or_eq_true, Bool.and_eq_true, Bool.or_eq_false_iff, Bool.and_eq_false_iff, bne_iff_ne, beq_iff_eq, beq_eq_false_iff_ne, bne_eq_false_iff_eq, ne_eq, Bool.not_eq_true', Bool.not_eq_false', Int.not_lt, Int.not_le, Decidable.not_not, List.length_map, List.length_cons, List.length_nil] at hq1)
    refine WpG.seq ?_
    refine WpG.reg ?_
    refine G.mv rfl ?_
    refine G.mv rfl ?_
    refine G.mv rfl ?_
    refine G.call0 rfl rfl (wsame_ok l l (depM 4 bits) (by omega) hlN (by omega) hlN (by rw [depM_len]; decide) (fun r hr => by rw [depM_rows r hr]; decide)) ?_
    rintro _ _ ⟨rfl, rfl⟩
    refine ⟨rfl, ?_⟩
    change WpOpsG _ _ ((27, _) :: _) _ _
    rw [same_val okP.refl]
    refine G.mv rfl ?_
    refine G.yes rfl ?_
    refine G.call0 rfl rfl (known8_ok) ?_
    rintro _ _ ⟨rfl, rfl⟩
    refine ⟨rfl, ?_⟩
    change WpOpsG _ _ ((29, _) :: _) _ _
    first | refine G.pickT rfl rfl ?_ | refine G.pickF rfl rfl ?_ | refine G.pick rfl rfl rfl ?_
    refine G.mv rfl ?_
    refine WpOpsG.nil ?_
    change WpG _ _ _ _ _
    refine WpG.ret ?_
    refine ⟨_, [], rfl, (hasP_le (by repeat (first | exact trivial | refine ⟨rfl, ?_⟩))), rfl, rfl, rfl, ?_⟩
    exact ⟨rfl, rfl⟩
  · (try simp only [decide_eq_true_eq, decide_eq_false_iff_not, Bool.or_eq_true, Bool.and_eq_true, Bool.or_eq_false_iff, Bool.and_eq_false_iff, bne_iff_ne, beq_iff_eq, beq_eq_false_iff_ne, bne_eq_false_iff_eq, ne_eq, Bool.not_eq_true', Bool.not_eq_false', Int.not_lt, Int.not_le, Decidable.not_not, List.length_map, List.length_cons, List.length_nil] at hq1)
    refine WpG.skip ?_
    change WpG _ _ _ _ _
    refine WpG.seq ?_
    refine WpG.reg ?_
    refine G.mv rfl ?_
    refine G.mv rfl ?_
    first | refine G.lenM rfl ?_ | refine G.lenOM rfl rfl ?_ | refine G.lenF rfl ?_ | refine G.lenO rfl rfl ?_ | refine G.lenNil rfl ?_
    first | refine G.subI rfl rfl (by omega) ?_ | refine G.bin rfl rfl rfl ?_
    refine G.call0 rfl rfl (within_ok at_ 0 ((l.length : Int) - 2) h1 (by decide) (by omega) (by omega)) ?_
    rintro _ _ ⟨rfl, rfl⟩
    refine ⟨rfl, ?_⟩
    change WpOpsG _ _ ((35, _) :: _) _ _
    obtain ⟨k, hk, hk2⟩ := within_nat1 at_ (l.length - 2)
    rw [show (l.length : Int) - 2 = ((l.length - 2 : Nat) : Int) by omega, hk]
    refine G.mv rfl ?_
    refine WpOpsG.nil ?_
    change WpG _ _ _ _ _
    refine WpG.seq ?_
    have hkl : k + 1 < l.length := by omega
    obtain ⟨u, hu⟩ : ∃ u, l.getD k ⟨0, 0⟩ = u := ⟨_, rfl⟩
    obtain ⟨v, hv⟩ : ∃ v, l.getD (k + 1) ⟨0, 0⟩ = v := ⟨_, rfl⟩
    have huv : u.p ≠ v.p := by rw [← hu, ← hv]; exact hadj k hkl
    have hu4 := hlr u (by rw [← hu]; exact getD_mem (by omega))
    have hv4 := hlr v (by rw [← hv]; exact getD_mem hkl)
    have hxN := swap_okN (a := (k : Int)) hlN
    have hxl : (swapV l (k : Int)).length ≤ 2 ^ 40 := by rw [swap_len]; omega
    refine WpG.reg ?_
    refine G.mv rfl ?_
    refine G.mv rfl ?_
    refine G.iaddrM rfl rfl (by omega) (gd8 ⟨0, 0⟩ (by omega)) ?_
    rw [Int.toNat_natCast, hu]
    first | refine G.faddrB rfl ?_ | refine G.faddrF rfl ?_ | refine G.faddrE rfl ?_
    first | refine G.load1B rfl rfl rfl ?_ | refine G.load1F rfl rfl ?_ | refine G.load1E rfl rfl (List.getElem?_eq_getElem (by first | omega | (simp only [List.length_map, List.length_append, List.length_cons, List.length_nil, List.length_replicate, List.length_take, List.length_drop, List.length_set]; omega))) rfl ?_ | refine G.load1EM rfl rfl (List.getElem?_eq_getElem (by first | omega | (simp only [List.length_map, List.length_append, List.length_cons, List.length_nil, List.length_replicate, List.length_take, List.length_drop, List.length_set]; omega))) rfl ?_
    refine G.mv rfl ?_
    refine G.mv rfl ?_
    first | refine G.addI rfl rfl (by omega) ?_ | refine G.bin rfl rfl rfl ?_
    rw [show (k : Int) + 1 = ((k + 1 : Nat) : Int) by omega]
    refine G.iaddrM rfl rfl (by omega) (gd8 ⟨0, 0⟩ (by omega)) ?_
    rw [Int.toNat_natCast, hv]
    first | refine G.faddrB rfl ?_ | refine G.faddrF rfl ?_ | refine G.faddrE rfl ?_
    first | refine G.load1B rfl rfl rfl ?_ | refine G.load1F rfl rfl ?_ | refine G.load1E rfl rfl (List.getElem?_eq_getElem (by first | omega | (simp only [List.length_map, List.length_append, List.length_cons, List.length_nil, List.length_replicate, List.length_take, List.length_drop, List.length_set]; omega))) rfl ?_ | refine G.load1EM rfl rfl (List.getElem?_eq_getElem (by first | omega | (simp only [List.length_map, List.length_append, List.length_cons, List.length_nil, List.length_replicate, List.length_take, List.length_drop, List.length_set]; omega))) rfl ?_
    refine G.mv rfl ?_
    refine G.mv rfl ?_
    refine WpOpsG.nil ?_
    change WpG _ _ _ _ _
    refine WpG.seq ?_
    refine WpG.reg ?_
    refine G.mv rfl ?_
    refine G.bin rfl rfl rfl ?_
    refine G.mv rfl ?_
    apply G.orS rfl rfl rfl rfl rfl rfl
    case hB =>
      intro hs2
      (try simp only [decide_eq_true_eq, decide_eq_false_iff_not, Bool.or_eq_true, Bool.and_eq_true, Bool.or_eq_false_iff, Bool.and_eq_false_iff, bne_iff_ne, beq_iff_eq, beq_eq_false_iff_ne, bne_eq_false_iff_eq, ne_eq, Bool.not_eq_true', Bool.not_eq_false', Int.not_lt, Int.not_le, Decidable.not_not, List.length_map, List.length_cons, List.length_nil] at hs2)
      refine G.mv rfl ?_
      refine G.bin rfl rfl rfl ?_
      refine WpOpsG.nil ?_
      exact ⟨rfl, (by repeat (first | exact LLe.refl _ | refine LLe.cons rfl ?_)), (by repeat (first | exact HLe.refl _ | refine HLe.cons rfl ?_)), rfl⟩
    refine G.mv rfl ?_
    apply G.orS rfl rfl rfl rfl rfl rfl
    case hB =>
      intro hs3
      (try simp only [decide_eq_true_eq, decide_eq_false_iff_not, Bool.or_eq_true, Bool.and_eq_true, Bool.or_eq_false_iff, Bool.and_eq_false_iff, bne_iff_ne, beq_iff_eq, beq_eq_false_iff_ne, bne_eq_false_iff_eq, ne_eq, Bool.not_eq_true', Bool.not_eq_false', Int.not_lt, Int.not_le, Decidable.not_not, List.length_map, List.length_cons, List.length_nil] at hs3)
      refine G.mv rfl ?_
      refine G.mv rfl ?_
      refine G.iaddrM rfl rfl (by omega) (gd8 [] (by rw [depM_len]; omega)) ?_
      first | refine G.load1B rfl rfl rfl ?_ | refine G.load1F rfl rfl ?_ | refine G.load1E rfl rfl (List.getElem?_eq_getElem (by first | omega | (simp only [List.length_map, List.length_append, List.length_cons, List.length_nil, List.length_replicate, List.length_take, List.length_drop, List.length_set]; omega))) rfl ?_ | refine G.load1EM rfl rfl (List.getElem?_eq_getElem (by first | omega | (simp only [List.length_map, List.length_append, List.length_cons, List.length_nil, List.length_replicate, List.length_take, List.length_drop, List.length_set]; omega))) rfl ?_
      refine G.mv rfl ?_
      refine G.iaddrM rfl rfl (by omega) (gd8 false (by rw [show ((depM 4 bits).getD u.p.toNat []).length = 4 from matF_row (by omega)]; omega)) ?_
      first | refine G.load1B rfl rfl rfl ?_ | refine G.load1F rfl rfl ?_ | refine G.load1E rfl rfl (List.getElem?_eq_getElem (by first | omega | (simp only [List.length_map, List.length_append, List.length_cons, List.length_nil, List.length_replicate, List.length_take, List.length_drop, List.length_set]; omega))) rfl ?_ | refine G.load1EM rfl rfl (List.getElem?_eq_getElem (by first | omega | (simp only [List.length_map, List.length_append, List.length_cons, List.length_nil, List.length_replicate, List.length_take, List.length_drop, List.length_set]; omega))) rfl ?_
      refine G.un rfl rfl ?_
      refine WpOpsG.nil ?_
      exact ⟨rfl, (by repeat (first | exact LLe.refl _ | refine LLe.cons rfl ?_)), (by repeat (first | exact HLe.refl _ | refine HLe.cons rfl ?_)), rfl⟩
    refine G.mv rfl ?_
    change WpOpsG _ _ ((12, .v (.bool (freeV (depM 4 bits) u v))) :: _) _ _
    refine WpOpsG.nil ?_
    change WpG _ _ _ _ _
    refine WpG.seq ?_
    refine WpG.reg ?_
    refine G.mv rfl ?_
    refine G.mv rfl ?_
    refine G.call0 rfl rfl ((swap_ok l (k : Int) (by omega) (by unfold i64; omega)).ren [(0, 21)]) ?_
    rintro _ _ ⟨_, _, ⟨rfl, rfl⟩, rfl, rfl⟩
    change newOk _ _ [(21, _)] = true ∧ _
    refine ⟨rfl, ?_⟩
    change WpOpsG _ _ ((65, .osl 21) :: _) ([(21, .arr .yes 2 ((swapV l (k : Int)).map encN))] ++ _) _
    refine WpOpsG.freeze 21 rfl ?_
    refine G.mv rfl ?_
    refine WpOpsG.nil ?_
    change WpG _ _ _ _ _
    refine WpG.seq ?_
    refine WpG.reg ?_
    refine G.mv rfl ?_
    refine G.mv rfl ?_
    refine G.mv rfl ?_
    refine G.call0 rfl rfl (wsame_ok l (swapV l (k : Int)) (depM 4 bits) (by omega) hlN hxl hxN (by rw [depM_len]; decide) (fun r hr => by rw [depM_rows r hr]; decide)) ?_
    rintro _ _ ⟨rfl, rfl⟩
    refine ⟨rfl, ?_⟩
    change WpOpsG _ _ ((69, _) :: _) _ _
    rw [turns_val hu hv hkl hlr hlw huv]
    refine G.mv rfl ?_
    refine G.beq rfl rfl rfl ?_
    rw [beq_self_eq_true]
    refine G.mv rfl ?_
    refine G.yes rfl ?_
    refine G.mv rfl ?_
    refine G.yes rfl ?_
    refine G.mv rfl ?_
    refine G.yes rfl ?_
    refine G.mv rfl ?_
    refine G.yes rfl ?_
    refine G.call0 rfl rfl (wsame_ok (swapV l (k : Int)) l (depM 4 bits) hxl hxN (by omega) hlN (by rw [depM_len]; decide) (fun r hr => by rw [depM_rows r hr]; decide)) ?_
    rintro _ _ ⟨rfl, rfl⟩
    refine ⟨rfl, ?_⟩
    change WpOpsG _ _ ((76, _) :: _) _ _
    rw [same_symm, turns_val hu hv hkl hlr hlw huv]
    refine G.yes rfl ?_
    refine G.mv rfl ?_
    refine G.yes rfl ?_
    refine G.beq rfl rfl rfl ?_
    rw [beq_self_eq_true]
    first | refine G.pickT rfl rfl ?_ | refine G.pickF rfl rfl ?_ | refine G.pick rfl rfl rfl ?_
    refine G.mv rfl ?_
    refine G.yes rfl ?_
    refine G.mv rfl ?_
    refine G.yes rfl ?_
    refine G.call0 rfl rfl (total_ok (swapV l (k : Int)) (by omega) hxN) ?_
    rintro _ _ ⟨rfl, rfl⟩
    refine ⟨rfl, ?_⟩
    change WpOpsG _ _ ((82, _) :: _) _ _
    rw [swap_total hkl]
    refine G.yes rfl ?_
    refine G.mv rfl ?_
    refine G.yes rfl ?_
    refine G.call0 rfl rfl (total_ok l (by omega) hlN) ?_
    rintro _ _ ⟨rfl, rfl⟩
    refine ⟨rfl, ?_⟩
    change WpOpsG _ _ ((84, _) :: _) _ _
    refine G.yes rfl ?_
    refine G.bin rfl rfl rfl ?_
    rw [show ((total l : Int) == total l) = true by simp]
    first | refine G.pickT rfl rfl ?_ | refine G.pickF rfl rfl ?_ | refine G.pick rfl rfl rfl ?_
    refine G.mv rfl ?_
    refine G.yes rfl ?_
    refine G.call0 rfl rfl (known8_ok) ?_
    rintro _ _ ⟨rfl, rfl⟩
    refine ⟨rfl, ?_⟩
    change WpOpsG _ _ ((88, _) :: _) _ _
    first | refine G.pickT rfl rfl ?_ | refine G.pickF rfl rfl ?_ | refine G.pick rfl rfl rfl ?_
    refine G.mv rfl ?_
    refine WpOpsG.nil ?_
    change WpG _ _ _ _ _
    refine WpG.ret ?_
    refine ⟨_, [], rfl, (hasP_le (by repeat (first | exact trivial | refine ⟨rfl, ?_⟩))), rfl, rfl, rfl, ?_⟩
    exact ⟨rfl, rfl⟩
end Go.AM.L8
