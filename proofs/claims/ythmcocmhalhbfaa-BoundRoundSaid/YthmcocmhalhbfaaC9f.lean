/- Contracts of the functions that the statement reaches. No condition. -/
import Derived.Test.YthmcocmhalhbfaaC9e
set_option linter.all false
set_option maxRecDepth 10000
namespace Go.AM.L9
open Go.AM.PL
theorem boundFrames_ok (t : List Int) (a b : Int) (ht : t.length ≤ 2 ^ 50) (hi : ∀ x ∈ t, i64 x) (ha : i64 a) (hb : i64 b) : WpCallG A 5 [.fsl 1 (t.map encK), .v (.int .i64 a), .v (.int .i64 b)] [] (fun v H => v = .v (.bool true) ∧ H = []) := by
  refine WpCallG.intro g5 rfl rfl ?_
  unfold af5
  change WpG _ _ _ _ _
  refine WpG.seq ?_
  refine WpG.reg ?_
  refine G.mv rfl ?_
  refine WpOpsG.nil ?_
  change WpG _ _ _ _ _
  refine WpG.seq ?_
  refine WpG.reg ?_
  refine G.mv rfl ?_
  refine G.build rfl ?_
  refine G.box (g := 11) rfl rfl rfl ?_
  change WpOpsG _ _ _ ((11, tbox t 0) :: _) _
  refine G.call (P := [(11, tbox t 0)]) rfl (by repeat (first | exact trivial | refine ⟨rfl, ?_⟩)) rfl rfl ((truns_ok t 0 4 12 ht hi (by omega) (by decide) (by decide)).ren [(0, 11)]) ?_
  rintro _ _ ⟨_, _, ⟨rfl, rfl⟩, rfl, rfl⟩
  change newOk _ _ [(11, tbox t _)] = true ∧ _
  refine ⟨rfl, ?_⟩
  change WpOpsG _ _ ((16, .fsl 2 ((tapeRuns t 0 4 12).1.map encN)) :: _) ([(11, tbox t _)] ++ _) _
  have hr := tapeRuns_ok t 0 4 12 (by decide) (by decide) (by omega)
  obtain ⟨l, hrs⟩ : ∃ rs, rs = (tapeRuns t 0 4 12).1 := ⟨_, rfl⟩
  rw [← hrs] at hr ⊢
  have hN := okT_N (by decide) hr.1
  have h1 := okT_1 hr.1
  have hll : l.length ≤ 12 := by have := hr.2.2.1; omega
  have hw := okT_w hr.1
  have hwp := wlen_pos h1 hr.2.1
  refine G.mv rfl ?_
  refine WpOpsG.nil ?_
  change WpG _ _ _ _ _
  refine WpG.seq ?_
  refine WpG.reg ?_
  refine G.bslice (g := 20) rfl rfl rfl rfl ?_
  refine G.mv rfl ?_
  refine G.app (ds := l.map encN) rfl rfl rfl rfl trivial (by rw [List.length_map]; show (0 + l.length) * 16 ≤ 2 ^ 47; omega) ?_
  refine G.mv rfl ?_
  refine G.app (cs := l.map encN) (ds := l.map encN) rfl rfl rfl rfl trivial (by rw [List.length_map]; omega) ?_
  rw [← List.map_append]
  refine WpOpsG.freeze 20 rfl ?_
  change WpOpsG _ _ ((21, .fsl 2 ((l ++ l).map encN)) :: _) _ _
  refine G.mv rfl ?_
  refine WpOpsG.nil ?_
  change WpG _ _ _ _ _
  refine WpG.seq ?_
  refine WpG.reg ?_
  refine G.mv rfl ?_
  refine G.call0 rfl rfl (within_ok a 0 3 ha (by decide) (by decide) (by decide)) ?_
  rintro _ _ ⟨rfl, rfl⟩
  refine ⟨rfl, ?_⟩
  change WpOpsG _ _ ((23, _) :: _) _ _
  obtain ⟨p, hp, hpb⟩ := within_nat1 a 3
  rw [show within a 0 3 = (p : Int) from hp]
  refine G.mv rfl ?_
  refine G.call0 rfl rfl (within_ok b 0 3 hb (by decide) (by decide) (by decide)) ?_
  rintro _ _ ⟨rfl, rfl⟩
  refine ⟨rfl, ?_⟩
  change WpOpsG _ _ ((25, _) :: _) _ _
  obtain ⟨q, hq, hqb⟩ := within_nat1 b 3
  rw [show within b 0 3 = (q : Int) from hq]
  refine G.mv rfl ?_
  refine G.mv rfl ?_
  refine WpOpsG.nil ?_
  change WpG _ _ _ _ _
  refine WpG.seq ?_
  refine WpG.reg ?_
  refine G.mv rfl ?_
  refine G.call0 rfl rfl (total_ok l (by omega) hN) ?_
  rintro _ _ ⟨rfl, rfl⟩
  refine ⟨rfl, ?_⟩
  change WpOpsG _ _ ((27, _) :: _) _ _
  rw [total_wlen h1 (by omega)]
  refine G.mv rfl ?_
  refine WpOpsG.nil ?_
  change WpG _ _ _ _ _
  refine WpG.seq ?_
  refine WpG.reg ?_
  refine G.mv rfl ?_
  refine G.mv rfl ?_
  refine G.mv rfl ?_
  refine G.call0 rfl rfl (late_ok l p q (by omega) hN h1 (by omega)) ?_
  rintro _ _ ⟨rfl, rfl⟩
  refine ⟨rfl, ?_⟩
  change WpOpsG _ _ ((31, _) :: _) _ _
  refine G.mv rfl ?_
  refine WpOpsG.nil ?_
  change WpG _ _ _ _ _
  refine WpG.seq ?_
  refine WpG.reg ?_
  refine G.mv rfl ?_
  refine G.mv rfl ?_
  refine G.mv rfl ?_
  refine G.call0 rfl rfl (late_ok (l ++ l) p q (by rw [List.length_append]; omega) (ok_app hN hN) (ok1_app h1 h1) (by rw [wlen_app]; omega)) ?_
  rintro _ _ ⟨rfl, rfl⟩
  refine ⟨rfl, ?_⟩
  change WpOpsG _ _ ((35, _) :: _) _ _
  rw [late_two h1]
  refine G.mv rfl ?_
  refine G.bin rfl rfl rfl ?_
  rw [show ((lateV l p q : Int) == lateV l p q) = true from beq_self_eq_true _]
  refine G.mv rfl ?_
  refine WpOpsG.known 38 true rfl rfl ?_
  refine G.mv rfl ?_
  refine G.mv rfl ?_
  refine G.mv rfl ?_
  refine G.call0 rfl rfl (budget_ok (l ++ l) p (wlen l) (by rw [List.length_append]; omega) (ok_app hN hN) (ok1_app h1 h1) (by rw [wlen_app]; omega) (by unfold i64; omega)) ?_
  rintro _ _ ⟨rfl, rfl⟩
  refine ⟨rfl, ?_⟩
  change WpOpsG _ _ ((42, _) :: _) _ _
  rw [bud_two h1 hwp, ← bud_one h1 hwp]
  refine G.mv rfl ?_
  refine G.mv rfl ?_
  refine G.mv rfl ?_
  refine G.call0 rfl rfl (budget_ok l p (wlen l) (by omega) hN h1 (by omega) (by unfold i64; omega)) ?_
  rintro _ _ ⟨rfl, rfl⟩
  refine ⟨rfl, ?_⟩
  change WpOpsG _ _ ((46, _) :: _) _ _
  refine G.bin rfl rfl rfl ?_
  rw [show ((budV l p (wlen l) : Int) == budV l p (wlen l)) = true from beq_self_eq_true _]
  first | refine G.pickT rfl rfl ?_ | refine G.pickF rfl rfl ?_ | refine G.pick rfl rfl rfl ?_
  refine G.mv rfl ?_
  refine WpOpsG.known 49 true rfl rfl ?_
  refine G.mv rfl ?_
  refine G.mv rfl ?_
  refine G.mv rfl ?_
  refine G.call0 rfl rfl (budget_ok l p (wlen l) (by omega) hN h1 (by omega) (by unfold i64; omega)) ?_
  rintro _ _ ⟨rfl, rfl⟩
  refine ⟨rfl, ?_⟩
  change WpOpsG _ _ ((53, _) :: _) _ _
  rw [bud_tick h1 hwp (by omega)]
  refine G.mv rfl ?_
  refine G.mv rfl ?_
  refine G.call0 rfl rfl (rticks_ok l p (by omega) hN) ?_
  rintro _ _ ⟨rfl, rfl⟩
  refine ⟨rfl, ?_⟩
  change WpOpsG _ _ ((56, _) :: _) _ _
  refine G.bin rfl rfl rfl ?_
  rw [show ((tickV l p : Int) == tickV l p) = true from beq_self_eq_true _]
  first | refine G.pickT rfl rfl ?_ | refine G.pickF rfl rfl ?_ | refine G.pick rfl rfl rfl ?_
  refine G.mv rfl ?_
  refine WpOpsG.known 59 true rfl rfl ?_
  refine G.mv rfl ?_
  refine G.mv rfl ?_
  refine G.bin rfl rfl rfl ?_
  rw [decide_eq_true (late_le h1 hwp p q).2.1]
  first | refine G.pickT rfl rfl ?_ | refine G.pickF rfl rfl ?_ | refine G.pick rfl rfl rfl ?_
  refine G.mv rfl ?_
  refine WpOpsG.known 64 true rfl rfl ?_
  refine G.mv rfl ?_
  refine G.mv rfl ?_
  refine G.call0 rfl rfl (gaps_ok l p (by omega) hN h1 (by omega)) ?_
  rintro _ _ ⟨rfl, rfl⟩
  refine ⟨rfl, ?_⟩
  change WpOpsG _ _ ((67, _) :: _) _ _
  refine G.mv rfl ?_
  refine G.bin rfl rfl rfl ?_
  rw [decide_eq_true (gap_lt h1 hwp p)]
  first | refine G.pickT rfl rfl ?_ | refine G.pickF rfl rfl ?_ | refine G.pick rfl rfl rfl ?_
  refine G.mv rfl ?_
  refine WpOpsG.known 71 true rfl rfl ?_
  refine G.mv rfl ?_
  refine G.bin rfl rfl rfl ?_
  refine G.mv rfl ?_
  refine G.mv rfl ?_
  refine G.call0 rfl rfl (rticks_ok l p (by omega) hN) ?_
  rintro _ _ ⟨rfl, rfl⟩
  refine ⟨rfl, ?_⟩
  change WpOpsG _ _ ((76, _) :: _) _ _
  refine G.bin rfl rfl rfl ?_
  refine G.mv rfl ?_
  apply G.andS rfl rfl rfl rfl rfl rfl
  case hB =>
    intro hs1
    (try simp only [decide_eq_true_eq, decide_eq_false_iff_not, Bool.or_eq_true, Bool.and_eq_true, Bool.or_eq_false_iff, Bool.and_eq_false_iff, bne_iff_ne, beq_iff_eq, beq_eq_false_iff_ne, bne_eq_false_iff_eq, ne_eq, Bool.not_eq_true', Bool.not_eq_false', Int.not_lt, Int.not_le, Decidable.not_not, List.length_map, List.length_cons, List.length_nil] at hs1)
    refine G.mv rfl ?_
    refine G.mv rfl ?_
    refine G.call0 rfl rfl (rticks_ok l q (by omega) hN) ?_
    rintro _ _ ⟨rfl, rfl⟩
    refine ⟨rfl, ?_⟩
    change WpOpsG _ _ ((81, _) :: _) _ _
    refine G.bin rfl rfl rfl ?_
    refine WpOpsG.nil ?_
    exact ⟨rfl, (by repeat (first | exact LLe.refl _ | refine LLe.cons rfl ?_)), (by repeat (first | exact HLe.refl _ | refine HLe.cons rfl ?_)), rfl⟩
  refine G.beq rfl rfl rfl ?_
  rw [late_bool h1 hwp (by omega) (p : Int) (q : Int)]
  first | refine G.pickT rfl rfl ?_ | refine G.pickF rfl rfl ?_ | refine G.pick rfl rfl rfl ?_
  refine G.mv rfl ?_
  refine WpOpsG.known 86 true rfl rfl ?_
  refine G.call0 rfl rfl (known9_ok) ?_
  rintro _ _ ⟨rfl, rfl⟩
  refine ⟨rfl, ?_⟩
  change WpOpsG _ _ ((87, _) :: _) _ _
  first | refine G.pickT rfl rfl ?_ | refine G.pickF rfl rfl ?_ | refine G.pick rfl rfl rfl ?_
  refine G.mv rfl ?_
  refine WpOpsG.nil ?_
  change WpG _ _ _ _ _
  refine WpG.ret ?_
  refine ⟨_, [], rfl, (hasP_le (by repeat (first | exact trivial | refine ⟨rfl, ?_⟩))), rfl, rfl, rfl, ?_⟩
  exact ⟨rfl, rfl⟩
theorem boundRound_ok (t : List Int) (at_ a b : Int) (ht : t.length ≤ 2 ^ 50) (hi : ∀ x ∈ t, i64 x) (hat : i64 at_) (ha : i64 a) (hb : i64 b) : WpCallG A 7 [.fsl 1 (t.map encK), .v (.int .i64 at_), .v (.int .i64 a), .v (.int .i64 b)] [] (fun v H => v = .v (.bool true) ∧ H = []) := by
  refine WpCallG.intro g7 rfl rfl ?_
  unfold af7
  change WpG _ _ _ _ _
  refine WpG.seq ?_
  refine WpG.reg ?_
  refine G.mv rfl ?_
  refine WpOpsG.nil ?_
  change WpG _ _ _ _ _
  refine WpG.seq ?_
  refine WpG.reg ?_
  refine G.mv rfl ?_
  refine G.build rfl ?_
  refine G.box (g := 11) rfl rfl rfl ?_
  change WpOpsG _ _ _ ((11, tbox t 0) :: _) _
  refine G.call (P := [(11, tbox t 0)]) rfl (by repeat (first | exact trivial | refine ⟨rfl, ?_⟩)) rfl rfl ((truns_ok t 0 3 12 ht hi (by omega) (by decide) (by decide)).ren [(0, 11)]) ?_
  rintro _ _ ⟨_, _, ⟨rfl, rfl⟩, rfl, rfl⟩
  change newOk _ _ [(11, tbox t _)] = true ∧ _
  refine ⟨rfl, ?_⟩
  change WpOpsG _ _ ((18, .fsl 2 ((tapeRuns t 0 3 12).1.map encN)) :: _) ([(11, tbox t _)] ++ _) _
  have hr := tapeRuns_ok t 0 3 12 (by decide) (by decide) (by omega)
  obtain ⟨l, hrs⟩ : ∃ rs, rs = (tapeRuns t 0 3 12).1 := ⟨_, rfl⟩
  rw [← hrs] at hr ⊢
  have hN := okT_N (by decide) hr.1
  have h1 := okT_1 hr.1
  have hll : l.length ≤ 12 := by have := hr.2.2.1; omega
  have hw := okT_w hr.1
  have hwp := wlen_pos h1 hr.2.1
  refine G.mv rfl ?_
  refine WpOpsG.nil ?_
  change WpG _ _ _ _ _
  refine WpG.seq ?_
  refine WpG.reg ?_
  refine G.mv rfl ?_
  refine G.mv rfl ?_
  first | refine G.lenM rfl ?_ | refine G.lenOM rfl rfl ?_ | refine G.lenF rfl ?_ | refine G.lenO rfl rfl ?_ | refine G.lenNil rfl ?_
  first | refine G.subI rfl rfl (by omega) ?_ | refine G.bin rfl rfl rfl ?_
  refine G.call0 rfl rfl (within_ok at_ 0 ((l.length : Int) - 1) hat (by decide) (by omega) (by omega)) ?_
  rintro _ _ ⟨rfl, rfl⟩
  refine ⟨rfl, ?_⟩
  change WpOpsG _ _ ((23, _) :: _) _ _
  obtain ⟨k, hk, hk2⟩ := within_nat1 at_ (l.length - 1)
  rw [show (l.length : Int) - 1 = ((l.length - 1 : Nat) : Int) by omega, hk]
  have hkl : k < l.length := by omega
  refine G.mv rfl ?_
  refine WpOpsG.nil ?_
  change WpG _ _ _ _ _
  refine WpG.seq ?_
  refine WpG.reg ?_
  refine G.bslice (g := 20) rfl rfl rfl rfl ?_
  refine G.mv rfl ?_
  refine G.mv rfl ?_
  refine G.slDrop (n := k) rfl rfl (by first | omega | (simp only [List.length_map, List.length_append, List.length_cons, List.length_nil, List.length_replicate, List.length_take, List.length_drop, List.length_set]; omega)) ?_
  refine G.mv rfl ?_
  refine G.mv rfl ?_
  refine G.slTake (n := k) rfl rfl (by first | omega | (simp only [List.length_map, List.length_append, List.length_cons, List.length_nil, List.length_replicate, List.length_take, List.length_drop, List.length_set]; omega)) ?_
  refine G.ck1 rfl rfl ?_
  refine G.app (ds := (l.drop k).map encN) rfl rfl rfl rfl trivial (by rw [List.length_map, List.length_drop]; show (0 + (l.length - k)) * 16 ≤ 2 ^ 47; omega) ?_
  refine WpOpsG.nil ?_
  change WpOpsG _ _ _ _ _
  refine G.app (cs := (l.drop k).map encN) (ds := (l.take k).map encN) rfl rfl rfl rfl trivial (by rw [List.length_map, List.length_map, List.length_drop, List.length_take]; omega) ?_
  rw [← List.map_append]
  refine WpOpsG.freeze 20 rfl ?_
  change WpOpsG _ _ ((32, .fsl 2 ((l.drop k ++ l.take k).map encN)) :: _) _ _
  refine G.mv rfl ?_
  refine WpOpsG.nil ?_
  change WpG _ _ _ _ _
  refine WpG.seq ?_
  refine WpG.reg ?_
  refine G.mv rfl ?_
  refine G.call0 rfl rfl (within_ok a 0 2 ha (by decide) (by decide) (by decide)) ?_
  rintro _ _ ⟨rfl, rfl⟩
  refine ⟨rfl, ?_⟩
  change WpOpsG _ _ ((34, _) :: _) _ _
  obtain ⟨p, hp, hpb⟩ := within_nat1 a 2
  rw [show within a 0 2 = (p : Int) from hp]
  refine G.mv rfl ?_
  refine G.call0 rfl rfl (within_ok b 0 2 hb (by decide) (by decide) (by decide)) ?_
  rintro _ _ ⟨rfl, rfl⟩
  refine ⟨rfl, ?_⟩
  change WpOpsG _ _ ((36, _) :: _) _ _
  obtain ⟨q, hq, hqb⟩ := within_nat1 b 2
  rw [show within b 0 2 = (q : Int) from hq]
  refine G.mv rfl ?_
  refine G.mv rfl ?_
  refine WpOpsG.nil ?_
  change WpG _ _ _ _ _
  refine WpG.seq ?_
  refine WpG.reg ?_
  refine G.mv rfl ?_
  refine G.call0 rfl rfl (total_ok l (by omega) hN) ?_
  rintro _ _ ⟨rfl, rfl⟩
  refine ⟨rfl, ?_⟩
  change WpOpsG _ _ ((38, _) :: _) _ _
  rw [total_wlen h1 (by omega)]
  refine G.mv rfl ?_
  refine WpOpsG.nil ?_
  change WpG _ _ _ _ _
  refine WpG.seq ?_
  refine WpG.reg ?_
  refine G.mv rfl ?_
  refine G.mv rfl ?_
  refine G.mv rfl ?_
  refine G.call0 rfl rfl (late_ok l p q (by omega) hN h1 (by omega)) ?_
  rintro _ _ ⟨rfl, rfl⟩
  refine ⟨rfl, ?_⟩
  change WpOpsG _ _ ((42, _) :: _) _ _
  refine G.mv rfl ?_
  refine G.mv rfl ?_
  refine G.mv rfl ?_
  refine G.call0 rfl rfl (late_ok (l.drop k ++ l.take k) p q (by rw [List.length_append, List.length_drop, List.length_take]; omega) (ok_app (fun r hr => hN r (List.mem_of_mem_drop hr)) (fun r hr => hN r (List.mem_of_mem_take hr))) (ok1_app (dr1 h1 k) (tk1 h1 k)) (by rw [wlen_rot]; omega)) ?_
  rintro _ _ ⟨rfl, rfl⟩
  refine ⟨rfl, ?_⟩
  change WpOpsG _ _ ((46, _) :: _) _ _
  rw [late_rot h1]
  refine G.bin rfl rfl rfl ?_
  rw [show ((lateV l p q : Int) == lateV l p q) = true from beq_self_eq_true _]
  refine G.mv rfl ?_
  refine WpOpsG.known 48 true rfl rfl ?_
  refine G.mv rfl ?_
  refine G.mv rfl ?_
  refine G.call0 rfl rfl (gaps_ok l p (by omega) hN h1 (by omega)) ?_
  rintro _ _ ⟨rfl, rfl⟩
  refine ⟨rfl, ?_⟩
  change WpOpsG _ _ ((51, _) :: _) _ _
  refine G.mv rfl ?_
  refine G.mv rfl ?_
  refine G.call0 rfl rfl (gaps_ok (l.drop k ++ l.take k) p (by rw [List.length_append, List.length_drop, List.length_take]; omega) (ok_app (fun r hr => hN r (List.mem_of_mem_drop hr)) (fun r hr => hN r (List.mem_of_mem_take hr))) (ok1_app (dr1 h1 k) (tk1 h1 k)) (by rw [wlen_rot]; omega)) ?_
  rintro _ _ ⟨rfl, rfl⟩
  refine ⟨rfl, ?_⟩
  change WpOpsG _ _ ((54, _) :: _) _ _
  rw [gap_rot h1]
  refine G.bin rfl rfl rfl ?_
  rw [show ((gapV l p : Int) == gapV l p) = true from beq_self_eq_true _]
  first | refine G.pickT rfl rfl ?_ | refine G.pickF rfl rfl ?_ | refine G.pick rfl rfl rfl ?_
  refine G.mv rfl ?_
  refine WpOpsG.known 57 true rfl rfl ?_
  refine G.mv rfl ?_
  refine G.mv rfl ?_
  refine G.mv rfl ?_
  refine G.call0 rfl rfl (budget_ok l p (wlen l) (by omega) hN h1 (by omega) (by unfold i64; omega)) ?_
  rintro _ _ ⟨rfl, rfl⟩
  refine ⟨rfl, ?_⟩
  change WpOpsG _ _ ((61, _) :: _) _ _
  refine G.mv rfl ?_
  refine G.mv rfl ?_
  refine G.mv rfl ?_
  refine G.call0 rfl rfl (budget_ok (l.drop k ++ l.take k) p (wlen l) (by rw [List.length_append, List.length_drop, List.length_take]; omega) (ok_app (fun r hr => hN r (List.mem_of_mem_drop hr)) (fun r hr => hN r (List.mem_of_mem_take hr))) (ok1_app (dr1 h1 k) (tk1 h1 k)) (by rw [wlen_rot]; omega) (by unfold i64; omega)) ?_
  rintro _ _ ⟨rfl, rfl⟩
  refine ⟨rfl, ?_⟩
  change WpOpsG _ _ ((65, _) :: _) _ _
  rw [bud_rot h1 _ hwp]
  refine G.bin rfl rfl rfl ?_
  rw [show ((budV l p (wlen l) : Int) == budV l p (wlen l)) = true from beq_self_eq_true _]
  first | refine G.pickT rfl rfl ?_ | refine G.pickF rfl rfl ?_ | refine G.pick rfl rfl rfl ?_
  refine G.mv rfl ?_
  refine WpOpsG.known 68 true rfl rfl ?_
  refine G.call0 rfl rfl (known9_ok) ?_
  rintro _ _ ⟨rfl, rfl⟩
  refine ⟨rfl, ?_⟩
  change WpOpsG _ _ ((69, _) :: _) _ _
  first | refine G.pickT rfl rfl ?_ | refine G.pickF rfl rfl ?_ | refine G.pick rfl rfl rfl ?_
  refine G.mv rfl ?_
  refine WpOpsG.nil ?_
  change WpG _ _ _ _ _
  refine WpG.ret ?_
  refine ⟨_, [], rfl, (hasP_le (by repeat (first | exact trivial | refine ⟨rfl, ?_⟩))), rfl, rfl, rfl, ?_⟩
  exact ⟨rfl, rfl⟩
end Go.AM.L9
