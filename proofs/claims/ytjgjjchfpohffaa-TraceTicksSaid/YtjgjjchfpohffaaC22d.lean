/- Contracts of the functions that the statement reaches. No condition. -/
import Derived.Test.YtjgjjchfpohffaaC22c
import Derived.Test.YtjgjjchfpohffaaPL22c
set_option linter.all false
set_option maxRecDepth 10000
namespace Go.AM.L22
open Go.AM.PL
theorem traceOrder_ok (l : List Lcl) (n m a : Int) (hl : l.length * 48 ≤ 2 ^ 47) (hn : i64 n) (hm : i64 m) (ha : i64 a) : WpCallG A 5 [.fsl 6 (l.map encL), .v (.int .i64 n), .v (.int .i64 m), .v (.int .i64 a)] [] (fun v H => v = .v (.bool true) ∧ H = []) := by
  refine WpCallG.intro g5 rfl rfl ?_
  unfold af5
  change WpG _ _ _ _ _
  refine WpG.seq ?_
  refine WpG.reg ?_
  refine G.mv rfl ?_
  refine WpOpsG.nil ?_
  change WpG _ _ _ _ _
  refine WpG.seq ?_
  refine WpG.reg ?_
  refine G.mv rfl ?_
  refine G.mv rfl ?_
  first | refine G.lenM rfl ?_ | refine G.lenOM rfl rfl ?_ | refine G.lenF rfl ?_ | refine G.lenO rfl rfl ?_ | refine G.lenNil rfl ?_
  refine G.call0 rfl rfl (within_ok n 0 l.length hn (by decide) (by omega) (by omega)) ?_
  rintro _ _ ⟨rfl, rfl⟩
  refine ⟨rfl, ?_⟩
  change WpOpsG _ _ ((17, _) :: _) _ _
  obtain ⟨p, hp, hp2⟩ := within_nat n l.length
  rw [hp]
  refine G.mv rfl ?_
  refine G.mv rfl ?_
  first | refine G.lenM rfl ?_ | refine G.lenOM rfl rfl ?_ | refine G.lenF rfl ?_ | refine G.lenO rfl rfl ?_ | refine G.lenNil rfl ?_
  refine G.call0 rfl rfl (within_ok m 0 l.length hm (by decide) (by omega) (by omega)) ?_
  rintro _ _ ⟨rfl, rfl⟩
  refine ⟨rfl, ?_⟩
  change WpOpsG _ _ ((21, _) :: _) _ _
  obtain ⟨q, hq, hq2⟩ := within_nat m l.length
  rw [hq]
  obtain ⟨kk, hkk⟩ : ∃ kk, kk = (within a 0 ((l.length : Int) - 1)).toNat := ⟨_, rfl⟩
  have hw := within_rng a 0 ((l.length : Int) - 1)
  have hb := bump_len l kk
  refine G.mv rfl ?_
  refine G.mv rfl ?_
  refine WpOpsG.nil ?_
  change WpG _ _ _ _ _
  refine WpG.seq ?_
  refine WpG.reg ?_
  refine G.bslice (g := 11) rfl rfl rfl rfl ?_
  refine G.mv rfl ?_
  first | refine G.app rfl rfl rfl rfl (.inl rfl) (by first | omega | (simp only [List.length_map, List.length_append, List.length_cons, List.length_nil, List.length_replicate, List.length_take, List.length_drop, List.length_set]; omega)) ?_ | refine G.app rfl rfl rfl rfl (.inr (by decide)) (by first | omega | (simp only [List.length_map, List.length_append, List.length_cons, List.length_nil, List.length_replicate, List.length_take, List.length_drop, List.length_set]; omega)) ?_ | refine G.appNil (g := 10) rfl rfl rfl rfl (by first | omega | (simp only [List.length_map, List.length_append, List.length_cons, List.length_nil, List.length_replicate, List.length_take, List.length_drop, List.length_set]; omega)) ?_
  change WpOpsG _ _ ((24, .osl 11) :: _) ((11, .arr true 6 (l.map encL)) :: _) _
  refine G.mv rfl ?_
  refine WpOpsG.nil ?_
  change WpG _ _ _ _ _
  refine WpG.seqJ ([(0, .fsl 6 (l.map encL)), (9, .v (.int .i64 (p : Int))), (10, .v (.int .i64 (q : Int))), (11, .osl 11)]) ([(11, .arr true 6 ((bump l kk).map encL))]) ⟨rfl, rfl⟩ ?_ ?_
  · change WpG _ _ _ _ _
    refine WpG.seq ?_
    refine WpG.reg ?_
    refine G.mv rfl ?_
    first | refine G.lenM rfl ?_ | refine G.lenOM rfl rfl ?_ | refine G.lenF rfl ?_ | refine G.lenO rfl rfl ?_ | refine G.lenNil rfl ?_
    refine G.bin rfl rfl rfl ?_
    refine WpOpsG.nil ?_
    change WpG _ _ _ _ _
    refine WpG.cond rfl (fun hq1 => ?_) (fun hq1 => ?_)
    · (try simp only [decide_eq_true_eq, decide_eq_false_iff_not, Bool.or_eq_true, Bool.and_eq_true, Bool.or_eq_false_iff, Bool.and_eq_false_iff, bne_iff_ne, beq_iff_eq, beq_eq_false_iff_ne, bne_eq_false_iff_eq, ne_eq, Bool.not_eq_true', Bool.not_eq_false', Int.not_lt, Int.not_le, Decidable.not_not, List.length_map, List.length_cons, List.length_nil] at hq1)
      refine WpG.reg ?_
      refine G.mv rfl ?_
      refine G.mv rfl ?_
      refine G.mv rfl ?_
      first | refine G.lenM rfl ?_ | refine G.lenOM rfl rfl ?_ | refine G.lenF rfl ?_ | refine G.lenO rfl rfl ?_ | refine G.lenNil rfl ?_
      first | refine G.subI rfl rfl (by omega) ?_ | refine G.bin rfl rfl rfl ?_
      refine G.call0 rfl rfl (within_ok a 0 ((l.length : Int) - 1) ha (by decide) (by omega) (by omega)) ?_
      rintro _ _ ⟨rfl, rfl⟩
      refine ⟨rfl, ?_⟩
      change WpOpsG _ _ ((33, _) :: _) _ _
      have hw2 := hw (by omega)
      rw [show within a 0 ((l.length : Int) - 1) = (kk : Int) by omega]
      have hk : kk < l.length := by omega
      first | refine G.iaddrN rfl rfl (List.getElem?_eq_getElem (by first | omega | (simp only [List.length_map, List.length_append, List.length_cons, List.length_nil, List.length_replicate, List.length_take, List.length_drop, List.length_set]; omega))) ?_ | refine G.iaddrM rfl rfl (by omega) (List.getElem?_eq_getElem (by first | omega | (simp only [List.length_map, List.length_append, List.length_cons, List.length_nil, List.length_replicate, List.length_take, List.length_drop, List.length_set]; omega))) ?_ | refine G.iaddrF rfl rfl (by omega) rfl ?_ | refine G.iaddrO rfl rfl rfl (by omega) (by first | omega | (simp only [List.length_map, List.length_append, List.length_cons, List.length_nil, List.length_replicate, List.length_take, List.length_drop, List.length_set]; omega)) ?_ | refine G.iaddrF rfl rfl (by omega) (List.getElem?_eq_getElem (by first | omega | (simp only [List.length_map, List.length_append, List.length_cons, List.length_nil, List.length_replicate, List.length_take, List.length_drop, List.length_set]; omega))) ?_
      first | refine G.faddrB rfl ?_ | refine G.faddrF rfl ?_ | refine G.faddrE rfl ?_
      first | refine G.load1B rfl rfl rfl ?_ | refine G.load1F rfl rfl ?_ | refine G.load1E rfl rfl (List.getElem?_eq_getElem (by first | omega | (simp only [List.length_map, List.length_append, List.length_cons, List.length_nil, List.length_replicate, List.length_take, List.length_drop, List.length_set]; omega))) rfl ?_ | refine G.load1EM rfl rfl (List.getElem?_eq_getElem (by first | omega | (simp only [List.length_map, List.length_append, List.length_cons, List.length_nil, List.length_replicate, List.length_take, List.length_drop, List.length_set]; omega))) rfl ?_
      first | refine G.addI rfl rfl (by omega) ?_ | refine G.bin rfl rfl rfl ?_
      first | refine G.iaddrN rfl rfl (List.getElem?_eq_getElem (by first | omega | (simp only [List.length_map, List.length_append, List.length_cons, List.length_nil, List.length_replicate, List.length_take, List.length_drop, List.length_set]; omega))) ?_ | refine G.iaddrM rfl rfl (by omega) (List.getElem?_eq_getElem (by first | omega | (simp only [List.length_map, List.length_append, List.length_cons, List.length_nil, List.length_replicate, List.length_take, List.length_drop, List.length_set]; omega))) ?_ | refine G.iaddrF rfl rfl (by omega) rfl ?_ | refine G.iaddrO rfl rfl rfl (by omega) (by first | omega | (simp only [List.length_map, List.length_append, List.length_cons, List.length_nil, List.length_replicate, List.length_take, List.length_drop, List.length_set]; omega)) ?_ | refine G.iaddrF rfl rfl (by omega) (List.getElem?_eq_getElem (by first | omega | (simp only [List.length_map, List.length_append, List.length_cons, List.length_nil, List.length_replicate, List.length_take, List.length_drop, List.length_set]; omega))) ?_
      first | refine G.faddrB rfl ?_ | refine G.faddrF rfl ?_ | refine G.faddrE rfl ?_
      refine G.storeEM { l[kk] with v := IntKind.u32.wrap (l[kk].v + 1) } rfl rfl rfl (List.getElem?_eq_getElem (by omega)) rfl rfl rfl rfl ?_
      refine WpOpsG.nil ?_
      refine ⟨(by repeat (first | exact trivial | refine ⟨rfl, ?_⟩)), ⟨?_, trivial⟩, rfl⟩
      unfold bump
      first | (rw [dif_pos (by omega)]; rfl) | (rw [dif_neg (by omega)]; rfl)
    · (try simp only [decide_eq_true_eq, decide_eq_false_iff_not, Bool.or_eq_true, Bool.and_eq_true, Bool.or_eq_false_iff, Bool.and_eq_false_iff, bne_iff_ne, beq_iff_eq, beq_eq_false_iff_ne, bne_eq_false_iff_eq, ne_eq, Bool.not_eq_true', Bool.not_eq_false', Int.not_lt, Int.not_le, Decidable.not_not, List.length_map, List.length_cons, List.length_nil] at hq1)
      refine WpG.skip ?_
      refine ⟨(by repeat (first | exact trivial | refine ⟨rfl, ?_⟩)), ⟨?_, trivial⟩, rfl⟩
      unfold bump
      first | (rw [dif_pos (by omega)]; rfl) | (rw [dif_neg (by omega)]; rfl)
  refine WpG.freeze 11 rfl ?_
  have hk0 : 0 < l.length → kk < l.length := fun h => by have := hw (by omega); omega
  have hs1 : small [l.take p, bump l kk] := small1 _ (by simp) (fun r hr => by
    simp only [List.mem_cons, List.not_mem_nil, or_false] at hr
    rcases hr with h | h
    · rw [h, List.length_take]; omega
    · rw [h]; omega)
  have hs2 : small [l.take q, l] := small1 _ (by simp) (fun r hr => by
    simp only [List.mem_cons, List.not_mem_nil, or_false] at hr
    rcases hr with h | h
    · rw [h, List.length_take]; omega
    · rw [h]; omega)
  change WpG _ _ _ _ _
  refine WpG.seq ?_
  refine WpG.reg ?_
  refine G.mv rfl ?_
  refine G.mv rfl ?_
  refine G.slTake (n := p) rfl rfl (by first | omega | (simp only [List.length_map, List.length_append, List.length_cons, List.length_nil, List.length_replicate, List.length_take, List.length_drop, List.length_set]; omega)) ?_
  refine G.mv rfl ?_
  refine G.bsliceF rfl rfl rfl ?_
  refine G.mv rfl ?_
  refine G.mv rfl ?_
  refine G.slTake (n := q) rfl rfl (by first | omega | (simp only [List.length_map, List.length_append, List.length_cons, List.length_nil, List.length_replicate, List.length_take, List.length_drop, List.length_set]; omega)) ?_
  refine G.mv rfl ?_
  refine G.bsliceF rfl rfl rfl ?_
  refine G.mv rfl ?_
  refine G.mv rfl ?_
  refine WpOpsG.nil ?_
  change WpG _ _ _ _ _
  refine WpG.seq ?_
  refine WpG.reg ?_
  refine G.mv rfl ?_
  refine G.mv rfl ?_
  refine G.mv rfl ?_
  refine G.mn rfl rfl ?_
  rw [show min (p : Int) (q : Int) = ((min p q : Nat) : Int) by omega]
  refine G.slTake (n := min p q) rfl rfl (by first | omega | (simp only [List.length_map, List.length_append, List.length_cons, List.length_nil, List.length_replicate, List.length_take, List.length_drop, List.length_set]; omega)) ?_
  refine G.mv rfl ?_
  refine G.mv rfl ?_
  refine G.mv rfl ?_
  refine G.mx rfl rfl ?_
  rw [show max (p : Int) (q : Int) = ((max p q : Nat) : Int) by omega]
  refine G.slTake (n := max p q) rfl rfl (by first | omega | (simp only [List.length_map, List.length_append, List.length_cons, List.length_nil, List.length_replicate, List.length_take, List.length_drop, List.length_set]; omega)) ?_
  refine G.call0 rfl rfl (prefix_ok (l.take (min p q)) (l.take (max p q)) (by rw [List.length_take]; omega) (by rw [List.length_take]; omega)) ?_
  rintro _ _ ⟨rfl, rfl⟩
  refine ⟨rfl, ?_⟩
  change WpOpsG _ _ ((60, _) :: _) _ _
  rw [decide_eq_true (pre_take l (by omega))]
  refine G.mv rfl ?_
  refine G.yes rfl ?_
  refine G.mv rfl ?_
  refine G.yes rfl ?_
  refine G.mv rfl ?_
  refine G.yes rfl ?_
  refine G.slTake (n := p) rfl rfl (by first | omega | (simp only [List.length_map, List.length_append, List.length_cons, List.length_nil, List.length_replicate, List.length_take, List.length_drop, List.length_set]; omega)) ?_
  refine G.yes rfl ?_
  refine G.mv rfl ?_
  refine G.yes rfl ?_
  refine G.call0 rfl rfl (prefix_ok (l.take p) l (by rw [List.length_take]; omega) (by omega)) ?_
  rintro _ _ ⟨rfl, rfl⟩
  refine ⟨rfl, ?_⟩
  change WpOpsG _ _ ((66, _) :: _) _ _
  rw [decide_eq_true (List.take_prefix p l)]
  first | refine G.pickT rfl rfl ?_ | refine G.pickF rfl rfl ?_ | refine G.pick rfl rfl rfl ?_
  refine G.mv rfl ?_
  refine G.yes rfl ?_
  refine G.mv rfl ?_
  refine G.yes rfl ?_
  refine G.mv rfl ?_
  refine G.yes rfl ?_
  refine G.call0 rfl rfl (comparable_ok [l.take p, bump l kk] [l.take q, l] hs1 hs2) ?_
  rintro _ _ ⟨rfl, rfl⟩
  refine ⟨rfl, ?_⟩
  change WpOpsG _ _ ((71, _) :: _) _ _
  rw [cmpR_pair, cmp_take, cmp_bump l kk hk0, Bool.true_and]
  refine G.yes rfl ?_
  refine G.mv rfl ?_
  refine G.yes rfl ?_
  refine G.mv rfl ?_
  refine G.yes rfl ?_
  refine G.call0 rfl rfl (comparable_ok [l.take q, l] [l.take p, bump l kk] hs2 hs1) ?_
  rintro _ _ ⟨rfl, rfl⟩
  refine ⟨rfl, ?_⟩
  change WpOpsG _ _ ((74, _) :: _) _ _
  rw [cmpR_pair, cmp_take, cmp_sym l, cmp_bump l kk hk0, Bool.true_and]
  refine G.yes rfl ?_
  refine G.beq rfl rfl rfl ?_
  rw [show (false ^^ (((l.length : Int) == 0) == ((l.length : Int) == 0))) = true by cases ((l.length : Int) == 0) <;> rfl]
  first | refine G.pickT rfl rfl ?_ | refine G.pickF rfl rfl ?_ | refine G.pick rfl rfl rfl ?_
  refine G.mv rfl ?_
  refine G.yes rfl ?_
  refine G.mv rfl ?_
  refine G.yes rfl ?_
  refine G.mv rfl ?_
  refine G.yes rfl ?_
  refine G.call0 rfl rfl (comparable_ok [l.take p, bump l kk] [l.take q, l] hs1 hs2) ?_
  rintro _ _ ⟨rfl, rfl⟩
  refine ⟨rfl, ?_⟩
  change WpOpsG _ _ ((80, _) :: _) _ _
  rw [cmpR_pair, cmp_take, cmp_bump l kk hk0, Bool.true_and]
  refine G.yes rfl ?_
  refine G.mv rfl ?_
  refine G.yes rfl ?_
  first | refine G.lenM rfl ?_ | refine G.lenOM rfl rfl ?_ | refine G.lenF rfl ?_ | refine G.lenO rfl rfl ?_ | refine G.lenNil rfl ?_
  refine G.yes rfl ?_
  refine G.bin rfl rfl rfl ?_
  refine G.yes rfl ?_
  refine G.beq rfl rfl rfl ?_
  rw [show (false ^^ (((l.length : Int) == 0) == ((l.length : Int) == 0))) = true by cases ((l.length : Int) == 0) <;> rfl]
  first | refine G.pickT rfl rfl ?_ | refine G.pickF rfl rfl ?_ | refine G.pick rfl rfl rfl ?_
  refine G.mv rfl ?_
  refine G.yes rfl ?_
  refine G.mv rfl ?_
  refine G.yes rfl ?_
  refine G.mv rfl ?_
  refine G.yes rfl ?_
  refine G.slTake (n := p) rfl rfl (by first | omega | (simp only [List.length_map, List.length_append, List.length_cons, List.length_nil, List.length_replicate, List.length_take, List.length_drop, List.length_set]; omega)) ?_
  refine G.yes rfl ?_
  refine G.mv rfl ?_
  refine G.yes rfl ?_
  refine G.mv rfl ?_
  refine G.yes rfl ?_
  refine G.slTake (n := q) rfl rfl (by first | omega | (simp only [List.length_map, List.length_append, List.length_cons, List.length_nil, List.length_replicate, List.length_take, List.length_drop, List.length_set]; omega)) ?_
  refine G.yes rfl ?_
  refine G.call0 rfl rfl (first_ok (l.take p) (l.take q) (by rw [List.length_take]; omega) (by rw [List.length_take]; omega)) ?_
  rintro _ _ ⟨rfl, rfl⟩
  refine ⟨rfl, ?_⟩
  change WpOpsG _ _ ((93, _) :: _) _ _
  refine G.yes rfl ?_
  refine G.bin rfl rfl rfl ?_
  rw [firstV_take l hp2 hq2]
  refine G.yes rfl ?_
  refine G.mv rfl ?_
  refine G.yes rfl ?_
  refine G.mv rfl ?_
  refine G.yes rfl ?_
  refine G.bin rfl rfl rfl ?_
  refine G.yes rfl ?_
  refine G.beq rfl rfl rfl ?_
  rw [show (false ^^ (((p : Int) == (q : Int)) == ((p : Int) == (q : Int)))) = true by cases ((p : Int) == (q : Int)) <;> rfl]
  first | refine G.pickT rfl rfl ?_ | refine G.pickF rfl rfl ?_ | refine G.pick rfl rfl rfl ?_
  refine G.mv rfl ?_
  refine G.yes rfl ?_
  refine G.mv rfl ?_
  refine G.yes rfl ?_
  refine G.mv rfl ?_
  refine G.yes rfl ?_
  refine G.call0 rfl rfl (first_ok l (bump l kk) (by omega) (by omega)) ?_
  rintro _ _ ⟨rfl, rfl⟩
  refine ⟨rfl, ?_⟩
  change WpOpsG _ _ ((103, _) :: _) _ _
  refine G.yes rfl ?_
  refine G.mv rfl ?_
  refine G.yes rfl ?_
  refine G.mv rfl ?_
  refine G.yes rfl ?_
  refine G.call0 rfl rfl (first_ok (bump l kk) l (by omega) (by omega)) ?_
  rintro _ _ ⟨rfl, rfl⟩
  refine ⟨rfl, ?_⟩
  change WpOpsG _ _ ((106, _) :: _) _ _
  rw [firstV_comm (bump l kk) l]
  refine G.yes rfl ?_
  refine G.bin rfl rfl rfl ?_
  rw [show (firstV l (bump l kk) == firstV l (bump l kk)) = true by simp]
  first | refine G.pickT rfl rfl ?_ | refine G.pickF rfl rfl ?_ | refine G.pick rfl rfl rfl ?_
  refine G.mv rfl ?_
  refine G.yes rfl ?_
  refine G.call0 rfl rfl (known_ok) ?_
  rintro _ _ ⟨rfl, rfl⟩
  refine ⟨rfl, ?_⟩
  change WpOpsG _ _ ((110, _) :: _) _ _
  first | refine G.pickT rfl rfl ?_ | refine G.pickF rfl rfl ?_ | refine G.pick rfl rfl rfl ?_
  refine G.mv rfl ?_
  refine WpOpsG.nil ?_
  change WpG _ _ _ _ _
  refine WpG.ret ?_
  refine ⟨_, [], rfl, (hasP_le (by repeat (first | exact trivial | refine ⟨rfl, ?_⟩))), rfl, rfl, rfl, ?_⟩
  exact ⟨rfl, rfl⟩
theorem traceTicks_ok (t : List Int) (n : Int) (ht : t.length ≤ 2 ^ 50) (hi : ∀ x ∈ t, i64 x) (hn : i64 n) : WpCallG A 6 [.fsl 1 (t.map encK), .v (.int .i64 n)] [] (fun v H => v = .v (.bool true) ∧ H = []) := by
  have hm : 0 ≤ andI .i64 n 511 ∧ andI .i64 n 511 ≤ 511 := and_rng n 511 (by decide)
  obtain ⟨m, hm2⟩ : ∃ m : Nat, andI .i64 n 511 = (m : Int) := ⟨(andI .i64 n 511).toNat, by omega⟩
  refine WpCallG.intro g6 rfl rfl ?_
  unfold af6
  change WpG _ _ _ _ _
  refine WpG.seq ?_
  refine WpG.reg ?_
  refine G.mv rfl ?_
  refine WpOpsG.nil ?_
  change WpG _ _ _ _ _
  refine WpG.seq ?_
  refine WpG.reg ?_
  refine G.mv rfl ?_
  refine G.build rfl ?_
  refine G.box (g := 11) rfl rfl rfl ?_
  change WpOpsG _ _ _ ((11, tbox t 0) :: _) _
  refine G.call (P := [(11, tbox t 0)]) rfl (by repeat (first | exact trivial | refine ⟨rfl, ?_⟩)) rfl rfl ((truns_ok t 0 4 10 ht hi (by omega) (by decide) (by decide)).ren [(0, 11)]) ?_
  rintro _ _ ⟨_, _, ⟨rfl, rfl⟩, rfl, rfl⟩
  change newOk _ _ [(11, tbox t _)] = true ∧ _
  refine ⟨rfl, ?_⟩
  change WpOpsG _ _ ((12, .fsl 2 ((tapeRuns t 0 4 10).1.map encN)) :: _) ([(11, tbox t _)] ++ _) _
  have hr := tapeRuns_ok t 0 4 10 (by decide) (by decide) (by omega)
  obtain ⟨rs, hrs⟩ : ∃ rs, rs = (tapeRuns t 0 4 10).1 := ⟨_, rfl⟩
  rw [← hrs] at hr ⊢
  have hrr := okT_right (by decide) hr.1 hr.2.1 (by omega)
  have hrN := okT_N (by decide) hr.1
  have htt := okT_tot hr.1
  have hto : total rs = tot rs := total_tot (okR_nn (okT_R (by decide) hr.1)) (by omega)
  have hlen := ticksV_len2 (n := (m : Int)) hrr
  have htN : tN (m : Int) = m := by unfold tN; omega
  refine G.mv rfl ?_
  refine WpOpsG.nil ?_
  change WpG _ _ _ _ _
  refine WpG.seq ?_
  refine WpG.reg ?_
  refine G.mv rfl ?_
  refine G.call0 rfl rfl (total_ok rs (by omega) hrN) ?_
  rintro _ _ ⟨rfl, rfl⟩
  refine ⟨rfl, ?_⟩
  change WpOpsG _ _ ((14, _) :: _) _ _
  rw [hto]
  refine G.mv rfl ?_
  refine WpOpsG.nil ?_
  change WpG _ _ _ _ _
  refine WpG.seq ?_
  refine WpG.reg ?_
  refine G.mv rfl ?_
  refine G.mv rfl ?_
  refine G.andK rfl rfl ?_
  rw [show andI .i64 n 511 = (m : Int) from hm2]
  refine G.call0 rfl rfl (ticks_ok rs (m : Int) (by omega) (by omega)) ?_
  rintro _ _ ⟨rfl, rfl⟩
  refine ⟨rfl, ?_⟩
  change WpOpsG _ _ ((18, _) :: _) _ _
  refine G.mv rfl ?_
  refine WpOpsG.nil ?_
  change WpG _ _ _ _ _
  refine WpG.seq ?_
  refine WpG.seq ?_
  refine WpG.reg ?_
  refine G.mv rfl ?_
  first | refine G.lenM rfl ?_ | refine G.lenOM rfl rfl ?_ | refine G.lenF rfl ?_ | refine G.lenO rfl rfl ?_ | refine G.lenNil rfl ?_
  refine G.mv rfl ?_
  refine G.andK rfl rfl ?_
  rw [show andI .i64 n 511 = (m : Int) from hm2]
  refine G.bin rfl rfl rfl ?_
  refine WpOpsG.nil ?_
  change WpG _ _ _ _ _
  refine WpG.cond rfl (fun hq1 => ?_) (fun hq1 => ?_)
  · (try simp only [decide_eq_true_eq, decide_eq_false_iff_not, Bool.or_eq_true, Bool.and_eq_true, Bool.or_eq_false_iff, Bool.and_eq_false_iff, bne_iff_ne, beq_iff_eq, beq_eq_false_iff_ne, bne_eq_false_iff_eq, ne_eq, Bool.not_eq_true', Bool.not_eq_false', Int.not_lt, Int.not_le, Decidable.not_not, List.length_map, List.length_cons, List.length_nil] at hq1)
    exfalso; omega
  · (try simp only [decide_eq_true_eq, decide_eq_false_iff_not, Bool.or_eq_true, Bool.and_eq_true, Bool.or_eq_false_iff, Bool.and_eq_false_iff, bne_iff_ne, beq_iff_eq, beq_eq_false_iff_ne, bne_eq_false_iff_eq, ne_eq, Bool.not_eq_true', Bool.not_eq_false', Int.not_lt, Int.not_le, Decidable.not_not, List.length_map, List.length_cons, List.length_nil] at hq1)
    refine WpG.skip ?_
    change WpG _ _ _ _ _
    refine WpG.seq ?_
    refine WpG.seq ?_
    refine WpG.reg ?_
    refine G.mv rfl ?_
    first | refine G.lenM rfl ?_ | refine G.lenOM rfl rfl ?_ | refine G.lenF rfl ?_ | refine G.lenO rfl rfl ?_ | refine G.lenNil rfl ?_
    refine G.mv rfl ?_
    refine WpOpsG.nil ?_
    change WpG _ _ _ _ _
    refine WpG.block ?_
    refine WpG.loop (S := Nat) (fun i => [(4, .v (.bool false)), (5, .fsl 2 (rs.map encN)), (6, .v (.int .i64 (tot rs))), (7, .fsl 1 ((ticksV rs m).map encK)), (25, .v (.int .i64 ((ticksV rs m).length))), (26, .v (.int .i64 i))]) (fun _ => []) (fun i => i ≤ (ticksV rs m).length) (fun i => (ticksV rs m).length - i) (fun s => ⟨rfl, rfl⟩) ?_ 0 ?_ (by repeat (first | exact trivial | refine ⟨rfl, ?_⟩)) (by repeat (first | exact trivial | refine ⟨rfl, ?_⟩)) rfl
    · rintro i hI
      refine WpG.seq ?_
      refine WpG.reg ?_
      refine G.bin rfl rfl rfl ?_
      refine WpOpsG.nil ?_
      change WpG _ _ _ _ _
      refine WpG.seq ?_
      refine WpG.cond rfl (fun hq2 => ?_) (fun hq2 => ?_)
      · (try simp only [decide_eq_true_eq, decide_eq_false_iff_not, Bool.or_eq_true, Bool.and_eq_true, Bool.or_eq_false_iff, Bool.and_eq_false_iff, bne_iff_ne, beq_iff_eq, beq_eq_false_iff_ne, bne_eq_false_iff_eq, ne_eq, Bool.not_eq_true', Bool.not_eq_false', Int.not_lt, Int.not_le, Decidable.not_not, List.length_map, List.length_cons, List.length_nil] at hq2)
        refine WpG.skip ?_
        change WpG _ _ _ _ _
        refine WpG.seq ?_
        refine WpG.block ?_
        refine WpG.seq ?_
        refine WpG.reg ?_
        refine G.mv rfl ?_
        refine G.mv rfl ?_
        refine WpOpsG.nil ?_
        change WpG _ _ _ _ _
        refine WpG.seq ?_
        have hlt : i < (ticksV rs m).length := by omega
        refine WpG.reg ?_
        refine G.mv rfl ?_
        refine G.mv rfl ?_
        refine G.bin rfl rfl rfl ?_
        refine G.mv rfl ?_
        apply G.andS rfl rfl rfl rfl rfl rfl
        case hB =>
          intro hs3
          (try simp only [decide_eq_true_eq, decide_eq_false_iff_not, Bool.or_eq_true, Bool.and_eq_true, Bool.or_eq_false_iff, Bool.and_eq_false_iff, bne_iff_ne, beq_iff_eq, beq_eq_false_iff_ne, bne_eq_false_iff_eq, ne_eq, Bool.not_eq_true', Bool.not_eq_false', Int.not_lt, Int.not_le, Decidable.not_not, List.length_map, List.length_cons, List.length_nil] at hs3)
          refine G.mv rfl ?_
          refine G.mv rfl ?_
          refine G.iaddrN rfl rfl (gD (d := 0) hlt) ?_
          first | refine G.load1B rfl rfl rfl ?_ | refine G.load1F rfl rfl ?_ | refine G.load1E rfl rfl (List.getElem?_eq_getElem (by first | omega | (simp only [List.length_map, List.length_append, List.length_cons, List.length_nil, List.length_replicate, List.length_take, List.length_drop, List.length_set]; omega))) rfl ?_ | refine G.load1EM rfl rfl (List.getElem?_eq_getElem (by first | omega | (simp only [List.length_map, List.length_append, List.length_cons, List.length_nil, List.length_replicate, List.length_take, List.length_drop, List.length_set]; omega))) rfl ?_
          refine G.mv rfl ?_
          refine G.mv rfl ?_
          refine G.mv rfl ?_
          first | refine G.subI rfl rfl (by omega) ?_ | refine G.bin rfl rfl rfl ?_
          refine G.iaddrM rfl rfl (by omega) (show (ticksV rs m)[((i : Int) - tot rs).toNat]? = some ((ticksV rs m).getD ((i : Int) - tot rs).toNat 0) from gD (by omega)) ?_
          first | refine G.load1B rfl rfl rfl ?_ | refine G.load1F rfl rfl ?_ | refine G.load1E rfl rfl (List.getElem?_eq_getElem (by first | omega | (simp only [List.length_map, List.length_append, List.length_cons, List.length_nil, List.length_replicate, List.length_take, List.length_drop, List.length_set]; omega))) rfl ?_ | refine G.load1EM rfl rfl (List.getElem?_eq_getElem (by first | omega | (simp only [List.length_map, List.length_append, List.length_cons, List.length_nil, List.length_replicate, List.length_take, List.length_drop, List.length_set]; omega))) rfl ?_
          refine G.bin rfl rfl rfl ?_
          refine WpOpsG.nil ?_
          exact ⟨rfl, (by repeat (first | exact LLe.refl _ | refine LLe.cons rfl ?_)), (by repeat (first | exact HLe.refl _ | refine HLe.cons rfl ?_)), rfl⟩
        refine G.mv rfl ?_
        apply G.orS rfl rfl rfl rfl rfl rfl
        case hB =>
          intro hs4
          (try simp only [decide_eq_true_eq, decide_eq_false_iff_not, Bool.or_eq_true, Bool.and_eq_true, Bool.or_eq_false_iff, Bool.and_eq_false_iff, bne_iff_ne, beq_iff_eq, beq_eq_false_iff_ne, bne_eq_false_iff_eq, ne_eq, Bool.not_eq_true', Bool.not_eq_false', Int.not_lt, Int.not_le, Decidable.not_not, List.length_map, List.length_cons, List.length_nil] at hs4)
          refine G.mv rfl ?_
          refine G.mv rfl ?_
          refine G.bin rfl rfl rfl ?_
          refine G.mv rfl ?_
          apply G.andS rfl rfl rfl rfl rfl rfl
          case hB =>
            intro hs5
            (try simp only [decide_eq_true_eq, decide_eq_false_iff_not, Bool.or_eq_true, Bool.and_eq_true, Bool.or_eq_false_iff, Bool.and_eq_false_iff, bne_iff_ne, beq_iff_eq, beq_eq_false_iff_ne, bne_eq_false_iff_eq, ne_eq, Bool.not_eq_true', Bool.not_eq_false', Int.not_lt, Int.not_le, Decidable.not_not, List.length_map, List.length_cons, List.length_nil] at hs5)
            refine G.mv rfl ?_
            refine G.mv rfl ?_
            refine G.iaddrN rfl rfl (gD (d := 0) hlt) ?_
            first | refine G.load1B rfl rfl rfl ?_ | refine G.load1F rfl rfl ?_ | refine G.load1E rfl rfl (List.getElem?_eq_getElem (by first | omega | (simp only [List.length_map, List.length_append, List.length_cons, List.length_nil, List.length_replicate, List.length_take, List.length_drop, List.length_set]; omega))) rfl ?_ | refine G.load1EM rfl rfl (List.getElem?_eq_getElem (by first | omega | (simp only [List.length_map, List.length_append, List.length_cons, List.length_nil, List.length_replicate, List.length_take, List.length_drop, List.length_set]; omega))) rfl ?_
            refine G.mv rfl ?_
            refine G.mv rfl ?_
            refine G.ckcall0 rfl rfl rfl (refAt_ok rs (i : Int) (by omega) hrN (by unfold i64; omega)) ?_
            rintro _ _ ⟨rfl, rfl⟩
            refine ⟨rfl, ?_⟩
            change WpOpsG _ _ ((56, _) :: _) _ _
            rw [refAt_at rs _ (by omega) (fun r hr2 => (okR_n (okT_R (by decide) hr.1 r hr2)).1)]
            refine G.bin rfl rfl rfl ?_
            refine WpOpsG.nil ?_
            exact ⟨rfl, (by repeat (first | exact LLe.refl _ | refine LLe.cons rfl ?_)), (by repeat (first | exact HLe.refl _ | refine HLe.cons rfl ?_)), rfl⟩
          refine WpOpsG.nil ?_
          exact ⟨rfl, (by repeat (first | exact LLe.refl _ | refine LLe.cons rfl ?_)), (by repeat (first | exact HLe.refl _ | refine HLe.cons rfl ?_)), rfl⟩
        refine WpOpsG.nil ?_
        change WpG _ _ _ _ _
        refine WpG.cond rfl (fun hq6 => ?_) (fun hq6 => ?_)
        · (try simp only [decide_eq_true_eq, decide_eq_false_iff_not, Bool.or_eq_true, Bool.and_eq_true, Bool.or_eq_false_iff, Bool.and_eq_false_iff, bne_iff_ne, beq_iff_eq, beq_eq_false_iff_ne, bne_eq_false_iff_eq, ne_eq, Bool.not_eq_true', Bool.not_eq_false', Int.not_lt, Int.not_le, Decidable.not_not, List.length_map, List.length_cons, List.length_nil] at hq6)
          exfalso
          rw [ticksV_at hrr (by omega)] at hq6
          rcases hq6 with ⟨h1, h2⟩ | ⟨h1, h2⟩
          · apply h2
            rw [ticksV_at hrr (by omega), show ((((i : Int) - tot rs).toNat : Nat) : Int) = (i : Int) - tot rs by omega, Int.sub_emod_right]
          · apply h2
            rw [Int.emod_eq_of_lt (by omega) (by omega)]
        · (try simp only [decide_eq_true_eq, decide_eq_false_iff_not, Bool.or_eq_true, Bool.and_eq_true, Bool.or_eq_false_iff, Bool.and_eq_false_iff, bne_iff_ne, beq_iff_eq, beq_eq_false_iff_ne, bne_eq_false_iff_eq, ne_eq, Bool.not_eq_true', Bool.not_eq_false', Int.not_lt, Int.not_le, Decidable.not_not, List.length_map, List.length_cons, List.length_nil] at hq6)
          refine WpG.skip ?_
          change WpG _ _ _ _ _
          refine WpG.reg ?_
          first | refine G.addI rfl rfl (by omega) ?_ | refine G.bin rfl rfl rfl ?_
          refine G.mv rfl ?_
          refine WpOpsG.nil ?_
          refine ⟨i + 1, by omega, by omega, ⟨rfl, rfl, rfl, rfl, rfl, rfl, trivial⟩, (by repeat (first | exact trivial | refine ⟨rfl, ?_⟩)), rfl⟩
      · (try simp only [decide_eq_true_eq, decide_eq_false_iff_not, Bool.or_eq_true, Bool.and_eq_true, Bool.or_eq_false_iff, Bool.and_eq_false_iff, bne_iff_ne, beq_iff_eq, beq_eq_false_iff_ne, bne_eq_false_iff_eq, ne_eq, Bool.not_eq_true', Bool.not_eq_false', Int.not_lt, Int.not_le, Decidable.not_not, List.length_map, List.length_cons, List.length_nil] at hq2)
        refine WpG.exit ?_
        change WpG _ _ _ _ _
        refine WpG.seq ?_
        refine WpG.reg ?_
        refine G.call0 rfl rfl (known_ok) ?_
        rintro _ _ ⟨rfl, rfl⟩
        refine ⟨rfl, ?_⟩
        change WpOpsG _ _ ((61, _) :: _) _ _
        refine G.mv rfl ?_
        refine WpOpsG.nil ?_
        change WpG _ _ _ _ _
        refine WpG.ret ?_
        refine ⟨_, [], rfl, (hasP_le (by repeat (first | exact trivial | refine ⟨rfl, ?_⟩))), rfl, rfl, rfl, ?_⟩
        exact ⟨rfl, rfl⟩
    · exact Nat.zero_le _
theorem traceTells_ok (xs ys : List (List Lcl)) (at_ t : List Int) (n : Int) (hx : xs.length ≤ 2 ^ 50) (hx2 : ∀ r, r ∈ xs → r.length ≤ 2932031007402) (hy : ys.length ≤ 2 ^ 50) (hy2 : ∀ r, r ∈ ys → r.length ≤ 2932031007402) (ha : at_.length ≤ 2 ^ 50) (hai : ∀ x ∈ at_, i64 x) (ht : t.length ≤ 2 ^ 50) (hi : ∀ x ∈ t, i64 x) (hn : i64 n) : WpCallG A 4 [.fsl 1 (xs.map encR), .fsl 1 (ys.map encR), .fsl 1 (at_.map encK), .fsl 1 (t.map encK), .v (.int .i64 n)] [] (fun v H => v = .v (.bool true) ∧ H = []) := by
  have hm : 0 ≤ andI .i64 n 255 ∧ andI .i64 n 255 ≤ 255 := and_rng n 255 (by decide)
  have tx : tiny (xs.take 6) := ⟨by rw [List.length_take]; omega, fun r hr => hx2 r (List.mem_of_mem_take hr)⟩
  have ty : tiny (ys.take 6) := ⟨by rw [List.length_take]; omega, fun r hr => hy2 r (List.mem_of_mem_take hr)⟩
  refine WpCallG.intro g4 rfl rfl ?_
  unfold af4
  change WpG _ _ _ _ _
  refine WpG.seq ?_
  refine WpG.reg ?_
  refine G.mv rfl ?_
  refine WpOpsG.nil ?_
  change WpG _ _ _ _ _
  refine WpG.seqJ ([(0, .fsl 1 ((xs.take 6).map encR)), (1, .fsl 1 (ys.map encR)), (2, .fsl 1 (at_.map encK)), (3, .fsl 1 (t.map encK)), (4, .v (.int .i64 n))]) ([]) ⟨rfl, rfl⟩ ?_ ?_
  · change WpG _ _ _ _ _
    refine WpG.seq ?_
    refine WpG.reg ?_
    refine G.mv rfl ?_
    first | refine G.lenM rfl ?_ | refine G.lenOM rfl rfl ?_ | refine G.lenF rfl ?_ | refine G.lenO rfl rfl ?_ | refine G.lenNil rfl ?_
    refine G.bin rfl rfl rfl ?_
    refine WpOpsG.nil ?_
    change WpG _ _ _ _ _
    refine WpG.cond rfl (fun hq1 => ?_) (fun hq1 => ?_)
    · (try simp only [decide_eq_true_eq, decide_eq_false_iff_not, Bool.or_eq_true, Bool.and_eq_true, Bool.or_eq_false_iff, Bool.and_eq_false_iff, bne_iff_ne, beq_iff_eq, beq_eq_false_iff_ne, bne_eq_false_iff_eq, ne_eq, Bool.not_eq_true', Bool.not_eq_false', Int.not_lt, Int.not_le, Decidable.not_not, List.length_map, List.length_cons, List.length_nil] at hq1)
      refine WpG.reg ?_
      refine G.mv rfl ?_
      refine G.slTake (n := 6) rfl rfl (by first | omega | (simp only [List.length_map, List.length_append, List.length_cons, List.length_nil, List.length_replicate, List.length_take, List.length_drop, List.length_set]; omega)) ?_
      refine G.mv rfl ?_
      refine WpOpsG.nil ?_
      first
        | (have e : xs.take 6 = xs := take_all (by omega)
           rw [e]
           exact ⟨(by repeat (first | exact trivial | refine ⟨rfl, ?_⟩)), trivial, rfl⟩)
        | exact ⟨(by repeat (first | exact trivial | refine ⟨rfl, ?_⟩)), trivial, rfl⟩
    · (try simp only [decide_eq_true_eq, decide_eq_false_iff_not, Bool.or_eq_true, Bool.and_eq_true, Bool.or_eq_false_iff, Bool.and_eq_false_iff, bne_iff_ne, beq_iff_eq, beq_eq_false_iff_ne, bne_eq_false_iff_eq, ne_eq, Bool.not_eq_true', Bool.not_eq_false', Int.not_lt, Int.not_le, Decidable.not_not, List.length_map, List.length_cons, List.length_nil] at hq1)
      refine WpG.skip ?_
      first
        | (have e : xs.take 6 = xs := take_all (by omega)
           rw [e]
           exact ⟨(by repeat (first | exact trivial | refine ⟨rfl, ?_⟩)), trivial, rfl⟩)
        | exact ⟨(by repeat (first | exact trivial | refine ⟨rfl, ?_⟩)), trivial, rfl⟩
  change WpG _ _ _ _ _
  refine WpG.seqJ ([(0, .fsl 1 ((xs.take 6).map encR)), (1, .fsl 1 ((ys.take 6).map encR)), (2, .fsl 1 (at_.map encK)), (3, .fsl 1 (t.map encK)), (4, .v (.int .i64 n))]) ([]) ⟨rfl, rfl⟩ ?_ ?_
  · change WpG _ _ _ _ _
    refine WpG.seq ?_
    refine WpG.reg ?_
    refine G.mv rfl ?_
    first | refine G.lenM rfl ?_ | refine G.lenOM rfl rfl ?_ | refine G.lenF rfl ?_ | refine G.lenO rfl rfl ?_ | refine G.lenNil rfl ?_
    refine G.bin rfl rfl rfl ?_
    refine WpOpsG.nil ?_
    change WpG _ _ _ _ _
    refine WpG.cond rfl (fun hq2 => ?_) (fun hq2 => ?_)
    · (try simp only [decide_eq_true_eq, decide_eq_false_iff_not, Bool.or_eq_true, Bool.and_eq_true, Bool.or_eq_false_iff, Bool.and_eq_false_iff, bne_iff_ne, beq_iff_eq, beq_eq_false_iff_ne, bne_eq_false_iff_eq, ne_eq, Bool.not_eq_true', Bool.not_eq_false', Int.not_lt, Int.not_le, Decidable.not_not, List.length_map, List.length_cons, List.length_nil] at hq2)
      refine WpG.reg ?_
      refine G.mv rfl ?_
      refine G.slTake (n := 6) rfl rfl (by first | omega | (simp only [List.length_map, List.length_append, List.length_cons, List.length_nil, List.length_replicate, List.length_take, List.length_drop, List.length_set]; omega)) ?_
      refine G.mv rfl ?_
      refine WpOpsG.nil ?_
      first
        | (have e : ys.take 6 = ys := take_all (by omega)
           rw [e]
           exact ⟨(by repeat (first | exact trivial | refine ⟨rfl, ?_⟩)), trivial, rfl⟩)
        | exact ⟨(by repeat (first | exact trivial | refine ⟨rfl, ?_⟩)), trivial, rfl⟩
    · (try simp only [decide_eq_true_eq, decide_eq_false_iff_not, Bool.or_eq_true, Bool.and_eq_true, Bool.or_eq_false_iff, Bool.and_eq_false_iff, bne_iff_ne, beq_iff_eq, beq_eq_false_iff_ne, bne_eq_false_iff_eq, ne_eq, Bool.not_eq_true', Bool.not_eq_false', Int.not_lt, Int.not_le, Decidable.not_not, List.length_map, List.length_cons, List.length_nil] at hq2)
      refine WpG.skip ?_
      first
        | (have e : ys.take 6 = ys := take_all (by omega)
           rw [e]
           exact ⟨(by repeat (first | exact trivial | refine ⟨rfl, ?_⟩)), trivial, rfl⟩)
        | exact ⟨(by repeat (first | exact trivial | refine ⟨rfl, ?_⟩)), trivial, rfl⟩
  change WpG _ _ _ _ _
  refine WpG.seq ?_
  refine WpG.reg ?_
  refine G.mv rfl ?_
  refine G.mv rfl ?_
  refine G.call0 rfl rfl (cut_ok (xs.take 6) at_ tx ha hai) ?_
  rintro _ _ ⟨zs, tz, rfl, rfl⟩
  refine ⟨rfl, ?_⟩
  change WpOpsG _ _ ((25, _) :: _) _ _
  refine G.mv rfl ?_
  refine WpOpsG.nil ?_
  change WpG _ _ _ _ _
  refine WpG.seq ?_
  refine WpG.reg ?_
  refine G.mv rfl ?_
  refine G.build rfl ?_
  refine G.box (g := 11) rfl rfl rfl ?_
  change WpOpsG _ _ _ ((11, tbox t 0) :: _) _
  refine G.call (P := [(11, tbox t 0)]) rfl (by repeat (first | exact trivial | refine ⟨rfl, ?_⟩)) rfl rfl ((truns_ok t 0 4 12 ht hi (by omega) (by decide) (by decide)).ren [(0, 11)]) ?_
  rintro _ _ ⟨_, _, ⟨rfl, rfl⟩, rfl, rfl⟩
  change newOk _ _ [(11, tbox t _)] = true ∧ _
  refine ⟨rfl, ?_⟩
  change WpOpsG _ _ ((29, .fsl 2 ((tapeRuns t 0 4 12).1.map encN)) :: _) ([(11, tbox t _)] ++ _) _
  have hr := tapeRuns_ok t 0 4 12 (by decide) (by decide) (by omega)
  obtain ⟨rs, hrs⟩ : ∃ rs, rs = (tapeRuns t 0 4 12).1 := ⟨_, rfl⟩
  rw [← hrs] at hr ⊢
  have hrr := okT_right (by decide) hr.1 hr.2.1 (by omega)
  have hrN := okT_N (by decide) hr.1
  refine G.mv rfl ?_
  refine WpOpsG.nil ?_
  change WpG _ _ _ _ _
  refine WpG.seq ?_
  refine WpG.reg ?_
  refine G.mv rfl ?_
  refine G.mv rfl ?_
  refine G.call0 rfl rfl (same_ok _ _ (tiny_small tx) (tiny_small ty)) ?_
  rintro _ _ ⟨rfl, rfl⟩
  refine ⟨rfl, ?_⟩
  change WpOpsG _ _ ((32, _) :: _) _ _
  refine G.mv rfl ?_
  refine G.yes rfl ?_
  refine G.mv rfl ?_
  refine G.yes rfl ?_
  refine G.mv rfl ?_
  refine G.yes rfl ?_
  refine G.call0 rfl rfl (same_ok _ _ (tiny_small tx) (tiny_small tz)) ?_
  rintro _ _ ⟨rfl, rfl⟩
  refine ⟨rfl, ?_⟩
  change WpOpsG _ _ ((36, _) :: _) _ _
  first | refine G.pickT rfl rfl ?_ | refine G.pickF rfl rfl ?_ | refine G.pick rfl rfl rfl ?_
  refine G.mv rfl ?_
  refine G.yes rfl ?_
  refine G.mv rfl ?_
  refine G.yes rfl ?_
  refine G.mv rfl ?_
  refine G.yes rfl ?_
  refine G.mv rfl ?_
  refine G.yes rfl ?_
  refine G.call0 rfl rfl (cut_ok zs at_ tz ha hai) ?_
  rintro _ _ ⟨ws, tw, rfl, rfl⟩
  refine ⟨rfl, ?_⟩
  change WpOpsG _ _ ((42, _) :: _) _ _
  refine G.yes rfl ?_
  refine G.call0 rfl rfl (same_ok _ _ (tiny_small tz) (tiny_small tw)) ?_
  rintro _ _ ⟨rfl, rfl⟩
  refine ⟨rfl, ?_⟩
  change WpOpsG _ _ ((43, _) :: _) _ _
  first | refine G.pickT rfl rfl ?_ | refine G.pickF rfl rfl ?_ | refine G.pick rfl rfl rfl ?_
  refine G.mv rfl ?_
  refine G.yes rfl ?_
  refine G.mv rfl ?_
  refine G.yes rfl ?_
  refine G.mv rfl ?_
  refine G.yes rfl ?_
  refine G.call0 rfl rfl (same_ok _ _ (tiny_small tz) (tiny_small ty)) ?_
  rintro _ _ ⟨rfl, rfl⟩
  refine ⟨rfl, ?_⟩
  change WpOpsG _ _ ((48, _) :: _) _ _
  first | refine G.pickT rfl rfl ?_ | refine G.pickF rfl rfl ?_ | refine G.pick rfl rfl rfl ?_
  refine G.mv rfl ?_
  refine G.yes rfl ?_
  refine G.mv rfl ?_
  refine G.yes rfl ?_
  refine G.mv rfl ?_
  refine G.yes rfl ?_
  refine G.andK rfl rfl ?_
  refine G.yes rfl ?_
  refine G.call0 rfl rfl (lticks_ok rs _ (by omega) hrN (by unfold i64; omega)) ?_
  rintro _ _ ⟨rfl, rfl⟩
  refine ⟨rfl, ?_⟩
  change WpOpsG _ _ ((54, _) :: _) _ _
  first | refine G.pickT rfl rfl ?_ | refine G.pickF rfl rfl ?_ | refine G.pick rfl rfl rfl ?_
  refine G.mv rfl ?_
  refine G.yes rfl ?_
  refine G.mv rfl ?_
  refine G.yes rfl ?_
  refine G.mv rfl ?_
  refine G.yes rfl ?_
  refine G.call0 rfl rfl (lticks_ok rs n (by omega) hrN hn) ?_
  rintro _ _ ⟨rfl, rfl⟩
  refine ⟨rfl, ?_⟩
  change WpOpsG _ _ ((59, _) :: _) _ _
  first | refine G.pickT rfl rfl ?_ | refine G.pickF rfl rfl ?_ | refine G.pick rfl rfl rfl ?_
  refine G.mv rfl ?_
  refine G.yes rfl ?_
  refine G.call0 rfl rfl (known_ok) ?_
  rintro _ _ ⟨rfl, rfl⟩
  refine ⟨rfl, ?_⟩
  change WpOpsG _ _ ((62, _) :: _) _ _
  first | refine G.pickT rfl rfl ?_ | refine G.pickF rfl rfl ?_ | refine G.pick rfl rfl rfl ?_
  refine G.mv rfl ?_
  refine WpOpsG.nil ?_
  change WpG _ _ _ _ _
  refine WpG.ret ?_
  refine ⟨_, [], rfl, (hasP_le (by repeat (first | exact trivial | refine ⟨rfl, ?_⟩))), rfl, rfl, rfl, ?_⟩
  exact ⟨rfl, rfl⟩
end Go.AM.L22
