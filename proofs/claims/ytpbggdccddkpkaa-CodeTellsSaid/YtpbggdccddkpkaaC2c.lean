/- Contracts of the functions that the statement reaches. No condition. -/
import Derived.Test.YtpbggdccddkpkaaC2b
set_option linter.all false
set_option maxRecDepth 10000
namespace Go.AM.L2
open Go.AM.PL
theorem clip_ok (l : List UInt8) : WpCallG A 25 [.osl 0] [(0, .arr .yes 1 (l.map encB))] (fun v H => v = .osl 0 ∧ H = [(0, .arr .yes 1 (l.map encB))]) := by
  refine WpCallG.intro g25 rfl rfl ?_
  unfold af25
  change WpG _ _ _ _ _
  refine WpG.seq ?_
  refine WpG.reg ?_
  refine G.mv rfl ?_
  refine WpOpsG.nil ?_
  change WpG _ _ _ _ _
  refine WpG.seq ?_
  refine WpG.reg ?_
  refine G.mv rfl ?_
  refine G.mv rfl ?_
  first | refine G.lenM rfl ?_ | refine G.lenOM rfl rfl ?_ | refine G.lenF rfl ?_ | refine G.lenO rfl rfl ?_ | refine G.lenNil rfl ?_
  refine G.mv rfl ?_
  first | refine G.lenM rfl ?_ | refine G.lenOM rfl rfl ?_ | refine G.lenF rfl ?_ | refine G.lenO rfl rfl ?_ | refine G.lenNil rfl ?_
  refine G.sl3O (n := l.length) rfl rfl rfl rfl (by rw [List.length_map]) ?_
  refine G.mv rfl ?_
  refine WpOpsG.nil ?_
  change WpG _ _ _ _ _
  refine WpG.ret ?_
  refine ⟨_, [(0, .arr .yes 1 (l.map encB))], rfl, (hasP_le (by repeat (first | exact trivial | refine ⟨rfl, ?_⟩))), rfl, rfl, rfl, ?_⟩
  exact ⟨rfl, rfl⟩
theorem text_ok (l st : List UInt8) (hl : l.length + st.length + 9 ≤ 2 ^ 47) : WpCallG A 15 [.fsl 1 (l.map encB), .v (.string ⟨(st).toArray⟩)] [] (fun v H => v = .osl 0 ∧ H = [(0, .arr .yes 1 ((l ++ putB (st.length : Int) ++ st).map encB))]) := by
  refine WpCallG.intro g15 rfl rfl ?_
  unfold af15
  change WpG _ _ _ _ _
  refine WpG.seq ?_
  refine WpG.reg ?_
  refine G.mv rfl ?_
  refine WpOpsG.nil ?_
  change WpG _ _ _ _ _
  refine WpG.seq ?_
  refine WpG.reg ?_
  refine G.mv rfl ?_
  refine G.mv rfl ?_
  refine G.lenStr rfl ?_
  rw [show (((⟨st.toArray⟩ : ByteArray).size : Nat) : Int) = ((st.length : Nat) : Int) from rfl]
  refine G.call0 rfl rfl (put_ok l (st.length : Int) (by omega) (by unfold i64; omega)) ?_
  rintro _ _ ⟨rfl, rfl⟩
  refine ⟨rfl, ?_⟩
  change WpOpsG _ _ ((8, .osl 0) :: _) ((0, .arr .yes 1 ((l ++ putB (st.length : Int)).map encB)) :: _) _
  refine G.mv rfl ?_
  refine G.app (ds := st.map encB) rfl rfl rfl rfl trivial (by have := putB_le (st.length : Int); rw [List.length_map, List.length_map, List.length_append]; omega) ?_
  rw [← List.map_append]
  refine G.call (P := [(0, .arr .yes 1 ((l ++ putB (st.length : Int) ++ st).map encB))]) rfl (by repeat (first | exact trivial | refine ⟨rfl, ?_⟩)) rfl rfl (clip_ok (l ++ putB (st.length : Int) ++ st)) ?_
  rintro _ _ ⟨rfl, rfl⟩
  refine ⟨rfl, ?_⟩
  change WpOpsG _ _ ((11, .osl 0) :: _) ((0, .arr .yes 1 ((l ++ putB (st.length : Int) ++ st).map encB)) :: _) _
  refine G.mv rfl ?_
  refine WpOpsG.nil ?_
  change WpG _ _ _ _ _
  refine WpG.ret ?_
  refine ⟨_, [(0, .arr .yes 1 ((l ++ putB (st.length : Int) ++ st).map encB))], rfl, (hasP_le (by repeat (first | exact trivial | refine ⟨rfl, ?_⟩))), rfl, rfl, rfl, ?_⟩
  exact ⟨rfl, rfl⟩
theorem rtext_ok (l st : List UInt8) (hl : l.length + st.length + 9 ≤ 2 ^ 47) : WpCallG A 14 [.fsl 1 (l.map encB), .v (.string ⟨(st).toArray⟩)] [] (fun v H => v = .osl 0 ∧ H = [(0, .arr .yes 1 ((l ++ putB (st.length : Int) ++ st).map encB))]) := by
  refine WpCallG.intro g14 rfl rfl ?_
  unfold af14
  change WpG _ _ _ _ _
  refine WpG.seq ?_
  refine WpG.reg ?_
  refine G.mv rfl ?_
  refine WpOpsG.nil ?_
  change WpG _ _ _ _ _
  refine WpG.seq ?_
  refine WpG.reg ?_
  refine G.mv rfl ?_
  refine G.mv rfl ?_
  refine G.lenStr rfl ?_
  rw [show (((⟨st.toArray⟩ : ByteArray).size : Nat) : Int) = ((st.length : Nat) : Int) from rfl]
  refine G.call0 rfl rfl (rput_ok l (st.length : Int) (by omega) (by unfold i64; omega)) ?_
  rintro _ _ ⟨rfl, rfl⟩
  refine ⟨rfl, ?_⟩
  change WpOpsG _ _ ((8, .osl 0) :: _) ([(0, .arr .yes 1 ((l ++ putB (st.length : Int)).map encB))] ++ _) _
  refine G.mv rfl ?_
  refine G.app (ds := st.map encB) rfl rfl rfl rfl trivial (by have := putB_le (st.length : Int); rw [List.length_map, List.length_map, List.length_append]; omega) ?_
  rw [← List.map_append]
  refine G.mv rfl ?_
  refine WpOpsG.nil ?_
  change WpG _ _ _ _ _
  refine WpG.ret ?_
  refine ⟨_, [(0, .arr .yes 1 ((l ++ putB (st.length : Int) ++ st).map encB))], rfl, (hasP_le (by repeat (first | exact trivial | refine ⟨rfl, ?_⟩))), rfl, rfl, rfl, ?_⟩
  exact ⟨rfl, rfl⟩
theorem flag_ok (l : List UInt8) (f : Bool) (hl : l.length + 9 ≤ 2 ^ 47) : WpCallG A 21 [.fsl 1 (l.map encB), .v (.bool f)] [] (fun v H => v = .osl 0 ∧ H = [(0, .arr .yes 1 ((l ++ putB (if f = true then 1 else 0)).map encB))]) := by
  refine WpCallG.intro g21 rfl rfl ?_
  unfold af21
  change WpG _ _ _ _ _
  refine WpG.seq ?_
  refine WpG.reg ?_
  refine G.mv rfl ?_
  refine WpOpsG.nil ?_
  change WpG _ _ _ _ _
  refine WpG.seq ?_
  refine WpG.seq ?_
  refine WpG.reg ?_
  refine G.mv rfl ?_
  refine WpOpsG.nil ?_
  change WpG _ _ _ _ _
  refine WpG.cond rfl (fun hq1 => ?_) (fun hq1 => ?_)
  · (try simp only [decide_eq_true_eq, decide_eq_false_iff_not, Bool.or_eq_true, Bool.and_eq_true, Bool.or_eq_false_iff, Bool.and_eq_false_iff, bne_iff_ne, beq_iff_eq, beq_eq_false_iff_ne, bne_eq_false_iff_eq, ne_eq, Bool.not_eq_true', Bool.not_eq_false', Int.not_lt, Int.not_le, Decidable.not_not, List.length_map, List.length_cons, List.length_nil] at hq1)
    refine WpG.seq ?_
    refine WpG.reg ?_
    refine G.mv rfl ?_
    refine G.call0 rfl rfl (put_ok l 1 (by omega) (by unfold i64; decide)) ?_
    rintro _ _ ⟨rfl, rfl⟩
    refine ⟨rfl, ?_⟩
    change WpOpsG _ _ ((7, .osl 0) :: _) ((0, .arr .yes 1 ((l ++ putB 1).map encB)) :: _) _
    refine G.mv rfl ?_
    refine WpOpsG.nil ?_
    change WpG _ _ _ _ _
    refine WpG.ret ?_
    refine ⟨_, [(0, .arr .yes 1 ((l ++ putB 1).map encB))], rfl, (hasP_le (by repeat (first | exact trivial | refine ⟨rfl, ?_⟩))), rfl, rfl, rfl, ?_⟩
    rw [if_pos hq1]; exact ⟨rfl, rfl⟩
  · (try simp only [decide_eq_true_eq, decide_eq_false_iff_not, Bool.or_eq_true, Bool.and_eq_true, Bool.or_eq_false_iff, Bool.and_eq_false_iff, bne_iff_ne, beq_iff_eq, beq_eq_false_iff_ne, bne_eq_false_iff_eq, ne_eq, Bool.not_eq_true', Bool.not_eq_false', Int.not_lt, Int.not_le, Decidable.not_not, List.length_map, List.length_cons, List.length_nil] at hq1)
    refine WpG.skip ?_
    change WpG _ _ _ _ _
    refine WpG.seq ?_
    refine WpG.reg ?_
    refine G.mv rfl ?_
    refine G.call0 rfl rfl (put_ok l 0 (by omega) (by unfold i64; decide)) ?_
    rintro _ _ ⟨rfl, rfl⟩
    refine ⟨rfl, ?_⟩
    change WpOpsG _ _ ((9, .osl 0) :: _) ((0, .arr .yes 1 ((l ++ putB 0).map encB)) :: _) _
    refine G.mv rfl ?_
    refine WpOpsG.nil ?_
    change WpG _ _ _ _ _
    refine WpG.ret ?_
    refine ⟨_, [(0, .arr .yes 1 ((l ++ putB 0).map encB))], rfl, (hasP_le (by repeat (first | exact trivial | refine ⟨rfl, ?_⟩))), rfl, rfl, rfl, ?_⟩
    rw [if_neg (by simp [hq1])]; exact ⟨rfl, rfl⟩
theorem rflag_ok (l : List UInt8) (f : Bool) (hl : l.length + 9 ≤ 2 ^ 47) : WpCallG A 22 [.fsl 1 (l.map encB), .v (.bool f)] [] (fun v H => v = .osl 0 ∧ H = [(0, .arr .yes 1 ((l ++ putB (if f = true then 1 else 0)).map encB))]) := by
  refine WpCallG.intro g22 rfl rfl ?_
  unfold af22
  change WpG _ _ _ _ _
  refine WpG.seq ?_
  refine WpG.reg ?_
  refine G.mv rfl ?_
  refine WpOpsG.nil ?_
  change WpG _ _ _ _ _
  refine WpG.seq ?_
  refine WpG.seq ?_
  refine WpG.reg ?_
  refine G.mv rfl ?_
  refine WpOpsG.nil ?_
  change WpG _ _ _ _ _
  refine WpG.cond rfl (fun hq1 => ?_) (fun hq1 => ?_)
  · (try simp only [decide_eq_true_eq, decide_eq_false_iff_not, Bool.or_eq_true, Bool.and_eq_true, Bool.or_eq_false_iff, Bool.and_eq_false_iff, bne_iff_ne, beq_iff_eq, beq_eq_false_iff_ne, bne_eq_false_iff_eq, ne_eq, Bool.not_eq_true', Bool.not_eq_false', Int.not_lt, Int.not_le, Decidable.not_not, List.length_map, List.length_cons, List.length_nil] at hq1)
    refine WpG.seq ?_
    refine WpG.reg ?_
    refine G.mv rfl ?_
    refine G.call0 rfl rfl (rput_ok l 1 (by omega) (by unfold i64; decide)) ?_
    rintro _ _ ⟨rfl, rfl⟩
    refine ⟨rfl, ?_⟩
    change WpOpsG _ _ ((7, .osl 0) :: _) ((0, .arr .yes 1 ((l ++ putB 1).map encB)) :: _) _
    refine G.mv rfl ?_
    refine WpOpsG.nil ?_
    change WpG _ _ _ _ _
    refine WpG.ret ?_
    refine ⟨_, [(0, .arr .yes 1 ((l ++ putB 1).map encB))], rfl, (hasP_le (by repeat (first | exact trivial | refine ⟨rfl, ?_⟩))), rfl, rfl, rfl, ?_⟩
    rw [if_pos hq1]; exact ⟨rfl, rfl⟩
  · (try simp only [decide_eq_true_eq, decide_eq_false_iff_not, Bool.or_eq_true, Bool.and_eq_true, Bool.or_eq_false_iff, Bool.and_eq_false_iff, bne_iff_ne, beq_iff_eq, beq_eq_false_iff_ne, bne_eq_false_iff_eq, ne_eq, Bool.not_eq_true', Bool.not_eq_false', Int.not_lt, Int.not_le, Decidable.not_not, List.length_map, List.length_cons, List.length_nil] at hq1)
    refine WpG.skip ?_
    change WpG _ _ _ _ _
    refine WpG.seq ?_
    refine WpG.reg ?_
    refine G.mv rfl ?_
    refine G.call0 rfl rfl (rput_ok l 0 (by omega) (by unfold i64; decide)) ?_
    rintro _ _ ⟨rfl, rfl⟩
    refine ⟨rfl, ?_⟩
    change WpOpsG _ _ ((9, .osl 0) :: _) ((0, .arr .yes 1 ((l ++ putB 0).map encB)) :: _) _
    refine G.mv rfl ?_
    refine WpOpsG.nil ?_
    change WpG _ _ _ _ _
    refine WpG.ret ?_
    refine ⟨_, [(0, .arr .yes 1 ((l ++ putB 0).map encB))], rfl, (hasP_le (by repeat (first | exact trivial | refine ⟨rfl, ?_⟩))), rfl, rfl, rfl, ?_⟩
    rw [if_neg (by simp [hq1])]; exact ⟨rfl, rfl⟩
theorem cut_ok (b : List UInt8) (m : Int) (hbl : b.length ≤ 2 ^ 47) (hm : i64 m) : WpCallG A 16 [.fsl 1 (b.map encB), .v (.int .i64 m)] [] (fun v H => v = .tup [.v (.string ⟨(cutB b m).1.toArray⟩), .v (.int .i64 (cutB b m).2)] ∧ H = []) := by
  unfold i64 at hm
  refine WpCallG.intro g16 rfl rfl ?_
  unfold af16
  change WpG _ _ _ _ _
  refine WpG.seq ?_
  refine WpG.reg ?_
  refine G.mv rfl ?_
  refine G.mv rfl ?_
  refine WpOpsG.nil ?_
  change WpG _ _ _ _ _
  refine WpG.seq ?_
  refine WpG.reg ?_
  refine G.mv rfl ?_
  refine G.call0 rfl rfl (get_ok b (by omega)) ?_
  rintro _ _ ⟨rfl, rfl⟩
  refine ⟨rfl, ?_⟩
  change WpOpsG _ _ ((10, _) :: _) _ _
  have hg := getB_rng b
  obtain ⟨n, hn⟩ : ∃ n, (getB b).1 = n := ⟨_, rfl⟩
  obtain ⟨k, hk⟩ : ∃ k, (getB b).2 = k := ⟨_, rfl⟩
  rw [hn, hk] at hg ⊢
  unfold i64 at hg
  refine G.mv rfl ?_
  refine G.ext rfl rfl ?_
  refine G.ext rfl rfl ?_
  refine G.mv rfl ?_
  refine G.mv rfl ?_
  refine WpOpsG.nil ?_
  change WpG _ _ _ _ _
  refine WpG.seq ?_
  refine WpG.seq ?_
  refine WpG.reg ?_
  refine G.mv rfl ?_
  refine G.bin rfl rfl rfl ?_
  refine G.mv rfl ?_
  apply G.orS rfl rfl rfl rfl rfl rfl
  case hB =>
    intro hs1
    (try simp only [decide_eq_true_eq, decide_eq_false_iff_not, Bool.or_eq_true, Bool.and_eq_true, Bool.or_eq_false_iff, Bool.and_eq_false_iff, bne_iff_ne, beq_iff_eq, beq_eq_false_iff_ne, bne_eq_false_iff_eq, ne_eq, Bool.not_eq_true', Bool.not_eq_false', Int.not_lt, Int.not_le, Decidable.not_not, List.length_map, List.length_cons, List.length_nil] at hs1)
    refine G.mv rfl ?_
    refine G.bin rfl rfl rfl ?_
    refine WpOpsG.nil ?_
    exact ⟨rfl, (by repeat (first | exact LLe.refl _ | refine LLe.cons rfl ?_)), (by repeat (first | exact HLe.refl _ | refine HLe.cons rfl ?_)), rfl⟩
  refine G.mv rfl ?_
  apply G.orS rfl rfl rfl rfl rfl rfl
  case hB =>
    intro hs2
    (try simp only [decide_eq_true_eq, decide_eq_false_iff_not, Bool.or_eq_true, Bool.and_eq_true, Bool.or_eq_false_iff, Bool.and_eq_false_iff, bne_iff_ne, beq_iff_eq, beq_eq_false_iff_ne, bne_eq_false_iff_eq, ne_eq, Bool.not_eq_true', Bool.not_eq_false', Int.not_lt, Int.not_le, Decidable.not_not, List.length_map, List.length_cons, List.length_nil] at hs2)
    refine G.mv rfl ?_
    refine G.mv rfl ?_
    refine G.mv rfl ?_
    first | refine G.lenM rfl ?_ | refine G.lenOM rfl rfl ?_ | refine G.lenF rfl ?_ | refine G.lenO rfl rfl ?_ | refine G.lenNil rfl ?_
    refine G.mv rfl ?_
    first | refine G.subI rfl rfl (by omega) ?_ | refine G.bin rfl rfl rfl ?_
    refine G.mn rfl rfl ?_
    refine G.bin rfl rfl rfl ?_
    refine WpOpsG.nil ?_
    exact ⟨rfl, (by repeat (first | exact LLe.refl _ | refine LLe.cons rfl ?_)), (by repeat (first | exact HLe.refl _ | refine HLe.cons rfl ?_)), rfl⟩
  refine WpOpsG.nil ?_
  change WpG _ _ _ _ _
  refine WpG.cond rfl (fun hq3 => ?_) (fun hq3 => ?_)
  · (try simp only [decide_eq_true_eq, decide_eq_false_iff_not, Bool.or_eq_true, Bool.and_eq_true, Bool.or_eq_false_iff, Bool.and_eq_false_iff, bne_iff_ne, beq_iff_eq, beq_eq_false_iff_ne, bne_eq_false_iff_eq, ne_eq, Bool.not_eq_true', Bool.not_eq_false', Int.not_lt, Int.not_le, Decidable.not_not, List.length_map, List.length_cons, List.length_nil] at hq3)
    refine WpG.seq ?_
    refine WpG.reg ?_
    refine G.mv rfl ?_
    refine G.mv rfl ?_
    refine WpOpsG.nil ?_
    change WpG _ _ _ _ _
    refine WpG.ret ?_
    refine ⟨_, [], rfl, (hasP_le (by repeat (first | exact trivial | refine ⟨rfl, ?_⟩))), rfl, rfl, rfl, ?_⟩
    have e : cutB b m = ([], 0) := by unfold cutB; rw [hn, hk, if_pos (by omega)]
    rw [e]; exact ⟨rfl, rfl⟩
  · (try simp only [decide_eq_true_eq, decide_eq_false_iff_not, Bool.or_eq_true, Bool.and_eq_true, Bool.or_eq_false_iff, Bool.and_eq_false_iff, bne_iff_ne, beq_iff_eq, beq_eq_false_iff_ne, bne_eq_false_iff_eq, ne_eq, Bool.not_eq_true', Bool.not_eq_false', Int.not_lt, Int.not_le, Decidable.not_not, List.length_map, List.length_cons, List.length_nil] at hq3)
    refine WpG.skip ?_
    change WpG _ _ _ _ _
    refine WpG.seq ?_
    obtain ⟨p, rfl⟩ : ∃ p : Nat, n = p := ⟨n.toNat, by omega⟩
    obtain ⟨q, rfl⟩ : ∃ q : Nat, k = q := ⟨k.toNat, by omega⟩
    refine WpG.reg ?_
    refine G.mv rfl ?_
    refine G.mv rfl ?_
    refine G.mv rfl ?_
    refine G.mv rfl ?_
    first | refine G.addI rfl rfl (by omega) ?_ | refine G.bin rfl rfl rfl ?_
    rw [show (q : Int) + (p : Int) = ((q + p : Nat) : Int) by omega]
    refine G.slMid (n := q) (m := q + p) rfl rfl rfl (by first | omega | (simp only [List.length_map, List.length_append, List.length_cons, List.length_nil, List.length_replicate, List.length_take, List.length_drop, List.length_set]; omega)) (by first | omega | (simp only [List.length_map, List.length_append, List.length_cons, List.length_nil, List.length_replicate, List.length_take, List.length_drop, List.length_set]; omega)) ?_
    first | refine G.convbs rfl rfl (bytesG_map _) (fun _ h => by cases h) ?_ | refine G.convbs rfl rfl rfl (fun _ h => by cases h) ?_
    refine G.mv rfl ?_
    refine G.mv rfl ?_
    first | refine G.addI rfl rfl (by omega) ?_ | refine G.bin rfl rfl rfl ?_
    rw [show (q : Int) + (p : Int) = ((q + p : Nat) : Int) by omega]
    refine G.mv rfl ?_
    refine G.mv rfl ?_
    refine WpOpsG.nil ?_
    change WpG _ _ _ _ _
    refine WpG.ret ?_
    refine ⟨_, [], rfl, (hasP_le (by repeat (first | exact trivial | refine ⟨rfl, ?_⟩))), rfl, rfl, rfl, ?_⟩
    have e : cutB b m = ((b.take (q + p)).drop q, ((q + p : Nat) : Int)) := by
      unfold cutB; rw [hn, hk, if_neg (by omega), show (q : Int) + (p : Int) = ((q + p : Nat) : Int) by omega, Int.toNat_natCast, Int.toNat_natCast]
    rw [e]; exact ⟨rfl, rfl⟩
theorem rcut_ok (b : List UInt8) (m : Int) (hbl : b.length ≤ 2 ^ 47) (hm : i64 m) : WpCallG A 24 [.fsl 1 (b.map encB), .v (.int .i64 m)] [] (fun v H => v = .tup [.v (.string ⟨(cutB b m).1.toArray⟩), .v (.int .i64 (cutB b m).2)] ∧ H = []) := by
  unfold i64 at hm
  refine WpCallG.intro g24 rfl rfl ?_
  unfold af24
  change WpG _ _ _ _ _
  refine WpG.seq ?_
  refine WpG.reg ?_
  refine G.mv rfl ?_
  refine G.mv rfl ?_
  refine WpOpsG.nil ?_
  change WpG _ _ _ _ _
  refine WpG.seq ?_
  refine WpG.reg ?_
  refine G.mv rfl ?_
  refine G.call0 rfl rfl (rget_ok b (by omega)) ?_
  rintro _ _ ⟨rfl, rfl⟩
  refine ⟨rfl, ?_⟩
  change WpOpsG _ _ ((10, _) :: _) _ _
  have hg := getB_rng b
  obtain ⟨n, hn⟩ : ∃ n, (getB b).1 = n := ⟨_, rfl⟩
  obtain ⟨k, hk⟩ : ∃ k, (getB b).2 = k := ⟨_, rfl⟩
  rw [hn, hk] at hg ⊢
  unfold i64 at hg
  refine G.mv rfl ?_
  refine G.ext rfl rfl ?_
  refine G.ext rfl rfl ?_
  refine G.mv rfl ?_
  refine G.mv rfl ?_
  refine WpOpsG.nil ?_
  change WpG _ _ _ _ _
  refine WpG.seq ?_
  refine WpG.seq ?_
  refine WpG.reg ?_
  refine G.mv rfl ?_
  refine G.bin rfl rfl rfl ?_
  refine G.mv rfl ?_
  apply G.orS rfl rfl rfl rfl rfl rfl
  case hB =>
    intro hs1
    (try simp only [decide_eq_true_eq, decide_eq_false_iff_not, Bool.or_eq_true, Bool.and_eq_true, Bool.or_eq_false_iff, Bool.and_eq_false_iff, bne_iff_ne, beq_iff_eq, beq_eq_false_iff_ne, bne_eq_false_iff_eq, ne_eq, Bool.not_eq_true', Bool.not_eq_false', Int.not_lt, Int.not_le, Decidable.not_not, List.length_map, List.length_cons, List.length_nil] at hs1)
    refine G.mv rfl ?_
    refine G.bin rfl rfl rfl ?_
    refine WpOpsG.nil ?_
    exact ⟨rfl, (by repeat (first | exact LLe.refl _ | refine LLe.cons rfl ?_)), (by repeat (first | exact HLe.refl _ | refine HLe.cons rfl ?_)), rfl⟩
  refine G.mv rfl ?_
  apply G.orS rfl rfl rfl rfl rfl rfl
  case hB =>
    intro hs2
    (try simp only [decide_eq_true_eq, decide_eq_false_iff_not, Bool.or_eq_true, Bool.and_eq_true, Bool.or_eq_false_iff, Bool.and_eq_false_iff, bne_iff_ne, beq_iff_eq, beq_eq_false_iff_ne, bne_eq_false_iff_eq, ne_eq, Bool.not_eq_true', Bool.not_eq_false', Int.not_lt, Int.not_le, Decidable.not_not, List.length_map, List.length_cons, List.length_nil] at hs2)
    refine G.mv rfl ?_
    refine G.mv rfl ?_
    refine G.bin rfl rfl rfl ?_
    refine WpOpsG.nil ?_
    exact ⟨rfl, (by repeat (first | exact LLe.refl _ | refine LLe.cons rfl ?_)), (by repeat (first | exact HLe.refl _ | refine HLe.cons rfl ?_)), rfl⟩
  refine G.mv rfl ?_
  apply G.orS rfl rfl rfl rfl rfl rfl
  case hB =>
    intro hs3
    (try simp only [decide_eq_true_eq, decide_eq_false_iff_not, Bool.or_eq_true, Bool.and_eq_true, Bool.or_eq_false_iff, Bool.and_eq_false_iff, bne_iff_ne, beq_iff_eq, beq_eq_false_iff_ne, bne_eq_false_iff_eq, ne_eq, Bool.not_eq_true', Bool.not_eq_false', Int.not_lt, Int.not_le, Decidable.not_not, List.length_map, List.length_cons, List.length_nil] at hs3)
    refine G.mv rfl ?_
    refine G.mv rfl ?_
    first | refine G.lenM rfl ?_ | refine G.lenOM rfl rfl ?_ | refine G.lenF rfl ?_ | refine G.lenO rfl rfl ?_ | refine G.lenNil rfl ?_
    refine G.mv rfl ?_
    first | refine G.subI rfl rfl (by omega) ?_ | refine G.bin rfl rfl rfl ?_
    refine G.bin rfl rfl rfl ?_
    refine WpOpsG.nil ?_
    exact ⟨rfl, (by repeat (first | exact LLe.refl _ | refine LLe.cons rfl ?_)), (by repeat (first | exact HLe.refl _ | refine HLe.cons rfl ?_)), rfl⟩
  refine WpOpsG.nil ?_
  change WpG _ _ _ _ _
  refine WpG.cond rfl (fun hq4 => ?_) (fun hq4 => ?_)
  · (try simp only [decide_eq_true_eq, decide_eq_false_iff_not, Bool.or_eq_true, Bool.and_eq_true, Bool.or_eq_false_iff, Bool.and_eq_false_iff, bne_iff_ne, beq_iff_eq, beq_eq_false_iff_ne, bne_eq_false_iff_eq, ne_eq, Bool.not_eq_true', Bool.not_eq_false', Int.not_lt, Int.not_le, Decidable.not_not, List.length_map, List.length_cons, List.length_nil] at hq4)
    refine WpG.seq ?_
    refine WpG.reg ?_
    refine G.mv rfl ?_
    refine G.mv rfl ?_
    refine WpOpsG.nil ?_
    change WpG _ _ _ _ _
    refine WpG.ret ?_
    refine ⟨_, [], rfl, (hasP_le (by repeat (first | exact trivial | refine ⟨rfl, ?_⟩))), rfl, rfl, rfl, ?_⟩
    have e : cutB b m = ([], 0) := by unfold cutB; rw [hn, hk, if_pos (by omega)]
    rw [e]; exact ⟨rfl, rfl⟩
  · (try simp only [decide_eq_true_eq, decide_eq_false_iff_not, Bool.or_eq_true, Bool.and_eq_true, Bool.or_eq_false_iff, Bool.and_eq_false_iff, bne_iff_ne, beq_iff_eq, beq_eq_false_iff_ne, bne_eq_false_iff_eq, ne_eq, Bool.not_eq_true', Bool.not_eq_false', Int.not_lt, Int.not_le, Decidable.not_not, List.length_map, List.length_cons, List.length_nil] at hq4)
    refine WpG.skip ?_
    change WpG _ _ _ _ _
    refine WpG.seq ?_
    obtain ⟨p, rfl⟩ : ∃ p : Nat, n = p := ⟨n.toNat, by omega⟩
    obtain ⟨q, rfl⟩ : ∃ q : Nat, k = q := ⟨k.toNat, by omega⟩
    refine WpG.reg ?_
    refine G.mv rfl ?_
    refine G.mv rfl ?_
    refine G.mv rfl ?_
    refine G.mv rfl ?_
    first | refine G.addI rfl rfl (by omega) ?_ | refine G.bin rfl rfl rfl ?_
    rw [show (q : Int) + (p : Int) = ((q + p : Nat) : Int) by omega]
    refine G.slMid (n := q) (m := q + p) rfl rfl rfl (by first | omega | (simp only [List.length_map, List.length_append, List.length_cons, List.length_nil, List.length_replicate, List.length_take, List.length_drop, List.length_set]; omega)) (by first | omega | (simp only [List.length_map, List.length_append, List.length_cons, List.length_nil, List.length_replicate, List.length_take, List.length_drop, List.length_set]; omega)) ?_
    first | refine G.convbs rfl rfl (bytesG_map _) (fun _ h => by cases h) ?_ | refine G.convbs rfl rfl rfl (fun _ h => by cases h) ?_
    refine G.mv rfl ?_
    refine G.mv rfl ?_
    first | refine G.addI rfl rfl (by omega) ?_ | refine G.bin rfl rfl rfl ?_
    rw [show (q : Int) + (p : Int) = ((q + p : Nat) : Int) by omega]
    refine G.mv rfl ?_
    refine G.mv rfl ?_
    refine WpOpsG.nil ?_
    change WpG _ _ _ _ _
    refine WpG.ret ?_
    refine ⟨_, [], rfl, (hasP_le (by repeat (first | exact trivial | refine ⟨rfl, ?_⟩))), rfl, rfl, rfl, ?_⟩
    have e : cutB b m = ((b.take (q + p)).drop q, ((q + p : Nat) : Int)) := by
      unfold cutB; rw [hn, hk, if_neg (by omega), show (q : Int) + (p : Int) = ((q + p : Nat) : Int) by omega, Int.toNat_natCast, Int.toNat_natCast]
    rw [e]; exact ⟨rfl, rfl⟩
theorem puts_ok (l st : List UInt8) (n : Int) (hl : l.length + st.length + 9 ≤ 2 ^ 47) (hn : i64 n) : WpCallG A 12 [.fsl 1 (l.map encB), .v (.int .i64 n), .v (.string ⟨(st).toArray⟩)] [] (fun v H => v = .v (.bool true) ∧ H = []) := by
  refine WpCallG.intro g12 rfl rfl ?_
  unfold af12
  change WpG _ _ _ _ _
  refine WpG.seq ?_
  refine WpG.reg ?_
  refine G.mv rfl ?_
  refine WpOpsG.nil ?_
  change WpG _ _ _ _ _
  refine WpG.seq ?_
  refine WpG.reg ?_
  refine G.mv rfl ?_
  refine G.mv rfl ?_
  refine G.call0 rfl rfl ((put_ok l n (by omega) hn).ren [(0, 20)]) ?_
  rintro _ _ ⟨_, _, ⟨rfl, rfl⟩, rfl, rfl⟩
  change newOk _ _ [(20, _)] = true ∧ _
  refine ⟨rfl, ?_⟩
  change WpOpsG _ _ ((9, .osl 20) :: _) ([(20, .arr .yes 1 ((l ++ putB n).map encB))] ++ _) _
  first | refine G.convbs rfl rfl (bytesG_map _) (fun _ h => by cases h) ?_ | refine G.convbs rfl rfl rfl (fun _ h => by cases h) ?_
  refine G.mv rfl ?_
  refine G.mv rfl ?_
  refine G.ckcall0 rfl rfl rfl ((rput_ok l n (by omega) hn).ren [(0, 21)]) ?_
  rintro _ _ ⟨_, _, ⟨rfl, rfl⟩, rfl, rfl⟩
  change newOk _ _ [(21, _)] = true ∧ _
  refine ⟨rfl, ?_⟩
  change WpOpsG _ _ ((13, .osl 21) :: _) ([(21, .arr .yes 1 ((l ++ putB n).map encB))] ++ _) _
  first | refine G.convbs rfl rfl (bytesG_map _) (fun _ h => by cases h) ?_ | refine G.convbs rfl rfl rfl (fun _ h => by cases h) ?_
  refine G.bin rfl rfl rfl ?_
  rw [show ((⟨(l ++ putB n).toArray⟩ : ByteArray).toList == (⟨(l ++ putB n).toArray⟩ : ByteArray).toList) = true by simp]
  refine G.mv rfl ?_
  refine G.yes rfl ?_
  refine G.mv rfl ?_
  refine G.yes rfl ?_
  refine G.mv rfl ?_
  refine G.yes rfl ?_
  refine G.call0 rfl rfl ((text_ok l st hl).ren [(0, 25)]) ?_
  rintro _ _ ⟨_, _, ⟨rfl, rfl⟩, rfl, rfl⟩
  change newOk _ _ [(25, _)] = true ∧ _
  refine ⟨rfl, ?_⟩
  change WpOpsG _ _ ((19, .osl 25) :: _) ([(25, .arr .yes 1 ((l ++ putB (st.length : Int) ++ st).map encB))] ++ _) _
  refine G.yes rfl ?_
  first | refine G.convbs rfl rfl (bytesG_map _) (fun _ h => by cases h) ?_ | refine G.convbs rfl rfl rfl (fun _ h => by cases h) ?_
  refine G.yes rfl ?_
  refine G.mv rfl ?_
  refine G.yes rfl ?_
  refine G.mv rfl ?_
  refine G.yes rfl ?_
  refine G.ckcall0 rfl rfl rfl ((rtext_ok l st hl).ren [(0, 22)]) ?_
  rintro _ _ ⟨_, _, ⟨rfl, rfl⟩, rfl, rfl⟩
  change newOk _ _ [(22, _)] = true ∧ _
  refine ⟨rfl, ?_⟩
  change WpOpsG _ _ ((23, .osl 22) :: _) ([(22, .arr .yes 1 ((l ++ putB (st.length : Int) ++ st).map encB))] ++ _) _
  refine G.yes rfl ?_
  first | refine G.convbs rfl rfl (bytesG_map _) (fun _ h => by cases h) ?_ | refine G.convbs rfl rfl rfl (fun _ h => by cases h) ?_
  refine G.yes rfl ?_
  refine G.bin rfl rfl rfl ?_
  rw [show ((⟨(l ++ putB (st.length : Int) ++ st).toArray⟩ : ByteArray).toList == (⟨(l ++ putB (st.length : Int) ++ st).toArray⟩ : ByteArray).toList) = true by simp]
  first | refine G.pickT rfl rfl ?_ | refine G.pickF rfl rfl ?_ | refine G.pick rfl rfl rfl ?_
  refine G.mv rfl ?_
  refine G.yes rfl ?_
  refine G.mv rfl ?_
  refine G.yes rfl ?_
  refine G.mv rfl ?_
  refine G.yes rfl ?_
  refine G.bin rfl rfl rfl ?_
  refine G.yes rfl ?_
  refine G.call0 rfl rfl ((flag_ok l (decide (n > 0)) (by omega)).ren [(0, 23)]) ?_
  rintro _ _ ⟨_, _, ⟨rfl, rfl⟩, rfl, rfl⟩
  change newOk _ _ [(23, _)] = true ∧ _
  refine ⟨rfl, ?_⟩
  change WpOpsG _ _ ((31, .osl 23) :: _) ([(23, .arr .yes 1 ((l ++ putB (if decide (n > 0) = true then 1 else 0)).map encB))] ++ _) _
  refine G.yes rfl ?_
  first | refine G.convbs rfl rfl (bytesG_map _) (fun _ h => by cases h) ?_ | refine G.convbs rfl rfl rfl (fun _ h => by cases h) ?_
  refine G.yes rfl ?_
  refine G.mv rfl ?_
  refine G.yes rfl ?_
  refine G.mv rfl ?_
  refine G.yes rfl ?_
  refine G.bin rfl rfl rfl ?_
  refine G.yes rfl ?_
  refine G.ckcall0 rfl rfl rfl ((rflag_ok l (decide (n > 0)) (by omega)).ren [(0, 24)]) ?_
  rintro _ _ ⟨_, _, ⟨rfl, rfl⟩, rfl, rfl⟩
  change newOk _ _ [(24, _)] = true ∧ _
  refine ⟨rfl, ?_⟩
  change WpOpsG _ _ ((36, .osl 24) :: _) ([(24, .arr .yes 1 ((l ++ putB (if decide (n > 0) = true then 1 else 0)).map encB))] ++ _) _
  refine G.yes rfl ?_
  first | refine G.convbs rfl rfl (bytesG_map _) (fun _ h => by cases h) ?_ | refine G.convbs rfl rfl rfl (fun _ h => by cases h) ?_
  refine G.yes rfl ?_
  refine G.bin rfl rfl rfl ?_
  rw [show ((⟨(l ++ putB (if decide (n > 0) = true then 1 else 0)).toArray⟩ : ByteArray).toList == (⟨(l ++ putB (if decide (n > 0) = true then 1 else 0)).toArray⟩ : ByteArray).toList) = true by simp]
  first | refine G.pickT rfl rfl ?_ | refine G.pickF rfl rfl ?_ | refine G.pick rfl rfl rfl ?_
  refine G.mv rfl ?_
  refine WpOpsG.nil ?_
  change WpG _ _ _ _ _
  refine WpG.ret ?_
  refine ⟨_, [], rfl, (hasP_le (by repeat (first | exact trivial | refine ⟨rfl, ?_⟩))), rfl, rfl, rfl, ?_⟩
  exact ⟨rfl, rfl⟩
theorem reads_ok (b : List UInt8) (m : Int) (hbl : b.length ≤ 2 ^ 47) (hm : i64 m) : WpCallG A 13 [.fsl 1 (b.map encB), .v (.int .i64 m)] [] (fun v H => v = .v (.bool true) ∧ H = []) := by
  refine WpCallG.intro g13 rfl rfl ?_
  unfold af13
  change WpG _ _ _ _ _
  refine WpG.seq ?_
  refine WpG.reg ?_
  refine G.mv rfl ?_
  refine WpOpsG.nil ?_
  change WpG _ _ _ _ _
  refine WpG.seq ?_
  refine WpG.reg ?_
  refine G.mv rfl ?_
  refine G.call0 rfl rfl (get_ok b hbl) ?_
  rintro _ _ ⟨rfl, rfl⟩
  refine ⟨rfl, ?_⟩
  change WpOpsG _ _ ((15, _) :: _) _ _
  refine G.mv rfl ?_
  refine G.ext rfl rfl ?_
  refine G.ext rfl rfl ?_
  refine G.mv rfl ?_
  refine G.mv rfl ?_
  refine WpOpsG.nil ?_
  change WpG _ _ _ _ _
  refine WpG.seq ?_
  refine WpG.reg ?_
  refine G.mv rfl ?_
  refine G.call0 rfl rfl (rget_ok b hbl) ?_
  rintro _ _ ⟨rfl, rfl⟩
  refine ⟨rfl, ?_⟩
  change WpOpsG _ _ ((20, _) :: _) _ _
  refine G.mv rfl ?_
  refine G.ext rfl rfl ?_
  refine G.ext rfl rfl ?_
  refine G.mv rfl ?_
  refine G.mv rfl ?_
  refine WpOpsG.nil ?_
  change WpG _ _ _ _ _
  refine WpG.seq ?_
  refine WpG.reg ?_
  refine G.mv rfl ?_
  refine G.mv rfl ?_
  refine G.call0 rfl rfl (cut_ok b m hbl hm) ?_
  rintro _ _ ⟨rfl, rfl⟩
  refine ⟨rfl, ?_⟩
  change WpOpsG _ _ ((26, _) :: _) _ _
  refine G.mv rfl ?_
  refine G.ext rfl rfl ?_
  refine G.ext rfl rfl ?_
  refine G.mv rfl ?_
  refine G.mv rfl ?_
  refine WpOpsG.nil ?_
  change WpG _ _ _ _ _
  refine WpG.seq ?_
  refine WpG.reg ?_
  refine G.mv rfl ?_
  refine G.mv rfl ?_
  refine G.call0 rfl rfl (rcut_ok b m hbl hm) ?_
  rintro _ _ ⟨rfl, rfl⟩
  refine ⟨rfl, ?_⟩
  change WpOpsG _ _ ((32, _) :: _) _ _
  refine G.mv rfl ?_
  refine G.ext rfl rfl ?_
  refine G.ext rfl rfl ?_
  refine G.mv rfl ?_
  refine G.mv rfl ?_
  refine WpOpsG.nil ?_
  change WpG _ _ _ _ _
  refine WpG.seq ?_
  refine WpG.reg ?_
  refine G.mv rfl ?_
  refine G.mv rfl ?_
  refine G.bin rfl rfl rfl ?_
  rw [show ((getB b).1 == (getB b).1) = true by simp]
  refine G.mv rfl ?_
  refine G.yes rfl ?_
  refine G.mv rfl ?_
  refine G.yes rfl ?_
  refine G.mv rfl ?_
  refine G.yes rfl ?_
  refine G.bin rfl rfl rfl ?_
  rw [show ((getB b).2 == (getB b).2) = true by simp]
  first | refine G.pickT rfl rfl ?_ | refine G.pickF rfl rfl ?_ | refine G.pick rfl rfl rfl ?_
  refine G.mv rfl ?_
  refine G.yes rfl ?_
  refine G.mv rfl ?_
  refine G.yes rfl ?_
  refine G.mv rfl ?_
  refine G.yes rfl ?_
  refine G.bin rfl rfl rfl ?_
  rw [show ((⟨((cutB b m).1).toArray⟩ : ByteArray).toList == (⟨((cutB b m).1).toArray⟩ : ByteArray).toList) = true by simp]
  first | refine G.pickT rfl rfl ?_ | refine G.pickF rfl rfl ?_ | refine G.pick rfl rfl rfl ?_
  refine G.mv rfl ?_
  refine G.yes rfl ?_
  refine G.mv rfl ?_
  refine G.yes rfl ?_
  refine G.mv rfl ?_
  refine G.yes rfl ?_
  refine G.bin rfl rfl rfl ?_
  rw [show ((cutB b m).2 == (cutB b m).2) = true by simp]
  first | refine G.pickT rfl rfl ?_ | refine G.pickF rfl rfl ?_ | refine G.pick rfl rfl rfl ?_
  refine G.mv rfl ?_
  refine WpOpsG.nil ?_
  change WpG _ _ _ _ _
  refine WpG.ret ?_
  refine ⟨_, [], rfl, (hasP_le (by repeat (first | exact trivial | refine ⟨rfl, ?_⟩))), rfl, rfl, rfl, ?_⟩
  exact ⟨rfl, rfl⟩
theorem known2_ok  : WpCallG A 10 [] [] (fun v H => v = .v (.bool true) ∧ H = []) := by
  refine WpCallG.intro g10 rfl rfl ?_
  unfold af10
  change WpG _ _ _ _ _
  refine WpG.seq ?_
  refine WpG.reg ?_
  refine G.mv rfl ?_
  refine WpOpsG.nil ?_
  change WpG _ _ _ _ _
  refine WpG.seq ?_
  refine WpG.reg ?_
  refine G.bsliceF rfl rfl rfl ?_
  change WpOpsG _ _ ((12, .fsl 1 (([1, 0] : List UInt8).map encB)) :: _) _ _
  refine G.call0 rfl rfl (get_ok [1, 0] (by decide)) ?_
  rintro _ _ ⟨rfl, rfl⟩
  refine ⟨rfl, ?_⟩
  change WpOpsG _ _ ((13, _) :: _) _ _
  rw [show getB [1, 0] = (0, 0) by decide +kernel]
  refine G.mv rfl ?_
  refine G.ext rfl rfl ?_
  refine G.ext rfl rfl ?_
  refine G.mv rfl ?_
  refine G.mv rfl ?_
  refine WpOpsG.nil ?_
  change WpG _ _ _ _ _
  refine WpG.seq ?_
  refine WpG.reg ?_
  refine G.bsliceF rfl rfl rfl ?_
  change WpOpsG _ _ ((17, .fsl 1 (([130, 1, 44, 9] : List UInt8).map encB)) :: _) _ _
  refine G.call0 rfl rfl (get_ok [130, 1, 44, 9] (by decide)) ?_
  rintro _ _ ⟨rfl, rfl⟩
  refine ⟨rfl, ?_⟩
  change WpOpsG _ _ ((18, _) :: _) _ _
  rw [show getB [130, 1, 44, 9] = (-300, 3) by decide +kernel]
  refine G.mv rfl ?_
  refine G.ext rfl rfl ?_
  refine G.ext rfl rfl ?_
  refine G.mv rfl ?_
  refine G.mv rfl ?_
  refine WpOpsG.nil ?_
  change WpG _ _ _ _ _
  refine WpG.seq ?_
  refine WpG.reg ?_
  refine G.bsliceF rfl rfl rfl ?_
  change WpOpsG _ _ ((22, .fsl 1 (([128] : List UInt8).map encB)) :: _) _ _
  refine G.call0 rfl rfl (get_ok [128] (by decide)) ?_
  rintro _ _ ⟨rfl, rfl⟩
  refine ⟨rfl, ?_⟩
  change WpOpsG _ _ ((23, _) :: _) _ _
  rw [show getB [128] = (0, 0) by decide +kernel]
  refine G.mv rfl ?_
  refine G.ext rfl rfl ?_
  refine G.ext rfl rfl ?_
  refine G.mv rfl ?_
  refine G.mv rfl ?_
  refine WpOpsG.nil ?_
  change WpG _ _ _ _ _
  refine WpG.seq ?_
  refine WpG.reg ?_
  refine G.bsliceF rfl rfl rfl ?_
  change WpOpsG _ _ ((27, .fsl 1 (([1, 2, 97, 98, 99] : List UInt8).map encB)) :: _) _ _
  refine G.call0 rfl rfl (cut_ok [1, 2, 97, 98, 99] 2 (by decide) (by unfold i64; decide)) ?_
  rintro _ _ ⟨rfl, rfl⟩
  refine ⟨rfl, ?_⟩
  change WpOpsG _ _ ((28, _) :: _) _ _
  rw [show cutB [1, 2, 97, 98, 99] 2 = ([97, 98], 4) by decide +kernel]
  refine G.mv rfl ?_
  refine G.ext rfl rfl ?_
  refine G.ext rfl rfl ?_
  refine G.mv rfl ?_
  refine G.mv rfl ?_
  refine WpOpsG.nil ?_
  change WpG _ _ _ _ _
  refine WpG.seq ?_
  refine WpG.reg ?_
  refine G.bsliceF rfl rfl rfl ?_
  change WpOpsG _ _ ((32, .fsl 1 (([1, 2, 97, 98, 99] : List UInt8).map encB)) :: _) _ _
  refine G.call0 rfl rfl (cut_ok [1, 2, 97, 98, 99] 1 (by decide) (by unfold i64; decide)) ?_
  rintro _ _ ⟨rfl, rfl⟩
  refine ⟨rfl, ?_⟩
  change WpOpsG _ _ ((33, _) :: _) _ _
  rw [show cutB [1, 2, 97, 98, 99] 1 = ([], 0) by decide +kernel]
  refine G.mv rfl ?_
  refine G.ext rfl rfl ?_
  refine G.ext rfl rfl ?_
  refine G.mv rfl ?_
  refine G.mv rfl ?_
  refine WpOpsG.nil ?_
  change WpG _ _ _ _ _
  refine WpG.seq ?_
  refine WpG.reg ?_
  refine G.call0 rfl rfl ((nil1 (put_ok [] (-300) (by decide) (by unfold i64; decide))).ren [(0, 20)]) ?_
  rintro _ _ ⟨_, _, ⟨rfl, rfl⟩, rfl, rfl⟩
  change newOk _ _ [(20, _)] = true ∧ _
  rw [show [] ++ putB (-300) = [130, 1, 44] by decide +kernel]
  refine ⟨rfl, ?_⟩
  change WpOpsG _ _ ((36, .osl 20) :: _) ([(20, .arr .yes 1 (([130, 1, 44]).map encB))] ++ _) _
  first | refine G.convbs rfl rfl (bytesG_map _) (fun _ h => by cases h) ?_ | refine G.convbs rfl rfl rfl (fun _ h => by cases h) ?_
  refine G.bin rfl rfl rfl ?_
  rw [show ((⟨([130, 1, 44] : List UInt8).toArray⟩ : ByteArray).toList == (ByteArray.mk (Array.mk [130, 1, 44])).toList) = true by simp]
  refine G.mv rfl ?_
  refine G.yes rfl ?_
  refine G.mv rfl ?_
  refine G.yes rfl ?_
  refine G.bin rfl rfl rfl ?_
  first | refine G.pickT rfl rfl ?_ | refine G.pickF rfl rfl ?_ | refine G.pick rfl rfl rfl ?_
  refine G.mv rfl ?_
  refine G.yes rfl ?_
  refine G.mv rfl ?_
  refine G.yes rfl ?_
  refine G.bin rfl rfl rfl ?_
  first | refine G.pickT rfl rfl ?_ | refine G.pickF rfl rfl ?_ | refine G.pick rfl rfl rfl ?_
  refine G.mv rfl ?_
  refine G.yes rfl ?_
  refine G.mv rfl ?_
  refine G.yes rfl ?_
  refine G.bin rfl rfl rfl ?_
  first | refine G.pickT rfl rfl ?_ | refine G.pickF rfl rfl ?_ | refine G.pick rfl rfl rfl ?_
  refine G.mv rfl ?_
  refine G.yes rfl ?_
  refine G.mv rfl ?_
  refine G.yes rfl ?_
  refine G.bin rfl rfl rfl ?_
  first | refine G.pickT rfl rfl ?_ | refine G.pickF rfl rfl ?_ | refine G.pick rfl rfl rfl ?_
  refine G.mv rfl ?_
  refine G.yes rfl ?_
  refine G.mv rfl ?_
  refine G.yes rfl ?_
  refine G.bin rfl rfl rfl ?_
  first | refine G.pickT rfl rfl ?_ | refine G.pickF rfl rfl ?_ | refine G.pick rfl rfl rfl ?_
  refine G.mv rfl ?_
  refine G.yes rfl ?_
  refine G.mv rfl ?_
  refine G.yes rfl ?_
  refine G.bin rfl rfl rfl ?_
  rw [show ((⟨([97, 98] : List UInt8).toArray⟩ : ByteArray).toList == (ByteArray.mk (Array.mk [97, 98])).toList) = true by simp]
  first | refine G.pickT rfl rfl ?_ | refine G.pickF rfl rfl ?_ | refine G.pick rfl rfl rfl ?_
  refine G.mv rfl ?_
  refine G.yes rfl ?_
  refine G.mv rfl ?_
  refine G.yes rfl ?_
  refine G.bin rfl rfl rfl ?_
  first | refine G.pickT rfl rfl ?_ | refine G.pickF rfl rfl ?_ | refine G.pick rfl rfl rfl ?_
  refine G.mv rfl ?_
  refine G.yes rfl ?_
  refine G.mv rfl ?_
  refine G.yes rfl ?_
  refine G.bin rfl rfl rfl ?_
  first | refine G.pickT rfl rfl ?_ | refine G.pickF rfl rfl ?_ | refine G.pick rfl rfl rfl ?_
  refine G.mv rfl ?_
  refine G.yes rfl ?_
  refine G.call0 rfl rfl ((nil1 (put_ok [] 0 (by decide) (by unfold i64; decide))).ren [(0, 21)]) ?_
  rintro _ _ ⟨_, _, ⟨rfl, rfl⟩, rfl, rfl⟩
  change newOk _ _ [(21, _)] = true ∧ _
  rw [show [] ++ putB 0 = [0] by decide +kernel]
  refine ⟨rfl, ?_⟩
  change WpOpsG _ _ ((72, .osl 21) :: _) ([(21, .arr .yes 1 (([0]).map encB))] ++ _) _
  refine G.yes rfl ?_
  first | refine G.convbs rfl rfl (bytesG_map _) (fun _ h => by cases h) ?_ | refine G.convbs rfl rfl rfl (fun _ h => by cases h) ?_
  refine G.yes rfl ?_
  refine G.bin rfl rfl rfl ?_
  rw [show ((⟨([0] : List UInt8).toArray⟩ : ByteArray).toList == (ByteArray.mk (Array.mk [0])).toList) = true by simp]
  first | refine G.pickT rfl rfl ?_ | refine G.pickF rfl rfl ?_ | refine G.pick rfl rfl rfl ?_
  refine G.mv rfl ?_
  refine G.yes rfl ?_
  refine G.call0 rfl rfl ((nil1 (flag_ok [] true (by decide))).ren [(0, 22)]) ?_
  rintro _ _ ⟨_, _, ⟨rfl, rfl⟩, rfl, rfl⟩
  change newOk _ _ [(22, _)] = true ∧ _
  rw [show [] ++ putB (if true = true then 1 else 0) = [1, 1] by decide +kernel]
  refine ⟨rfl, ?_⟩
  change WpOpsG _ _ ((77, .osl 22) :: _) ([(22, .arr .yes 1 (([1, 1]).map encB))] ++ _) _
  refine G.yes rfl ?_
  first | refine G.convbs rfl rfl (bytesG_map _) (fun _ h => by cases h) ?_ | refine G.convbs rfl rfl rfl (fun _ h => by cases h) ?_
  refine G.yes rfl ?_
  refine G.bin rfl rfl rfl ?_
  rw [show ((⟨([1, 1] : List UInt8).toArray⟩ : ByteArray).toList == (ByteArray.mk (Array.mk [1, 1])).toList) = true by simp]
  first | refine G.pickT rfl rfl ?_ | refine G.pickF rfl rfl ?_ | refine G.pick rfl rfl rfl ?_
  refine G.mv rfl ?_
  refine WpOpsG.nil ?_
  change WpG _ _ _ _ _
  refine WpG.ret ?_
  refine ⟨_, [], rfl, (hasP_le (by repeat (first | exact trivial | refine ⟨rfl, ?_⟩))), rfl, rfl, rfl, ?_⟩
  exact ⟨rfl, rfl⟩
end Go.AM.L2
