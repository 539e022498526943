/- Contracts of the functions that the statement reaches. No condition. -/
import Derived.Test.YtjgjjchfpohffaaC22b
import Derived.Test.YtjgjjchfpohffaaPL22b
set_option linter.all false
set_option maxRecDepth 10000
namespace Go.AM.L22
open Go.AM.PL
theorem locals_ok (xs ys : List Lcl) (hx : xs.length ≤ 2 ^ 50) (hy : ys.length ≤ 2 ^ 50) : WpCallG A 31 [.fsl 6 (xs.map encL), .fsl 6 (ys.map encL)] [] (fun v H => v = .v (.bool (decide (xs = ys))) ∧ H = []) := by
  refine WpCallG.intro g31 rfl rfl ?_
  unfold af31
  change WpG _ _ _ _ _
  refine WpG.seq ?_
  refine WpG.reg ?_
  refine G.mv rfl ?_
  refine WpOpsG.nil ?_
  change WpG _ _ _ _ _
  refine WpG.seq ?_
  refine WpG.seq ?_
  refine WpG.reg ?_
  refine G.mv rfl ?_
  first | refine G.lenM rfl ?_ | refine G.lenOM rfl rfl ?_ | refine G.lenF rfl ?_ | refine G.lenO rfl rfl ?_ | refine G.lenNil rfl ?_
  refine G.mv rfl ?_
  first | refine G.lenM rfl ?_ | refine G.lenOM rfl rfl ?_ | refine G.lenF rfl ?_ | refine G.lenO rfl rfl ?_ | refine G.lenNil rfl ?_
  refine G.bin rfl rfl rfl ?_
  refine WpOpsG.nil ?_
  change WpG _ _ _ _ _
  refine WpG.cond rfl (fun hq1 => ?_) (fun hq1 => ?_)
  · (try simp only [decide_eq_true_eq, decide_eq_false_iff_not, Bool.or_eq_true, Bool.and_eq_true, Bool.or_eq_false_iff, Bool.and_eq_false_iff, bne_iff_ne, beq_iff_eq, beq_eq_false_iff_ne, bne_eq_false_iff_eq, ne_eq, Bool.not_eq_true', Bool.not_eq_false', Int.not_lt, Int.not_le, Decidable.not_not, List.length_map, List.length_cons, List.length_nil] at hq1)
    refine WpG.seq ?_
    refine WpG.reg ?_
    refine G.mv rfl ?_
    refine WpOpsG.nil ?_
    change WpG _ _ _ _ _
    refine WpG.ret ?_
    refine ⟨_, [], rfl, (hasP_le (by repeat (first | exact trivial | refine ⟨rfl, ?_⟩))), rfl, rfl, rfl, ?_⟩
    rw [decide_eq_false (fun h => by subst h; omega)]
    exact ⟨rfl, rfl⟩
  · (try simp only [decide_eq_true_eq, decide_eq_false_iff_not, Bool.or_eq_true, Bool.and_eq_true, Bool.or_eq_false_iff, Bool.and_eq_false_iff, bne_iff_ne, beq_iff_eq, beq_eq_false_iff_ne, bne_eq_false_iff_eq, ne_eq, Bool.not_eq_true', Bool.not_eq_false', Int.not_lt, Int.not_le, Decidable.not_not, List.length_map, List.length_cons, List.length_nil] at hq1)
    refine WpG.skip ?_
    change WpG _ _ _ _ _
    refine WpG.seq ?_
    refine WpG.seq ?_
    refine WpG.reg ?_
    refine G.mv rfl ?_
    first | refine G.lenM rfl ?_ | refine G.lenOM rfl rfl ?_ | refine G.lenF rfl ?_ | refine G.lenO rfl rfl ?_ | refine G.lenNil rfl ?_
    refine G.mv rfl ?_
    refine WpOpsG.nil ?_
    change WpG _ _ _ _ _
    refine WpG.block ?_
    refine WpG.loop (S := Nat) (fun i => [(0, .fsl 6 (xs.map encL)), (1, .fsl 6 (ys.map encL)), (4, .v (.bool false)), (12, .v (.int .i64 xs.length)), (13, .v (.int .i64 i))]) (fun _ => []) (fun i => i ≤ xs.length ∧ xs.take i = ys.take i) (fun i => xs.length - i) (fun s => ⟨rfl, rfl⟩) ?_ 0 ?_ (by repeat (first | exact trivial | refine ⟨rfl, ?_⟩)) (by repeat (first | exact trivial | refine ⟨rfl, ?_⟩)) rfl
    · rintro i ⟨hI, hT⟩
      refine WpG.seq ?_
      refine WpG.reg ?_
      refine G.bin rfl rfl rfl ?_
      refine WpOpsG.nil ?_
      change WpG _ _ _ _ _
      refine WpG.seq ?_
      refine WpG.cond rfl (fun hq2 => ?_) (fun hq2 => ?_)
      · (try simp only [decide_eq_true_eq, decide_eq_false_iff_not, Bool.or_eq_true, Bool.and_eq_true, Bool.or_eq_false_iff, Bool.and_eq_false_iff, bne_iff_ne, beq_iff_eq, beq_eq_false_iff_ne, bne_eq_false_iff_eq, ne_eq, Bool.not_eq_true', Bool.not_eq_false', Int.not_lt, Int.not_le, Decidable.not_not, List.length_map, List.length_cons, List.length_nil] at hq2)
        refine WpG.skip ?_
        change WpG _ _ _ _ _
        refine WpG.seq ?_
        refine WpG.block ?_
        refine WpG.seq ?_
        refine WpG.reg ?_
        refine G.mv rfl ?_
        refine G.mv rfl ?_
        refine WpOpsG.nil ?_
        change WpG _ _ _ _ _
        refine WpG.seq ?_
        refine WpG.reg ?_
        refine G.mv rfl ?_
        refine G.mv rfl ?_
        first | refine G.iaddrN rfl rfl (List.getElem?_eq_getElem (by first | omega | (simp only [List.length_map, List.length_append, List.length_cons, List.length_nil, List.length_replicate, List.length_take, List.length_drop, List.length_set]; omega))) ?_ | refine G.iaddrM rfl rfl (by omega) (List.getElem?_eq_getElem (by first | omega | (simp only [List.length_map, List.length_append, List.length_cons, List.length_nil, List.length_replicate, List.length_take, List.length_drop, List.length_set]; omega))) ?_ | refine G.iaddrF rfl rfl (by omega) rfl ?_ | refine G.iaddrO rfl rfl rfl (by omega) (by first | omega | (simp only [List.length_map, List.length_append, List.length_cons, List.length_nil, List.length_replicate, List.length_take, List.length_drop, List.length_set]; omega)) ?_ | refine G.iaddrF rfl rfl (by omega) (List.getElem?_eq_getElem (by first | omega | (simp only [List.length_map, List.length_append, List.length_cons, List.length_nil, List.length_replicate, List.length_take, List.length_drop, List.length_set]; omega))) ?_
        first | refine G.loadNB rfl rfl rfl ?_ | refine G.loadNF rfl rfl ?_ | refine G.loadNEM rfl rfl (List.getElem?_eq_getElem (by first | omega | (simp only [List.length_map, List.length_append, List.length_cons, List.length_nil, List.length_replicate, List.length_take, List.length_drop, List.length_set]; omega))) rfl ?_
        refine G.mv rfl ?_
        refine G.mv rfl ?_
        first | refine G.iaddrN rfl rfl (List.getElem?_eq_getElem (by first | omega | (simp only [List.length_map, List.length_append, List.length_cons, List.length_nil, List.length_replicate, List.length_take, List.length_drop, List.length_set]; omega))) ?_ | refine G.iaddrM rfl rfl (by omega) (List.getElem?_eq_getElem (by first | omega | (simp only [List.length_map, List.length_append, List.length_cons, List.length_nil, List.length_replicate, List.length_take, List.length_drop, List.length_set]; omega))) ?_ | refine G.iaddrF rfl rfl (by omega) rfl ?_ | refine G.iaddrO rfl rfl rfl (by omega) (by first | omega | (simp only [List.length_map, List.length_append, List.length_cons, List.length_nil, List.length_replicate, List.length_take, List.length_drop, List.length_set]; omega)) ?_ | refine G.iaddrF rfl rfl (by omega) (List.getElem?_eq_getElem (by first | omega | (simp only [List.length_map, List.length_append, List.length_cons, List.length_nil, List.length_replicate, List.length_take, List.length_drop, List.length_set]; omega))) ?_
        first | refine G.loadNB rfl rfl rfl ?_ | refine G.loadNF rfl rfl ?_ | refine G.loadNEM rfl rfl (List.getElem?_eq_getElem (by first | omega | (simp only [List.length_map, List.length_append, List.length_cons, List.length_nil, List.length_replicate, List.length_take, List.length_drop, List.length_set]; omega))) rfl ?_
        refine G.beq rfl rfl rfl ?_
        refine WpOpsG.nil ?_
        change WpG _ _ _ _ _
        refine WpG.cond rfl (fun hq3 => ?_) (fun hq3 => ?_)
        · (try simp only [decide_eq_true_eq, decide_eq_false_iff_not, Bool.or_eq_true, Bool.and_eq_true, Bool.or_eq_false_iff, Bool.and_eq_false_iff, bne_iff_ne, beq_iff_eq, beq_eq_false_iff_ne, bne_eq_false_iff_eq, ne_eq, Bool.not_eq_true', Bool.not_eq_false', Int.not_lt, Int.not_le, Decidable.not_not, List.length_map, List.length_cons, List.length_nil] at hq3)
          refine WpG.seq ?_
          refine WpG.reg ?_
          refine G.mv rfl ?_
          refine WpOpsG.nil ?_
          change WpG _ _ _ _ _
          refine WpG.ret ?_
          refine ⟨_, [], rfl, (hasP_le (by repeat (first | exact trivial | refine ⟨rfl, ?_⟩))), rfl, rfl, rfl, ?_⟩
          rw [decide_eq_false (fun h => by subst h; exact leq_f hq3 rfl)]
          exact ⟨rfl, rfl⟩
        · (try simp only [decide_eq_true_eq, decide_eq_false_iff_not, Bool.or_eq_true, Bool.and_eq_true, Bool.or_eq_false_iff, Bool.and_eq_false_iff, bne_iff_ne, beq_iff_eq, beq_eq_false_iff_ne, bne_eq_false_iff_eq, ne_eq, Bool.not_eq_true', Bool.not_eq_false', Int.not_lt, Int.not_le, Decidable.not_not, List.length_map, List.length_cons, List.length_nil] at hq3)
          refine WpG.skip ?_
          change WpG _ _ _ _ _
          refine WpG.reg ?_
          first | refine G.addI rfl rfl (by omega) ?_ | refine G.bin rfl rfl rfl ?_
          refine G.mv rfl ?_
          refine WpOpsG.nil ?_
          exact ⟨i + 1, by omega, ⟨by omega, (take_step (by omega) (by omega) hT).2 (leq_t hq3)⟩, ⟨rfl, rfl, rfl, rfl, rfl, trivial⟩, trivial, rfl⟩
      · (try simp only [decide_eq_true_eq, decide_eq_false_iff_not, Bool.or_eq_true, Bool.and_eq_true, Bool.or_eq_false_iff, Bool.and_eq_false_iff, bne_iff_ne, beq_iff_eq, beq_eq_false_iff_ne, bne_eq_false_iff_eq, ne_eq, Bool.not_eq_true', Bool.not_eq_false', Int.not_lt, Int.not_le, Decidable.not_not, List.length_map, List.length_cons, List.length_nil] at hq2)
        refine WpG.exit ?_
        change WpG _ _ _ _ _
        refine WpG.seq ?_
        refine WpG.reg ?_
        refine G.mv rfl ?_
        refine WpOpsG.nil ?_
        change WpG _ _ _ _ _
        refine WpG.ret ?_
        refine ⟨_, [], rfl, (hasP_le (by repeat (first | exact trivial | refine ⟨rfl, ?_⟩))), rfl, rfl, rfl, ?_⟩
        have he : xs = ys := by
          have e1 : xs.take i = xs := take_all (by omega)
          have e2 : ys.take i = ys := take_all (by omega)
          rw [← e1, ← e2]; exact hT
        rw [decide_eq_true he]
        exact ⟨rfl, rfl⟩
    · exact ⟨Nat.zero_le _, rfl⟩
theorem lprefix_ok (xs ys : List Lcl) (hx : xs.length ≤ 2 ^ 50) (hy : ys.length ≤ 2 ^ 50) : WpCallG A 19 [.fsl 6 (xs.map encL), .fsl 6 (ys.map encL)] [] (fun v H => v = .v (.bool (decide (xs <+: ys))) ∧ H = []) := by
  refine WpCallG.intro g19 rfl rfl ?_
  unfold af19
  change WpG _ _ _ _ _
  refine WpG.seq ?_
  refine WpG.reg ?_
  refine G.mv rfl ?_
  refine WpOpsG.nil ?_
  change WpG _ _ _ _ _
  refine WpG.seq ?_
  refine WpG.reg ?_
  refine G.mv rfl ?_
  first | refine G.lenM rfl ?_ | refine G.lenOM rfl rfl ?_ | refine G.lenF rfl ?_ | refine G.lenO rfl rfl ?_ | refine G.lenNil rfl ?_
  refine G.mv rfl ?_
  first | refine G.lenM rfl ?_ | refine G.lenOM rfl rfl ?_ | refine G.lenF rfl ?_ | refine G.lenO rfl rfl ?_ | refine G.lenNil rfl ?_
  refine G.bin rfl rfl rfl ?_
  refine G.mv rfl ?_
  apply G.andS rfl rfl rfl rfl rfl rfl
  case hB =>
    intro hs1
    (try simp only [decide_eq_true_eq, decide_eq_false_iff_not, Bool.or_eq_true, Bool.and_eq_true, Bool.or_eq_false_iff, Bool.and_eq_false_iff, bne_iff_ne, beq_iff_eq, beq_eq_false_iff_ne, bne_eq_false_iff_eq, ne_eq, Bool.not_eq_true', Bool.not_eq_false', Int.not_lt, Int.not_le, Decidable.not_not, List.length_map, List.length_cons, List.length_nil] at hs1)
    refine G.mv rfl ?_
    refine G.mv rfl ?_
    refine G.mv rfl ?_
    first | refine G.lenM rfl ?_ | refine G.lenOM rfl rfl ?_ | refine G.lenF rfl ?_ | refine G.lenO rfl rfl ?_ | refine G.lenNil rfl ?_
    refine G.slF rfl (bndG_some (n := (xs.length : Int)) (k := .i64) rfl ⟨by omega, by rw [List.length_map]; omega⟩) rfl ?_
    rw [show ((ys.map encL).take ((xs.length : Int)).toNat).drop 0 = (ys.take xs.length).map encL by rw [List.drop_zero, List.map_take]; rfl]
    refine G.call0 rfl rfl (locals_ok xs (ys.take xs.length) hx (by rw [List.length_take]; omega)) ?_
    rintro _ _ ⟨rfl, rfl⟩
    refine ⟨rfl, ?_⟩
    change WpOpsG _ _ (_ :: _) _ _
    refine WpOpsG.nil ?_
    exact ⟨rfl, (by repeat (first | exact LLe.refl _ | refine LLe.cons rfl ?_)), (by repeat (first | exact HLe.refl _ | refine HLe.cons rfl ?_)), rfl⟩
  refine G.mv rfl ?_
  refine WpOpsG.nil ?_
  change WpG _ _ _ _ _
  refine WpG.ret ?_
  refine ⟨_, [], rfl, (hasP_le (by repeat (first | exact trivial | refine ⟨rfl, ?_⟩))), rfl, rfl, rfl, ?_⟩
  refine ⟨?_, rfl⟩
  show GV.v (.bool _) = GV.v (.bool _)
  congr 2
  have hp := List.prefix_iff_eq_take (l₁ := xs) (l₂ := ys)
  by_cases h : xs <+: ys
  · rw [decide_eq_true h, decide_eq_true (hp.1 h), decide_eq_true (by have := h.length_le; omega)]; rfl
  · rw [decide_eq_false h, decide_eq_false (fun e => h (hp.2 e)), Bool.and_false]
theorem lfirst_ok (xs ys : List Lcl) (hx : xs.length ≤ 2 ^ 50) (hy : ys.length ≤ 2 ^ 50) : WpCallG A 20 [.fsl 6 (xs.map encL), .fsl 6 (ys.map encL)] [] (fun v H => v = .v (.int .i64 (firstV xs ys)) ∧ H = []) := by
  refine WpCallG.intro g20 rfl rfl ?_
  unfold af20
  change WpG _ _ _ _ _
  refine WpG.seq ?_
  refine WpG.reg ?_
  refine G.mv rfl ?_
  refine WpOpsG.nil ?_
  change WpG _ _ _ _ _
  refine WpG.seq ?_
  refine WpG.seq ?_
  refine WpG.reg ?_
  refine G.mv rfl ?_
  refine WpOpsG.nil ?_
  change WpG _ _ _ _ _
  refine WpG.block ?_
  refine WpG.loop (S := Nat) (fun i => [(0, .fsl 6 (xs.map encL)), (1, .fsl 6 (ys.map encL)), (4, .v (.int .i64 0)), (5, .v (.int .i64 i))]) (fun _ => []) (fun i => (i ≤ xs.length ∧ i ≤ ys.length) ∧ xs.take i = ys.take i) (fun i => xs.length - i) (fun s => ⟨rfl, rfl⟩) ?_ 0 ?_ (by repeat (first | exact trivial | refine ⟨rfl, ?_⟩)) (by repeat (first | exact trivial | refine ⟨rfl, ?_⟩)) rfl
  · rintro i ⟨⟨hI, hI2⟩, hT⟩
    refine WpG.seq ?_
    refine WpG.seq ?_
    refine WpG.reg ?_
    refine G.mv rfl ?_
    refine G.mv rfl ?_
    first | refine G.lenM rfl ?_ | refine G.lenOM rfl rfl ?_ | refine G.lenF rfl ?_ | refine G.lenO rfl rfl ?_ | refine G.lenNil rfl ?_
    refine G.bin rfl rfl rfl ?_
    refine G.mv rfl ?_
    apply G.orS rfl rfl rfl rfl rfl rfl
    case hB =>
      intro hs1
      (try simp only [decide_eq_true_eq, decide_eq_false_iff_not, Bool.or_eq_true, Bool.and_eq_true, Bool.or_eq_false_iff, Bool.and_eq_false_iff, bne_iff_ne, beq_iff_eq, beq_eq_false_iff_ne, bne_eq_false_iff_eq, ne_eq, Bool.not_eq_true', Bool.not_eq_false', Int.not_lt, Int.not_le, Decidable.not_not, List.length_map, List.length_cons, List.length_nil] at hs1)
      refine G.mv rfl ?_
      refine G.mv rfl ?_
      first | refine G.lenM rfl ?_ | refine G.lenOM rfl rfl ?_ | refine G.lenF rfl ?_ | refine G.lenO rfl rfl ?_ | refine G.lenNil rfl ?_
      refine G.bin rfl rfl rfl ?_
      refine WpOpsG.nil ?_
      exact ⟨rfl, (by repeat (first | exact LLe.refl _ | refine LLe.cons rfl ?_)), (by repeat (first | exact HLe.refl _ | refine HLe.cons rfl ?_)), rfl⟩
    refine WpOpsG.nil ?_
    change WpG _ _ _ _ _
    refine WpG.cond rfl (fun hq2 => ?_) (fun hq2 => ?_)
    · (try simp only [decide_eq_true_eq, decide_eq_false_iff_not, Bool.or_eq_true, Bool.and_eq_true, Bool.or_eq_false_iff, Bool.and_eq_false_iff, bne_iff_ne, beq_iff_eq, beq_eq_false_iff_ne, bne_eq_false_iff_eq, ne_eq, Bool.not_eq_true', Bool.not_eq_false', Int.not_lt, Int.not_le, Decidable.not_not, List.length_map, List.length_cons, List.length_nil] at hq2)
      refine WpG.skip ?_
      change WpG _ _ _ _ _
      refine WpG.seq ?_
      refine WpG.block ?_
      refine WpG.seq ?_
      refine WpG.reg ?_
      refine G.mv rfl ?_
      refine G.mv rfl ?_
      first | refine G.lenM rfl ?_ | refine G.lenOM rfl rfl ?_ | refine G.lenF rfl ?_ | refine G.lenO rfl rfl ?_ | refine G.lenNil rfl ?_
      refine G.bin rfl rfl rfl ?_
      refine G.mv rfl ?_
      apply G.orS rfl rfl rfl rfl rfl rfl
      case hB =>
        intro hs3
        (try simp only [decide_eq_true_eq, decide_eq_false_iff_not, Bool.or_eq_true, Bool.and_eq_true, Bool.or_eq_false_iff, Bool.and_eq_false_iff, bne_iff_ne, beq_iff_eq, beq_eq_false_iff_ne, bne_eq_false_iff_eq, ne_eq, Bool.not_eq_true', Bool.not_eq_false', Int.not_lt, Int.not_le, Decidable.not_not, List.length_map, List.length_cons, List.length_nil] at hs3)
        refine G.mv rfl ?_
        refine G.mv rfl ?_
        first | refine G.lenM rfl ?_ | refine G.lenOM rfl rfl ?_ | refine G.lenF rfl ?_ | refine G.lenO rfl rfl ?_ | refine G.lenNil rfl ?_
        refine G.bin rfl rfl rfl ?_
        refine WpOpsG.nil ?_
        exact ⟨rfl, (by repeat (first | exact LLe.refl _ | refine LLe.cons rfl ?_)), (by repeat (first | exact HLe.refl _ | refine HLe.cons rfl ?_)), rfl⟩
      refine G.mv rfl ?_
      apply G.orS rfl rfl rfl rfl rfl rfl
      case hB =>
        intro hs4
        (try simp only [decide_eq_true_eq, decide_eq_false_iff_not, Bool.or_eq_true, Bool.and_eq_true, Bool.or_eq_false_iff, Bool.and_eq_false_iff, bne_iff_ne, beq_iff_eq, beq_eq_false_iff_ne, bne_eq_false_iff_eq, ne_eq, Bool.not_eq_true', Bool.not_eq_false', Int.not_lt, Int.not_le, Decidable.not_not, List.length_map, List.length_cons, List.length_nil] at hs4)
        refine G.mv rfl ?_
        refine G.mv rfl ?_
        refine G.iaddrN rfl rfl (gD (d := ⟨0, 0, 0, 0, 0, 0⟩) (by omega)) ?_
        first | refine G.loadNB rfl rfl rfl ?_ | refine G.loadNF rfl rfl ?_ | refine G.loadNEM rfl rfl (List.getElem?_eq_getElem (by first | omega | (simp only [List.length_map, List.length_append, List.length_cons, List.length_nil, List.length_replicate, List.length_take, List.length_drop, List.length_set]; omega))) rfl ?_
        refine G.mv rfl ?_
        refine G.mv rfl ?_
        refine G.iaddrN rfl rfl (gD (d := ⟨0, 0, 0, 0, 0, 0⟩) (by omega)) ?_
        first | refine G.loadNB rfl rfl rfl ?_ | refine G.loadNF rfl rfl ?_ | refine G.loadNEM rfl rfl (List.getElem?_eq_getElem (by first | omega | (simp only [List.length_map, List.length_append, List.length_cons, List.length_nil, List.length_replicate, List.length_take, List.length_drop, List.length_set]; omega))) rfl ?_
        refine G.beq rfl rfl rfl ?_
        refine WpOpsG.nil ?_
        exact ⟨rfl, (by repeat (first | exact LLe.refl _ | refine LLe.cons rfl ?_)), (by repeat (first | exact HLe.refl _ | refine HLe.cons rfl ?_)), rfl⟩
      refine WpOpsG.nil ?_
      change WpG _ _ _ _ _
      refine WpG.cond rfl (fun hq5 => ?_) (fun hq5 => ?_)
      · (try simp only [decide_eq_true_eq, decide_eq_false_iff_not, Bool.or_eq_true, Bool.and_eq_true, Bool.or_eq_false_iff, Bool.and_eq_false_iff, bne_iff_ne, beq_iff_eq, beq_eq_false_iff_ne, bne_eq_false_iff_eq, ne_eq, Bool.not_eq_true', Bool.not_eq_false', Int.not_lt, Int.not_le, Decidable.not_not, List.length_map, List.length_cons, List.length_nil] at hq5)
        refine WpG.seq ?_
        refine WpG.reg ?_
        refine G.mv rfl ?_
        refine G.mv rfl ?_
        refine WpOpsG.nil ?_
        change WpG _ _ _ _ _
        refine WpG.ret ?_
        refine ⟨_, [], rfl, (hasP_le (by repeat (first | exact trivial | refine ⟨rfl, ?_⟩))), rfl, rfl, rfl, ?_⟩
        rw [firstV_at hT hI hI2 (by omega) (fun a b => by
          rcases hq5 with (h | h) | h
          · omega
          · omega
          · rw [gDe a, gDe b] at h; exact leq_f h)]
        exact ⟨rfl, rfl⟩
      · (try simp only [decide_eq_true_eq, decide_eq_false_iff_not, Bool.or_eq_true, Bool.and_eq_true, Bool.or_eq_false_iff, Bool.and_eq_false_iff, bne_iff_ne, beq_iff_eq, beq_eq_false_iff_ne, bne_eq_false_iff_eq, ne_eq, Bool.not_eq_true', Bool.not_eq_false', Int.not_lt, Int.not_le, Decidable.not_not, List.length_map, List.length_cons, List.length_nil] at hq5)
        refine WpG.skip ?_
        change WpG _ _ _ _ _
        refine WpG.reg ?_
        refine G.mv rfl ?_
        first | refine G.addI rfl rfl (by omega) ?_ | refine G.bin rfl rfl rfl ?_
        refine G.mv rfl ?_
        refine WpOpsG.nil ?_
        have h1 : i < xs.length := by omega
        have h2 : i < ys.length := by omega
        have he : xs[i] = ys[i] := by
          rw [← gDe (d := ⟨0, 0, 0, 0, 0, 0⟩) h1, ← gDe (d := ⟨0, 0, 0, 0, 0, 0⟩) h2]
          exact leq_t hq5.2
        exact ⟨i + 1, by omega, ⟨by omega, (take_step h1 h2 hT).2 he⟩, ⟨rfl, rfl, rfl, rfl, trivial⟩, trivial, rfl⟩
    · (try simp only [decide_eq_true_eq, decide_eq_false_iff_not, Bool.or_eq_true, Bool.and_eq_true, Bool.or_eq_false_iff, Bool.and_eq_false_iff, bne_iff_ne, beq_iff_eq, beq_eq_false_iff_ne, bne_eq_false_iff_eq, ne_eq, Bool.not_eq_true', Bool.not_eq_false', Int.not_lt, Int.not_le, Decidable.not_not, List.length_map, List.length_cons, List.length_nil] at hq2)
      refine WpG.exit ?_
      change WpG _ _ _ _ _
      refine WpG.seq ?_
      refine WpG.reg ?_
      refine G.mv rfl ?_
      refine WpOpsG.nil ?_
      change WpG _ _ _ _ _
      refine WpG.ret ?_
      refine ⟨_, [], rfl, (hasP_le (by repeat (first | exact trivial | refine ⟨rfl, ?_⟩))), rfl, rfl, rfl, ?_⟩
      rw [firstV_eq hT (by omega) (by omega)]
      exact ⟨rfl, rfl⟩
  · exact ⟨⟨Nat.zero_le _, Nat.zero_le _⟩, rfl⟩
theorem same_ok (xs ys : List (List Lcl)) (hx : small xs) (hy : small ys) : WpCallG A 7 [.fsl 1 (xs.map encR), .fsl 1 (ys.map encR)] [] (fun v H => v = .v (.bool true) ∧ H = []) := by
  have hx1 := hx.1
  have hy1 := hy.1
  refine WpCallG.intro g7 rfl rfl ?_
  unfold af7
  change WpG _ _ _ _ _
  refine WpG.seq ?_
  refine WpG.reg ?_
  refine G.mv rfl ?_
  refine WpOpsG.nil ?_
  change WpG _ _ _ _ _
  refine WpG.seq ?_
  refine WpG.reg ?_
  refine G.mv rfl ?_
  first | refine G.lenM rfl ?_ | refine G.lenOM rfl rfl ?_ | refine G.lenF rfl ?_ | refine G.lenO rfl rfl ?_ | refine G.lenNil rfl ?_
  refine G.mv rfl ?_
  first | refine G.lenM rfl ?_ | refine G.lenOM rfl rfl ?_ | refine G.lenF rfl ?_ | refine G.lenO rfl rfl ?_ | refine G.lenNil rfl ?_
  refine G.bin rfl rfl rfl ?_
  refine G.mv rfl ?_
  refine WpOpsG.nil ?_
  change WpG _ _ _ _ _
  refine WpG.seq ?_
  refine WpG.seq ?_
  refine WpG.reg ?_
  refine G.mv rfl ?_
  refine WpOpsG.nil ?_
  change WpG _ _ _ _ _
  refine WpG.block ?_
  rw [show ((xs.length : Int) == (ys.length : Int)) = okB xs ys 0 by rw [okB_zero, Bool.eq_iff_iff, beq_iff_eq, decide_eq_true_iff]; omega]
  refine WpG.loop (S := Nat) (fun i => [(0, .fsl 1 (xs.map encR)), (1, .fsl 1 (ys.map encR)), (4, .v (.bool false)), (5, .v (.bool (okB xs ys i))), (6, .v (.int .i64 i))]) (fun _ => []) (fun i => i ≤ xs.length ∧ i ≤ ys.length) (fun i => xs.length - i) (fun s => ⟨rfl, rfl⟩) ?_ 0 ?_ (by repeat (first | exact trivial | refine ⟨rfl, ?_⟩)) (by repeat (first | exact trivial | refine ⟨rfl, ?_⟩)) rfl
  · rintro i ⟨hI, hI2⟩
    refine WpG.seq ?_
    refine WpG.seq ?_
    refine WpG.reg ?_
    refine G.mv rfl ?_
    refine G.mv rfl ?_
    first | refine G.lenM rfl ?_ | refine G.lenOM rfl rfl ?_ | refine G.lenF rfl ?_ | refine G.lenO rfl rfl ?_ | refine G.lenNil rfl ?_
    refine G.bin rfl rfl rfl ?_
    refine G.mv rfl ?_
    apply G.andS rfl rfl rfl rfl rfl rfl
    case hB =>
      intro hs1
      (try simp only [decide_eq_true_eq, decide_eq_false_iff_not, Bool.or_eq_true, Bool.and_eq_true, Bool.or_eq_false_iff, Bool.and_eq_false_iff, bne_iff_ne, beq_iff_eq, beq_eq_false_iff_ne, bne_eq_false_iff_eq, ne_eq, Bool.not_eq_true', Bool.not_eq_false', Int.not_lt, Int.not_le, Decidable.not_not, List.length_map, List.length_cons, List.length_nil] at hs1)
      refine G.mv rfl ?_
      refine G.mv rfl ?_
      first | refine G.lenM rfl ?_ | refine G.lenOM rfl rfl ?_ | refine G.lenF rfl ?_ | refine G.lenO rfl rfl ?_ | refine G.lenNil rfl ?_
      refine G.bin rfl rfl rfl ?_
      refine WpOpsG.nil ?_
      exact ⟨rfl, (by repeat (first | exact LLe.refl _ | refine LLe.cons rfl ?_)), (by repeat (first | exact HLe.refl _ | refine HLe.cons rfl ?_)), rfl⟩
    refine WpOpsG.nil ?_
    change WpG _ _ _ _ _
    refine WpG.cond rfl (fun hq2 => ?_) (fun hq2 => ?_)
    · (try simp only [decide_eq_true_eq, decide_eq_false_iff_not, Bool.or_eq_true, Bool.and_eq_true, Bool.or_eq_false_iff, Bool.and_eq_false_iff, bne_iff_ne, beq_iff_eq, beq_eq_false_iff_ne, bne_eq_false_iff_eq, ne_eq, Bool.not_eq_true', Bool.not_eq_false', Int.not_lt, Int.not_le, Decidable.not_not, List.length_map, List.length_cons, List.length_nil] at hq2)
      refine WpG.skip ?_
      change WpG _ _ _ _ _
      refine WpG.seq ?_
      refine WpG.block ?_
      refine WpG.seq ?_
      refine WpG.seq ?_
      refine WpG.reg ?_
      refine G.mv rfl ?_
      refine G.mv rfl ?_
      first | refine G.iaddrN rfl rfl (List.getElem?_eq_getElem (by first | omega | (simp only [List.length_map, List.length_append, List.length_cons, List.length_nil, List.length_replicate, List.length_take, List.length_drop, List.length_set]; omega))) ?_ | refine G.iaddrM rfl rfl (by omega) (List.getElem?_eq_getElem (by first | omega | (simp only [List.length_map, List.length_append, List.length_cons, List.length_nil, List.length_replicate, List.length_take, List.length_drop, List.length_set]; omega))) ?_ | refine G.iaddrF rfl rfl (by omega) rfl ?_ | refine G.iaddrO rfl rfl rfl (by omega) (by first | omega | (simp only [List.length_map, List.length_append, List.length_cons, List.length_nil, List.length_replicate, List.length_take, List.length_drop, List.length_set]; omega)) ?_ | refine G.iaddrF rfl rfl (by omega) (List.getElem?_eq_getElem (by first | omega | (simp only [List.length_map, List.length_append, List.length_cons, List.length_nil, List.length_replicate, List.length_take, List.length_drop, List.length_set]; omega))) ?_
      first | refine G.load1B rfl rfl rfl ?_ | refine G.load1F rfl rfl ?_ | refine G.load1E rfl rfl (List.getElem?_eq_getElem (by first | omega | (simp only [List.length_map, List.length_append, List.length_cons, List.length_nil, List.length_replicate, List.length_take, List.length_drop, List.length_set]; omega))) rfl ?_ | refine G.load1EM rfl rfl (List.getElem?_eq_getElem (by first | omega | (simp only [List.length_map, List.length_append, List.length_cons, List.length_nil, List.length_replicate, List.length_take, List.length_drop, List.length_set]; omega))) rfl ?_
      refine G.mv rfl ?_
      refine G.mv rfl ?_
      first | refine G.iaddrN rfl rfl (List.getElem?_eq_getElem (by first | omega | (simp only [List.length_map, List.length_append, List.length_cons, List.length_nil, List.length_replicate, List.length_take, List.length_drop, List.length_set]; omega))) ?_ | refine G.iaddrM rfl rfl (by omega) (List.getElem?_eq_getElem (by first | omega | (simp only [List.length_map, List.length_append, List.length_cons, List.length_nil, List.length_replicate, List.length_take, List.length_drop, List.length_set]; omega))) ?_ | refine G.iaddrF rfl rfl (by omega) rfl ?_ | refine G.iaddrO rfl rfl rfl (by omega) (by first | omega | (simp only [List.length_map, List.length_append, List.length_cons, List.length_nil, List.length_replicate, List.length_take, List.length_drop, List.length_set]; omega)) ?_ | refine G.iaddrF rfl rfl (by omega) (List.getElem?_eq_getElem (by first | omega | (simp only [List.length_map, List.length_append, List.length_cons, List.length_nil, List.length_replicate, List.length_take, List.length_drop, List.length_set]; omega))) ?_
      first | refine G.load1B rfl rfl rfl ?_ | refine G.load1F rfl rfl ?_ | refine G.load1E rfl rfl (List.getElem?_eq_getElem (by first | omega | (simp only [List.length_map, List.length_append, List.length_cons, List.length_nil, List.length_replicate, List.length_take, List.length_drop, List.length_set]; omega))) rfl ?_ | refine G.load1EM rfl rfl (List.getElem?_eq_getElem (by first | omega | (simp only [List.length_map, List.length_append, List.length_cons, List.length_nil, List.length_replicate, List.length_take, List.length_drop, List.length_set]; omega))) rfl ?_
      refine G.mv rfl ?_
      refine G.mv rfl ?_
      first | refine G.iaddrN rfl rfl (List.getElem?_eq_getElem (by first | omega | (simp only [List.length_map, List.length_append, List.length_cons, List.length_nil, List.length_replicate, List.length_take, List.length_drop, List.length_set]; omega))) ?_ | refine G.iaddrM rfl rfl (by omega) (List.getElem?_eq_getElem (by first | omega | (simp only [List.length_map, List.length_append, List.length_cons, List.length_nil, List.length_replicate, List.length_take, List.length_drop, List.length_set]; omega))) ?_ | refine G.iaddrF rfl rfl (by omega) rfl ?_ | refine G.iaddrO rfl rfl rfl (by omega) (by first | omega | (simp only [List.length_map, List.length_append, List.length_cons, List.length_nil, List.length_replicate, List.length_take, List.length_drop, List.length_set]; omega)) ?_ | refine G.iaddrF rfl rfl (by omega) (List.getElem?_eq_getElem (by first | omega | (simp only [List.length_map, List.length_append, List.length_cons, List.length_nil, List.length_replicate, List.length_take, List.length_drop, List.length_set]; omega))) ?_
      first | refine G.load1B rfl rfl rfl ?_ | refine G.load1F rfl rfl ?_ | refine G.load1E rfl rfl (List.getElem?_eq_getElem (by first | omega | (simp only [List.length_map, List.length_append, List.length_cons, List.length_nil, List.length_replicate, List.length_take, List.length_drop, List.length_set]; omega))) rfl ?_ | refine G.load1EM rfl rfl (List.getElem?_eq_getElem (by first | omega | (simp only [List.length_map, List.length_append, List.length_cons, List.length_nil, List.length_replicate, List.length_take, List.length_drop, List.length_set]; omega))) rfl ?_
      refine G.mv rfl ?_
      refine G.mv rfl ?_
      first | refine G.iaddrN rfl rfl (List.getElem?_eq_getElem (by first | omega | (simp only [List.length_map, List.length_append, List.length_cons, List.length_nil, List.length_replicate, List.length_take, List.length_drop, List.length_set]; omega))) ?_ | refine G.iaddrM rfl rfl (by omega) (List.getElem?_eq_getElem (by first | omega | (simp only [List.length_map, List.length_append, List.length_cons, List.length_nil, List.length_replicate, List.length_take, List.length_drop, List.length_set]; omega))) ?_ | refine G.iaddrF rfl rfl (by omega) rfl ?_ | refine G.iaddrO rfl rfl rfl (by omega) (by first | omega | (simp only [List.length_map, List.length_append, List.length_cons, List.length_nil, List.length_replicate, List.length_take, List.length_drop, List.length_set]; omega)) ?_ | refine G.iaddrF rfl rfl (by omega) (List.getElem?_eq_getElem (by first | omega | (simp only [List.length_map, List.length_append, List.length_cons, List.length_nil, List.length_replicate, List.length_take, List.length_drop, List.length_set]; omega))) ?_
      first | refine G.load1B rfl rfl rfl ?_ | refine G.load1F rfl rfl ?_ | refine G.load1E rfl rfl (List.getElem?_eq_getElem (by first | omega | (simp only [List.length_map, List.length_append, List.length_cons, List.length_nil, List.length_replicate, List.length_take, List.length_drop, List.length_set]; omega))) rfl ?_ | refine G.load1EM rfl rfl (List.getElem?_eq_getElem (by first | omega | (simp only [List.length_map, List.length_append, List.length_cons, List.length_nil, List.length_replicate, List.length_take, List.length_drop, List.length_set]; omega))) rfl ?_
      refine G.ckcall0 rfl rfl rfl (prefix_ok xs[i] ys[i] (small_at hx (by omega)) (small_at hy (by omega))) ?_
      rintro _ _ ⟨rfl, rfl⟩
      refine ⟨rfl, ?_⟩
      change WpOpsG _ _ ((32, _) :: _) _ _
      refine G.call0 rfl rfl (lprefix_ok xs[i] ys[i] (small_at hx (by omega)) (small_at hy (by omega))) ?_
      rintro _ _ ⟨rfl, rfl⟩
      refine ⟨rfl, ?_⟩
      change WpOpsG _ _ ((41, _) :: _) _ _
      refine G.beq rfl rfl rfl ?_
      refine G.mv rfl ?_
      apply G.orS rfl rfl rfl rfl rfl rfl
      case hB =>
        intro hs3
        (try simp only [decide_eq_true_eq, decide_eq_false_iff_not, Bool.or_eq_true, Bool.and_eq_true, Bool.or_eq_false_iff, Bool.and_eq_false_iff, bne_iff_ne, beq_iff_eq, beq_eq_false_iff_ne, bne_eq_false_iff_eq, ne_eq, Bool.not_eq_true', Bool.not_eq_false', Int.not_lt, Int.not_le, Decidable.not_not, List.length_map, List.length_cons, List.length_nil] at hs3)
        refine G.mv rfl ?_
        refine G.mv rfl ?_
        first | refine G.iaddrN rfl rfl (List.getElem?_eq_getElem (by first | omega | (simp only [List.length_map, List.length_append, List.length_cons, List.length_nil, List.length_replicate, List.length_take, List.length_drop, List.length_set]; omega))) ?_ | refine G.iaddrM rfl rfl (by omega) (List.getElem?_eq_getElem (by first | omega | (simp only [List.length_map, List.length_append, List.length_cons, List.length_nil, List.length_replicate, List.length_take, List.length_drop, List.length_set]; omega))) ?_ | refine G.iaddrF rfl rfl (by omega) rfl ?_ | refine G.iaddrO rfl rfl rfl (by omega) (by first | omega | (simp only [List.length_map, List.length_append, List.length_cons, List.length_nil, List.length_replicate, List.length_take, List.length_drop, List.length_set]; omega)) ?_ | refine G.iaddrF rfl rfl (by omega) (List.getElem?_eq_getElem (by first | omega | (simp only [List.length_map, List.length_append, List.length_cons, List.length_nil, List.length_replicate, List.length_take, List.length_drop, List.length_set]; omega))) ?_
        first | refine G.load1B rfl rfl rfl ?_ | refine G.load1F rfl rfl ?_ | refine G.load1E rfl rfl (List.getElem?_eq_getElem (by first | omega | (simp only [List.length_map, List.length_append, List.length_cons, List.length_nil, List.length_replicate, List.length_take, List.length_drop, List.length_set]; omega))) rfl ?_ | refine G.load1EM rfl rfl (List.getElem?_eq_getElem (by first | omega | (simp only [List.length_map, List.length_append, List.length_cons, List.length_nil, List.length_replicate, List.length_take, List.length_drop, List.length_set]; omega))) rfl ?_
        refine G.mv rfl ?_
        refine G.mv rfl ?_
        first | refine G.iaddrN rfl rfl (List.getElem?_eq_getElem (by first | omega | (simp only [List.length_map, List.length_append, List.length_cons, List.length_nil, List.length_replicate, List.length_take, List.length_drop, List.length_set]; omega))) ?_ | refine G.iaddrM rfl rfl (by omega) (List.getElem?_eq_getElem (by first | omega | (simp only [List.length_map, List.length_append, List.length_cons, List.length_nil, List.length_replicate, List.length_take, List.length_drop, List.length_set]; omega))) ?_ | refine G.iaddrF rfl rfl (by omega) rfl ?_ | refine G.iaddrO rfl rfl rfl (by omega) (by first | omega | (simp only [List.length_map, List.length_append, List.length_cons, List.length_nil, List.length_replicate, List.length_take, List.length_drop, List.length_set]; omega)) ?_ | refine G.iaddrF rfl rfl (by omega) (List.getElem?_eq_getElem (by first | omega | (simp only [List.length_map, List.length_append, List.length_cons, List.length_nil, List.length_replicate, List.length_take, List.length_drop, List.length_set]; omega))) ?_
        first | refine G.load1B rfl rfl rfl ?_ | refine G.load1F rfl rfl ?_ | refine G.load1E rfl rfl (List.getElem?_eq_getElem (by first | omega | (simp only [List.length_map, List.length_append, List.length_cons, List.length_nil, List.length_replicate, List.length_take, List.length_drop, List.length_set]; omega))) rfl ?_ | refine G.load1EM rfl rfl (List.getElem?_eq_getElem (by first | omega | (simp only [List.length_map, List.length_append, List.length_cons, List.length_nil, List.length_replicate, List.length_take, List.length_drop, List.length_set]; omega))) rfl ?_
        refine G.mv rfl ?_
        refine G.mv rfl ?_
        first | refine G.iaddrN rfl rfl (List.getElem?_eq_getElem (by first | omega | (simp only [List.length_map, List.length_append, List.length_cons, List.length_nil, List.length_replicate, List.length_take, List.length_drop, List.length_set]; omega))) ?_ | refine G.iaddrM rfl rfl (by omega) (List.getElem?_eq_getElem (by first | omega | (simp only [List.length_map, List.length_append, List.length_cons, List.length_nil, List.length_replicate, List.length_take, List.length_drop, List.length_set]; omega))) ?_ | refine G.iaddrF rfl rfl (by omega) rfl ?_ | refine G.iaddrO rfl rfl rfl (by omega) (by first | omega | (simp only [List.length_map, List.length_append, List.length_cons, List.length_nil, List.length_replicate, List.length_take, List.length_drop, List.length_set]; omega)) ?_ | refine G.iaddrF rfl rfl (by omega) (List.getElem?_eq_getElem (by first | omega | (simp only [List.length_map, List.length_append, List.length_cons, List.length_nil, List.length_replicate, List.length_take, List.length_drop, List.length_set]; omega))) ?_
        first | refine G.load1B rfl rfl rfl ?_ | refine G.load1F rfl rfl ?_ | refine G.load1E rfl rfl (List.getElem?_eq_getElem (by first | omega | (simp only [List.length_map, List.length_append, List.length_cons, List.length_nil, List.length_replicate, List.length_take, List.length_drop, List.length_set]; omega))) rfl ?_ | refine G.load1EM rfl rfl (List.getElem?_eq_getElem (by first | omega | (simp only [List.length_map, List.length_append, List.length_cons, List.length_nil, List.length_replicate, List.length_take, List.length_drop, List.length_set]; omega))) rfl ?_
        refine G.mv rfl ?_
        refine G.mv rfl ?_
        first | refine G.iaddrN rfl rfl (List.getElem?_eq_getElem (by first | omega | (simp only [List.length_map, List.length_append, List.length_cons, List.length_nil, List.length_replicate, List.length_take, List.length_drop, List.length_set]; omega))) ?_ | refine G.iaddrM rfl rfl (by omega) (List.getElem?_eq_getElem (by first | omega | (simp only [List.length_map, List.length_append, List.length_cons, List.length_nil, List.length_replicate, List.length_take, List.length_drop, List.length_set]; omega))) ?_ | refine G.iaddrF rfl rfl (by omega) rfl ?_ | refine G.iaddrO rfl rfl rfl (by omega) (by first | omega | (simp only [List.length_map, List.length_append, List.length_cons, List.length_nil, List.length_replicate, List.length_take, List.length_drop, List.length_set]; omega)) ?_ | refine G.iaddrF rfl rfl (by omega) (List.getElem?_eq_getElem (by first | omega | (simp only [List.length_map, List.length_append, List.length_cons, List.length_nil, List.length_replicate, List.length_take, List.length_drop, List.length_set]; omega))) ?_
        first | refine G.load1B rfl rfl rfl ?_ | refine G.load1F rfl rfl ?_ | refine G.load1E rfl rfl (List.getElem?_eq_getElem (by first | omega | (simp only [List.length_map, List.length_append, List.length_cons, List.length_nil, List.length_replicate, List.length_take, List.length_drop, List.length_set]; omega))) rfl ?_ | refine G.load1EM rfl rfl (List.getElem?_eq_getElem (by first | omega | (simp only [List.length_map, List.length_append, List.length_cons, List.length_nil, List.length_replicate, List.length_take, List.length_drop, List.length_set]; omega))) rfl ?_
        refine G.ckcall0 rfl rfl rfl (first_ok xs[i] ys[i] (small_at hx (by omega)) (small_at hy (by omega))) ?_
        rintro _ _ ⟨rfl, rfl⟩
        refine ⟨rfl, ?_⟩
        change WpOpsG _ _ ((52, _) :: _) _ _
        refine G.call0 rfl rfl (lfirst_ok xs[i] ys[i] (small_at hx (by omega)) (small_at hy (by omega))) ?_
        rintro _ _ ⟨rfl, rfl⟩
        refine ⟨rfl, ?_⟩
        change WpOpsG _ _ ((61, _) :: _) _ _
        refine G.bin rfl rfl rfl ?_
        refine WpOpsG.nil ?_
        exact ⟨rfl, (by repeat (first | exact LLe.refl _ | refine LLe.cons rfl ?_)), (by repeat (first | exact HLe.refl _ | refine HLe.cons rfl ?_)), rfl⟩
      refine WpOpsG.nil ?_
      change WpG _ _ _ _ _
      refine WpG.cond rfl (fun hq4 => ?_) (fun hq4 => ?_)
      · (try simp only [decide_eq_true_eq, decide_eq_false_iff_not, Bool.or_eq_true, Bool.and_eq_true, Bool.or_eq_false_iff, Bool.and_eq_false_iff, bne_iff_ne, beq_iff_eq, beq_eq_false_iff_ne, bne_eq_false_iff_eq, ne_eq, Bool.not_eq_true', Bool.not_eq_false', Int.not_lt, Int.not_le, Decidable.not_not, List.length_map, List.length_cons, List.length_nil] at hq4)
        exfalso; simp at hq4
      · (try simp only [decide_eq_true_eq, decide_eq_false_iff_not, Bool.or_eq_true, Bool.and_eq_true, Bool.or_eq_false_iff, Bool.and_eq_false_iff, bne_iff_ne, beq_iff_eq, beq_eq_false_iff_ne, bne_eq_false_iff_eq, ne_eq, Bool.not_eq_true', Bool.not_eq_false', Int.not_lt, Int.not_le, Decidable.not_not, List.length_map, List.length_cons, List.length_nil] at hq4)
        refine WpG.skip ?_
        change WpG _ _ _ _ _
        refine WpG.reg ?_
        refine G.mv rfl ?_
        refine G.mv rfl ?_
        apply G.andS rfl rfl rfl rfl rfl rfl
        case hB =>
          intro hs5
          (try simp only [decide_eq_true_eq, decide_eq_false_iff_not, Bool.or_eq_true, Bool.and_eq_true, Bool.or_eq_false_iff, Bool.and_eq_false_iff, bne_iff_ne, beq_iff_eq, beq_eq_false_iff_ne, bne_eq_false_iff_eq, ne_eq, Bool.not_eq_true', Bool.not_eq_false', Int.not_lt, Int.not_le, Decidable.not_not, List.length_map, List.length_cons, List.length_nil] at hs5)
          refine G.mv rfl ?_
          refine G.mv rfl ?_
          first | refine G.iaddrN rfl rfl (List.getElem?_eq_getElem (by first | omega | (simp only [List.length_map, List.length_append, List.length_cons, List.length_nil, List.length_replicate, List.length_take, List.length_drop, List.length_set]; omega))) ?_ | refine G.iaddrM rfl rfl (by omega) (List.getElem?_eq_getElem (by first | omega | (simp only [List.length_map, List.length_append, List.length_cons, List.length_nil, List.length_replicate, List.length_take, List.length_drop, List.length_set]; omega))) ?_ | refine G.iaddrF rfl rfl (by omega) rfl ?_ | refine G.iaddrO rfl rfl rfl (by omega) (by first | omega | (simp only [List.length_map, List.length_append, List.length_cons, List.length_nil, List.length_replicate, List.length_take, List.length_drop, List.length_set]; omega)) ?_ | refine G.iaddrF rfl rfl (by omega) (List.getElem?_eq_getElem (by first | omega | (simp only [List.length_map, List.length_append, List.length_cons, List.length_nil, List.length_replicate, List.length_take, List.length_drop, List.length_set]; omega))) ?_
          first | refine G.load1B rfl rfl rfl ?_ | refine G.load1F rfl rfl ?_ | refine G.load1E rfl rfl (List.getElem?_eq_getElem (by first | omega | (simp only [List.length_map, List.length_append, List.length_cons, List.length_nil, List.length_replicate, List.length_take, List.length_drop, List.length_set]; omega))) rfl ?_ | refine G.load1EM rfl rfl (List.getElem?_eq_getElem (by first | omega | (simp only [List.length_map, List.length_append, List.length_cons, List.length_nil, List.length_replicate, List.length_take, List.length_drop, List.length_set]; omega))) rfl ?_
          refine G.mv rfl ?_
          refine G.mv rfl ?_
          first | refine G.iaddrN rfl rfl (List.getElem?_eq_getElem (by first | omega | (simp only [List.length_map, List.length_append, List.length_cons, List.length_nil, List.length_replicate, List.length_take, List.length_drop, List.length_set]; omega))) ?_ | refine G.iaddrM rfl rfl (by omega) (List.getElem?_eq_getElem (by first | omega | (simp only [List.length_map, List.length_append, List.length_cons, List.length_nil, List.length_replicate, List.length_take, List.length_drop, List.length_set]; omega))) ?_ | refine G.iaddrF rfl rfl (by omega) rfl ?_ | refine G.iaddrO rfl rfl rfl (by omega) (by first | omega | (simp only [List.length_map, List.length_append, List.length_cons, List.length_nil, List.length_replicate, List.length_take, List.length_drop, List.length_set]; omega)) ?_ | refine G.iaddrF rfl rfl (by omega) (List.getElem?_eq_getElem (by first | omega | (simp only [List.length_map, List.length_append, List.length_cons, List.length_nil, List.length_replicate, List.length_take, List.length_drop, List.length_set]; omega))) ?_
          first | refine G.load1B rfl rfl rfl ?_ | refine G.load1F rfl rfl ?_ | refine G.load1E rfl rfl (List.getElem?_eq_getElem (by first | omega | (simp only [List.length_map, List.length_append, List.length_cons, List.length_nil, List.length_replicate, List.length_take, List.length_drop, List.length_set]; omega))) rfl ?_ | refine G.load1EM rfl rfl (List.getElem?_eq_getElem (by first | omega | (simp only [List.length_map, List.length_append, List.length_cons, List.length_nil, List.length_replicate, List.length_take, List.length_drop, List.length_set]; omega))) rfl ?_
          refine G.call0 rfl rfl (lprefix_ok xs[i] ys[i] (small_at hx (by omega)) (small_at hy (by omega))) ?_
          rintro _ _ ⟨rfl, rfl⟩
          refine ⟨rfl, ?_⟩
          change WpOpsG _ _ ((74, _) :: _) _ _
          refine G.mv rfl ?_
          apply G.orS rfl rfl rfl rfl rfl rfl
          case hB =>
            intro hs6
            (try simp only [decide_eq_true_eq, decide_eq_false_iff_not, Bool.or_eq_true, Bool.and_eq_true, Bool.or_eq_false_iff, Bool.and_eq_false_iff, bne_iff_ne, beq_iff_eq, beq_eq_false_iff_ne, bne_eq_false_iff_eq, ne_eq, Bool.not_eq_true', Bool.not_eq_false', Int.not_lt, Int.not_le, Decidable.not_not, List.length_map, List.length_cons, List.length_nil] at hs6)
            refine G.mv rfl ?_
            refine G.mv rfl ?_
            first | refine G.iaddrN rfl rfl (List.getElem?_eq_getElem (by first | omega | (simp only [List.length_map, List.length_append, List.length_cons, List.length_nil, List.length_replicate, List.length_take, List.length_drop, List.length_set]; omega))) ?_ | refine G.iaddrM rfl rfl (by omega) (List.getElem?_eq_getElem (by first | omega | (simp only [List.length_map, List.length_append, List.length_cons, List.length_nil, List.length_replicate, List.length_take, List.length_drop, List.length_set]; omega))) ?_ | refine G.iaddrF rfl rfl (by omega) rfl ?_ | refine G.iaddrO rfl rfl rfl (by omega) (by first | omega | (simp only [List.length_map, List.length_append, List.length_cons, List.length_nil, List.length_replicate, List.length_take, List.length_drop, List.length_set]; omega)) ?_ | refine G.iaddrF rfl rfl (by omega) (List.getElem?_eq_getElem (by first | omega | (simp only [List.length_map, List.length_append, List.length_cons, List.length_nil, List.length_replicate, List.length_take, List.length_drop, List.length_set]; omega))) ?_
            first | refine G.load1B rfl rfl rfl ?_ | refine G.load1F rfl rfl ?_ | refine G.load1E rfl rfl (List.getElem?_eq_getElem (by first | omega | (simp only [List.length_map, List.length_append, List.length_cons, List.length_nil, List.length_replicate, List.length_take, List.length_drop, List.length_set]; omega))) rfl ?_ | refine G.load1EM rfl rfl (List.getElem?_eq_getElem (by first | omega | (simp only [List.length_map, List.length_append, List.length_cons, List.length_nil, List.length_replicate, List.length_take, List.length_drop, List.length_set]; omega))) rfl ?_
            refine G.mv rfl ?_
            refine G.mv rfl ?_
            first | refine G.iaddrN rfl rfl (List.getElem?_eq_getElem (by first | omega | (simp only [List.length_map, List.length_append, List.length_cons, List.length_nil, List.length_replicate, List.length_take, List.length_drop, List.length_set]; omega))) ?_ | refine G.iaddrM rfl rfl (by omega) (List.getElem?_eq_getElem (by first | omega | (simp only [List.length_map, List.length_append, List.length_cons, List.length_nil, List.length_replicate, List.length_take, List.length_drop, List.length_set]; omega))) ?_ | refine G.iaddrF rfl rfl (by omega) rfl ?_ | refine G.iaddrO rfl rfl rfl (by omega) (by first | omega | (simp only [List.length_map, List.length_append, List.length_cons, List.length_nil, List.length_replicate, List.length_take, List.length_drop, List.length_set]; omega)) ?_ | refine G.iaddrF rfl rfl (by omega) (List.getElem?_eq_getElem (by first | omega | (simp only [List.length_map, List.length_append, List.length_cons, List.length_nil, List.length_replicate, List.length_take, List.length_drop, List.length_set]; omega))) ?_
            first | refine G.load1B rfl rfl rfl ?_ | refine G.load1F rfl rfl ?_ | refine G.load1E rfl rfl (List.getElem?_eq_getElem (by first | omega | (simp only [List.length_map, List.length_append, List.length_cons, List.length_nil, List.length_replicate, List.length_take, List.length_drop, List.length_set]; omega))) rfl ?_ | refine G.load1EM rfl rfl (List.getElem?_eq_getElem (by first | omega | (simp only [List.length_map, List.length_append, List.length_cons, List.length_nil, List.length_replicate, List.length_take, List.length_drop, List.length_set]; omega))) rfl ?_
            refine G.call0 rfl rfl (lprefix_ok ys[i] xs[i] (small_at hy (by omega)) (small_at hx (by omega))) ?_
            rintro _ _ ⟨rfl, rfl⟩
            refine ⟨rfl, ?_⟩
            change WpOpsG _ _ ((84, _) :: _) _ _
            refine WpOpsG.nil ?_
            exact ⟨rfl, (by repeat (first | exact LLe.refl _ | refine LLe.cons rfl ?_)), (by repeat (first | exact HLe.refl _ | refine HLe.cons rfl ?_)), rfl⟩
          refine WpOpsG.nil ?_
          exact ⟨rfl, (by repeat (first | exact LLe.refl _ | refine LLe.cons rfl ?_)), (by repeat (first | exact HLe.refl _ | refine HLe.cons rfl ?_)), rfl⟩
        refine G.mv rfl ?_
        refine WpOpsG.nil ?_
        change WpG _ _ _ _ _
        refine WpG.reg ?_
        refine G.mv rfl ?_
        first | refine G.addI rfl rfl (by omega) ?_ | refine G.bin rfl rfl rfl ?_
        refine G.mv rfl ?_
        refine WpOpsG.nil ?_
        refine ⟨i + 1, by omega, by omega, ⟨rfl, rfl, rfl, ?_, rfl, trivial⟩, trivial, rfl⟩
        rw [okB_step xs ys i (by omega) (by omega)]
        rfl
    · (try simp only [decide_eq_true_eq, decide_eq_false_iff_not, Bool.or_eq_true, Bool.and_eq_true, Bool.or_eq_false_iff, Bool.and_eq_false_iff, bne_iff_ne, beq_iff_eq, beq_eq_false_iff_ne, bne_eq_false_iff_eq, ne_eq, Bool.not_eq_true', Bool.not_eq_false', Int.not_lt, Int.not_le, Decidable.not_not, List.length_map, List.length_cons, List.length_nil] at hq2)
      refine WpG.exit ?_
      change WpG _ _ _ _ _
      refine WpG.seq ?_
      refine WpG.reg ?_
      refine G.mv rfl ?_
      refine G.mv rfl ?_
      refine G.call0 rfl rfl (comparable_ok xs ys hx hy) ?_
      rintro _ _ ⟨rfl, rfl⟩
      refine ⟨rfl, ?_⟩
      change WpOpsG _ _ ((89, _) :: _) _ _
      refine G.mv rfl ?_
      refine G.beq rfl rfl rfl ?_
      refine G.mv rfl ?_
      refine WpOpsG.nil ?_
      change WpG _ _ _ _ _
      refine WpG.ret ?_
      refine ⟨_, [], rfl, (hasP_le (by repeat (first | exact trivial | refine ⟨rfl, ?_⟩))), rfl, rfl, rfl, ?_⟩
      refine ⟨?_, rfl⟩
      rw [okB_end xs ys i (by omega)]
      show GV.v (.bool _) = GV.v (.bool _)
      congr 2
      simp
  · exact ⟨Nat.zero_le _, Nat.zero_le _⟩
theorem lticks_ok (l : List Rn) (n : Int) (hn : l.length ≤ 2 ^ 40) (hl : ∀ r ∈ l, okN r) (h64 : i64 n) : WpCallG A 8 [.fsl 2 (l.map encN), .v (.int .i64 n)] [] (fun v H => v = .v (.bool true) ∧ H = []) := by
  unfold i64 at h64
  refine WpCallG.intro g8 rfl rfl ?_
  unfold af8
  change WpG _ _ _ _ _
  refine WpG.seq ?_
  refine WpG.reg ?_
  refine G.mv rfl ?_
  refine WpOpsG.nil ?_
  change WpG _ _ _ _ _
  refine WpG.seq ?_
  refine WpG.reg ?_
  refine G.mv rfl ?_
  refine WpOpsG.nil ?_
  change WpG _ _ _ _ _
  refine WpG.seq ?_
  refine WpG.seq ?_
  refine WpG.reg ?_
  refine G.mv rfl ?_
  refine G.call0 rfl rfl (refRuns_ok l hn) ?_
  rintro _ _ ⟨rfl, rfl⟩
  refine ⟨rfl, ?_⟩
  change WpOpsG _ _ ((9, _) :: _) _ _
  refine WpOpsG.nil ?_
  change WpG _ _ _ _ _
  refine WpG.cond rfl (fun hq1 => ?_) (fun hq1 => ?_)
  · (try simp only [decide_eq_true_eq, decide_eq_false_iff_not, Bool.or_eq_true, Bool.and_eq_true, Bool.or_eq_false_iff, Bool.and_eq_false_iff, bne_iff_ne, beq_iff_eq, beq_eq_false_iff_ne, bne_eq_false_iff_eq, ne_eq, Bool.not_eq_true', Bool.not_eq_false', Int.not_lt, Int.not_le, Decidable.not_not, List.length_map, List.length_cons, List.length_nil] at hq1)
    have hok := right_ok2 hq1
    have htt : total l = tot l := total_tot (okR_nn hok.1) (by omega)
    refine WpG.seq ?_
    refine WpG.reg ?_
    refine G.mv rfl ?_
    refine G.call0 rfl rfl (total_ok l (by omega) hl) ?_
    rintro _ _ ⟨rfl, rfl⟩
    refine ⟨rfl, ?_⟩
    change WpOpsG _ _ ((11, _) :: _) _ _
    rw [htt]
    refine G.mv rfl ?_
    refine WpOpsG.nil ?_
    change WpG _ _ _ _ _
    refine WpG.seq ?_
    refine WpG.reg ?_
    refine G.mv rfl ?_
    refine WpOpsG.nil ?_
    change WpG _ _ _ _ _
    refine WpG.block ?_
    refine WpG.ownNil (g := 30) (k := 5) (w := 1) rfl rfl ?_
    refine WpG.loop (S := Nat) (fun i => [(0, .fsl 2 (l.map encN)), (1, .v (.int .i64 n)), (5, .osl 30), (6, .v (.int .i64 (tot l))), (7, .v (.int .i64 i))]) (fun i => [(30, .arr true 1 (((List.range i).map (fun (t : Nat) => atR l ((t : Int) % tot l))).map encK))]) (fun i => i ≤ tN n) (fun i => tN n - i) (fun s => ⟨rfl, rfl⟩) ?_ 0 ?_ (by repeat (first | exact trivial | refine ⟨rfl, ?_⟩)) (by repeat (first | exact trivial | refine ⟨rfl, ?_⟩)) rfl
    · intro i hI
      have hN : (tN n : Int) = max 0 (min n 16384) := by unfold tN; omega
      refine WpG.seq ?_
      refine WpG.seq ?_
      refine WpG.reg ?_
      refine G.mv rfl ?_
      refine G.mv rfl ?_
      refine G.bin rfl rfl rfl ?_
      refine G.mv rfl ?_
      apply G.andS rfl rfl rfl rfl rfl rfl
      case hB =>
        intro hs2
        (try simp only [decide_eq_true_eq, decide_eq_false_iff_not, Bool.or_eq_true, Bool.and_eq_true, Bool.or_eq_false_iff, Bool.and_eq_false_iff, bne_iff_ne, beq_iff_eq, beq_eq_false_iff_ne, bne_eq_false_iff_eq, ne_eq, Bool.not_eq_true', Bool.not_eq_false', Int.not_lt, Int.not_le, Decidable.not_not, List.length_map, List.length_cons, List.length_nil] at hs2)
        refine G.mv rfl ?_
        refine G.bin rfl rfl rfl ?_
        refine WpOpsG.nil ?_
        exact ⟨rfl, (by repeat (first | exact LLe.refl _ | refine LLe.cons rfl ?_)), (by repeat (first | exact HLe.refl _ | refine HLe.cons rfl ?_)), rfl⟩
      refine WpOpsG.nil ?_
      change WpG _ _ _ _ _
      refine WpG.cond rfl (fun hq3 => ?_) (fun hq3 => ?_)
      · (try simp only [decide_eq_true_eq, decide_eq_false_iff_not, Bool.or_eq_true, Bool.and_eq_true, Bool.or_eq_false_iff, Bool.and_eq_false_iff, bne_iff_ne, beq_iff_eq, beq_eq_false_iff_ne, bne_eq_false_iff_eq, ne_eq, Bool.not_eq_true', Bool.not_eq_false', Int.not_lt, Int.not_le, Decidable.not_not, List.length_map, List.length_cons, List.length_nil] at hq3)
        refine WpG.skip ?_
        change WpG _ _ _ _ _
        refine WpG.seq ?_
        refine WpG.block ?_
        have hm1 := Int.emod_nonneg (i : Int) (show tot l ≠ 0 by omega)
        have hm2 := Int.emod_lt_of_pos (i : Int) (show 0 < tot l by omega)
        refine WpG.reg ?_
        refine G.mv rfl ?_
        refine G.mv rfl ?_
        refine G.mv rfl ?_
        refine G.mv rfl ?_
        first | refine G.remN rfl rfl (by omega) (by omega) ?_ | refine G.remP rfl rfl (by omega) ?_
        refine G.call0 rfl rfl (refAt_ok l ((i : Int) % tot l) (by omega) hl (by unfold i64; omega)) ?_
        rintro _ _ ⟨rfl, rfl⟩
        refine ⟨rfl, ?_⟩
        change WpOpsG _ _ ((26, _) :: _) _ _
        rw [refAt_at l _ hm1 (fun r hr => (okR_n (hok.1 r hr)).1)]
        refine G.bsliceF rfl rfl rfl ?_
        refine G.app rfl rfl rfl rfl (.inl rfl) (by rw [List.length_map, List.length_map, List.length_range]; show (i + 1) * 8 ≤ 2 ^ 47; omega) ?_
        refine G.mv rfl ?_
        refine WpOpsG.nil ?_
        change WpG _ _ _ _ _
        refine WpG.reg ?_
        refine G.mv rfl ?_
        first | refine G.addI rfl rfl (by omega) ?_ | refine G.bin rfl rfl rfl ?_
        refine G.mv rfl ?_
        refine WpOpsG.nil ?_
        refine ⟨i + 1, by omega, by omega, ⟨rfl, rfl, rfl, rfl, rfl, trivial⟩, ⟨?_, trivial⟩, rfl⟩
        rw [List.range_succ, List.map_append, List.map_append]
        rfl
      · (try simp only [decide_eq_true_eq, decide_eq_false_iff_not, Bool.or_eq_true, Bool.and_eq_true, Bool.or_eq_false_iff, Bool.and_eq_false_iff, bne_iff_ne, beq_iff_eq, beq_eq_false_iff_ne, bne_eq_false_iff_eq, ne_eq, Bool.not_eq_true', Bool.not_eq_false', Int.not_lt, Int.not_le, Decidable.not_not, List.length_map, List.length_cons, List.length_nil] at hq3)
        refine WpG.exit ?_
        change WpG _ _ _ _ _
        refine WpG.seq ?_
        first | refine WpG.freeze 30 rfl ?_ | skip
        refine WpG.reg ?_
        refine G.mv rfl ?_
        refine G.mv rfl ?_
        refine G.call0 rfl rfl (ticks_ok l n hn h64) ?_
        rintro _ _ ⟨rfl, rfl⟩
        refine ⟨rfl, ?_⟩
        change WpOpsG _ _ ((31, _) :: _) _ _
        refine G.mv rfl ?_
        have hlen := ticksV_len l n
        refine G.call0 rfl rfl (by
          first
          | (have hi : i = tN n := by omega
             have e : ticksV l n = (List.range i).map (fun (t : Nat) => atR l ((t : Int) % tot l)) := by unfold ticksV; rw [if_pos hq1, hi]
             have hc := sameI_ok (ticksV l n) (ticksV l n) (by omega) (by omega)
             exact Eq.mp (by rw [← e]; rfl) hc)
          | (have e : ticksV l n = [] := by unfold ticksV; rw [if_neg (by simp [hq1])]
             have hc := nil2 (w := 1) (sameI_ok (ticksV l n) [] (by omega) (by decide))
             rw [e] at hc ⊢
             exact hc)) ?_
        rintro _ _ ⟨rfl, rfl⟩
        refine ⟨rfl, ?_⟩
        change WpOpsG _ _ ((33, _) :: _) _ _
        refine G.mv rfl ?_
        refine WpOpsG.nil ?_
        change WpG _ _ _ _ _
        refine WpG.ret ?_
        refine ⟨_, [], rfl, (hasP_le (by repeat (first | exact trivial | refine ⟨rfl, ?_⟩))), rfl, rfl, rfl, ?_⟩
        refine ⟨?_, rfl⟩
        show GV.v (.bool _) = GV.v (.bool true)
        simp
    · exact Nat.zero_le _
  · (try simp only [decide_eq_true_eq, decide_eq_false_iff_not, Bool.or_eq_true, Bool.and_eq_true, Bool.or_eq_false_iff, Bool.and_eq_false_iff, bne_iff_ne, beq_iff_eq, beq_eq_false_iff_ne, bne_eq_false_iff_eq, ne_eq, Bool.not_eq_true', Bool.not_eq_false', Int.not_lt, Int.not_le, Decidable.not_not, List.length_map, List.length_cons, List.length_nil] at hq1)
    refine WpG.skip ?_
    change WpG _ _ _ _ _
    refine WpG.seq ?_
    first | refine WpG.freeze 30 rfl ?_ | skip
    refine WpG.reg ?_
    refine G.mv rfl ?_
    refine G.mv rfl ?_
    refine G.call0 rfl rfl (ticks_ok l n hn h64) ?_
    rintro _ _ ⟨rfl, rfl⟩
    refine ⟨rfl, ?_⟩
    change WpOpsG _ _ ((31, _) :: _) _ _
    refine G.mv rfl ?_
    have hlen := ticksV_len l n
    refine G.call0 rfl rfl (by
      first
      | (have hi : i = tN n := by omega
         have e : ticksV l n = (List.range i).map (fun (t : Nat) => atR l ((t : Int) % tot l)) := by unfold ticksV; rw [if_pos hq1, hi]
         have hc := sameI_ok (ticksV l n) (ticksV l n) (by omega) (by omega)
         exact Eq.mp (by rw [← e]; rfl) hc)
      | (have e : ticksV l n = [] := by unfold ticksV; rw [if_neg (by simp [hq1])]
         have hc := nil2 (w := 1) (sameI_ok (ticksV l n) [] (by omega) (by decide))
         rw [e] at hc ⊢
         exact hc)) ?_
    rintro _ _ ⟨rfl, rfl⟩
    refine ⟨rfl, ?_⟩
    change WpOpsG _ _ ((33, _) :: _) _ _
    refine G.mv rfl ?_
    refine WpOpsG.nil ?_
    change WpG _ _ _ _ _
    refine WpG.ret ?_
    refine ⟨_, [], rfl, (hasP_le (by repeat (first | exact trivial | refine ⟨rfl, ?_⟩))), rfl, rfl, rfl, ?_⟩
    refine ⟨?_, rfl⟩
    show GV.v (.bool _) = GV.v (.bool true)
    simp
theorem known_ok  : WpCallG A 9 [] [] (fun v H => v = .v (.bool true) ∧ H = []) := by
  refine WpCallG.intro g9 rfl rfl ?_
  unfold af9
  change WpG _ _ _ _ _
  refine WpG.seq ?_
  refine WpG.reg ?_
  refine G.mv rfl ?_
  refine WpOpsG.nil ?_
  change WpG _ _ _ _ _
  refine WpG.seq ?_
  refine WpG.reg ?_
  refine G.build rfl ?_
  refine G.build rfl ?_
  refine G.box (g := 10) rfl rfl rfl ?_
  refine G.box (g := 11) rfl rfl rfl ?_
  first | refine G.storeB rfl rfl rfl rfl rfl rfl ?_ | refine G.storeEM rfl rfl rfl (List.getElem?_eq_getElem (by first | omega | (simp only [List.length_map, List.length_append, List.length_cons, List.length_nil, List.length_replicate, List.length_take, List.length_drop, List.length_set]; omega))) rfl rfl rfl rfl rfl ?_
  first | refine G.storeB rfl rfl rfl rfl rfl rfl ?_ | refine G.storeEM rfl rfl rfl (List.getElem?_eq_getElem (by first | omega | (simp only [List.length_map, List.length_append, List.length_cons, List.length_nil, List.length_replicate, List.length_take, List.length_drop, List.length_set]; omega))) rfl rfl rfl rfl rfl ?_
  refine WpOpsG.nil ?_
  change WpG _ _ _ _ _
  refine WpG.seq ?_
  refine WpG.reg ?_
  first | refine G.loadNB rfl rfl rfl ?_ | refine G.loadNF rfl rfl ?_ | refine G.loadNEM rfl rfl (List.getElem?_eq_getElem (by first | omega | (simp only [List.length_map, List.length_append, List.length_cons, List.length_nil, List.length_replicate, List.length_take, List.length_drop, List.length_set]; omega))) rfl ?_
  first | refine G.loadNB rfl rfl rfl ?_ | refine G.loadNF rfl rfl ?_ | refine G.loadNEM rfl rfl (List.getElem?_eq_getElem (by first | omega | (simp only [List.length_map, List.length_append, List.length_cons, List.length_nil, List.length_replicate, List.length_take, List.length_drop, List.length_set]; omega))) rfl ?_
  refine G.bsliceF rfl rfl rfl ?_
  refine G.mv rfl ?_
  refine WpOpsG.nil ?_
  change WpG _ _ _ _ _
  refine WpG.seq ?_
  refine WpG.reg ?_
  refine G.mv rfl ?_
  refine G.call0 rfl rfl (nil1 (prefix_ok [] [⟨1, 0, 0, 0, 0, 0⟩, ⟨2, 0, 0, 0, 0, 0⟩] (by decide) (by decide))) ?_
  rintro _ _ ⟨rfl, rfl⟩
  refine ⟨rfl, ?_⟩
  change WpOpsG _ _ ((10, .v (.bool true)) :: _) _ _
  refine G.mv rfl ?_
  refine G.yes rfl ?_
  refine G.mv rfl ?_
  refine G.yes rfl ?_
  refine G.call0 rfl rfl (nil2 (prefix_ok [⟨1, 0, 0, 0, 0, 0⟩, ⟨2, 0, 0, 0, 0, 0⟩] [] (by decide) (by decide))) ?_
  rintro _ _ ⟨rfl, rfl⟩
  refine ⟨rfl, ?_⟩
  change WpOpsG _ _ ((13, .v (.bool false)) :: _) _ _
  refine G.yes rfl ?_
  refine G.un rfl rfl ?_
  first | refine G.pickT rfl rfl ?_ | refine G.pickF rfl rfl ?_ | refine G.pick rfl rfl rfl ?_
  refine G.mv rfl ?_
  refine G.yes rfl ?_
  refine G.mv rfl ?_
  refine G.yes rfl ?_
  refine G.mv rfl ?_
  refine G.yes rfl ?_
  refine G.call0 rfl rfl (first_ok [⟨1, 0, 0, 0, 0, 0⟩, ⟨2, 0, 0, 0, 0, 0⟩] [⟨1, 0, 0, 0, 0, 0⟩, ⟨2, 0, 0, 0, 0, 0⟩] (by decide) (by decide)) ?_
  rintro _ _ ⟨rfl, rfl⟩
  refine ⟨rfl, ?_⟩
  change WpOpsG _ _ ((19, .v (.int .i64 (-1))) :: _) _ _
  refine G.yes rfl ?_
  refine G.bin rfl rfl rfl ?_
  first | refine G.pickT rfl rfl ?_ | refine G.pickF rfl rfl ?_ | refine G.pick rfl rfl rfl ?_
  refine G.mv rfl ?_
  refine G.yes rfl ?_
  refine G.mv rfl ?_
  refine G.yes rfl ?_
  refine G.mv rfl ?_
  refine G.yes rfl ?_
  refine G.slF (hi := 1) (lo := 0) rfl rfl rfl ?_
  refine G.yes rfl ?_
  refine G.call0 rfl rfl (first_ok [⟨1, 0, 0, 0, 0, 0⟩, ⟨2, 0, 0, 0, 0, 0⟩] [⟨1, 0, 0, 0, 0, 0⟩] (by decide) (by decide)) ?_
  rintro _ _ ⟨rfl, rfl⟩
  refine ⟨rfl, ?_⟩
  change WpOpsG _ _ ((26, .v (.int .i64 1)) :: _) _ _
  refine G.yes rfl ?_
  refine G.bin rfl rfl rfl ?_
  first | refine G.pickT rfl rfl ?_ | refine G.pickF rfl rfl ?_ | refine G.pick rfl rfl rfl ?_
  refine G.mv rfl ?_
  refine G.yes rfl ?_
  refine G.mv rfl ?_
  refine G.yes rfl ?_
  first | refine G.loadNB rfl rfl rfl ?_ | refine G.loadNF rfl rfl ?_ | refine G.loadNEM rfl rfl (List.getElem?_eq_getElem (by first | omega | (simp only [List.length_map, List.length_append, List.length_cons, List.length_nil, List.length_replicate, List.length_take, List.length_drop, List.length_set]; omega))) rfl ?_
  refine G.yes rfl ?_
  refine G.bsliceF rfl rfl rfl ?_
  refine G.yes rfl ?_
  refine G.call0 rfl rfl (first_ok [⟨1, 0, 0, 0, 0, 0⟩, ⟨2, 0, 0, 0, 0, 0⟩] [⟨2, 0, 0, 0, 0, 0⟩] (by decide) (by decide)) ?_
  rintro _ _ ⟨rfl, rfl⟩
  refine ⟨rfl, ?_⟩
  change WpOpsG _ _ ((33, .v (.int .i64 0)) :: _) _ _
  refine G.yes rfl ?_
  refine G.bin rfl rfl rfl ?_
  first | refine G.pickT rfl rfl ?_ | refine G.pickF rfl rfl ?_ | refine G.pick rfl rfl rfl ?_
  refine G.mv rfl ?_
  refine G.yes rfl ?_
  refine G.mv rfl ?_
  refine G.yes rfl ?_
  refine G.mv rfl ?_
  refine G.yes rfl ?_
  refine G.slF (hi := 1) (lo := 0) rfl rfl rfl ?_
  refine G.yes rfl ?_
  refine G.bsliceF rfl rfl rfl ?_
  refine G.yes rfl ?_
  refine G.mv rfl ?_
  refine G.yes rfl ?_
  refine G.slF (hi := 1) (lo := 0) rfl rfl rfl ?_
  refine G.yes rfl ?_
  refine G.mv rfl ?_
  refine G.yes rfl ?_
  refine G.bsliceF rfl rfl rfl ?_
  refine G.yes rfl ?_
  refine G.call0 rfl rfl (comparable_ok [[⟨1, 0, 0, 0, 0, 0⟩, ⟨2, 0, 0, 0, 0, 0⟩], [⟨1, 0, 0, 0, 0, 0⟩]] [[⟨1, 0, 0, 0, 0, 0⟩], [⟨1, 0, 0, 0, 0, 0⟩, ⟨2, 0, 0, 0, 0, 0⟩]] (small1 _ (by decide) (by decide)) (small1 _ (by decide) (by decide))) ?_
  rintro _ _ ⟨rfl, rfl⟩
  refine ⟨rfl, ?_⟩
  change WpOpsG _ _ ((45, _) :: _) _ _
  rw [cmpR_yes]
  first | refine G.pickT rfl rfl ?_ | refine G.pickF rfl rfl ?_ | refine G.pick rfl rfl rfl ?_
  refine G.mv rfl ?_
  refine G.yes rfl ?_
  refine G.mv rfl ?_
  refine G.yes rfl ?_
  refine G.bsliceF rfl rfl rfl ?_
  refine G.yes rfl ?_
  refine G.call0 rfl rfl (nil2 (comparable_ok [[⟨1, 0, 0, 0, 0, 0⟩, ⟨2, 0, 0, 0, 0, 0⟩]] [] (small1 _ (by decide) (by decide)) (small1 _ (by decide) (by decide)))) ?_
  rintro _ _ ⟨rfl, rfl⟩
  refine ⟨rfl, ?_⟩
  change WpOpsG _ _ ((50, _) :: _) _ _
  rw [cmpR_no]
  refine G.yes rfl ?_
  refine G.un rfl rfl ?_
  first | refine G.pickT rfl rfl ?_ | refine G.pickF rfl rfl ?_ | refine G.pick rfl rfl rfl ?_
  refine G.mv rfl ?_
  refine G.yes rfl ?_
  refine G.call0 rfl rfl (nil1 (ticks_ok [] 5 (by decide) (by decide))) ?_
  rintro _ _ ⟨rfl, rfl⟩
  refine ⟨rfl, ?_⟩
  change WpOpsG _ _ ((54, .fsl 1 []) :: _) _ _
  refine G.yes rfl ?_
  first | refine G.lenM rfl ?_ | refine G.lenOM rfl rfl ?_ | refine G.lenF rfl ?_ | refine G.lenO rfl rfl ?_ | refine G.lenNil rfl ?_
  refine G.yes rfl ?_
  refine G.bin rfl rfl rfl ?_
  first | refine G.pickT rfl rfl ?_ | refine G.pickF rfl rfl ?_ | refine G.pick rfl rfl rfl ?_
  refine G.mv rfl ?_
  refine G.yes rfl ?_
  refine G.build rfl ?_
  refine G.yes rfl ?_
  refine G.build rfl ?_
  refine G.yes rfl ?_
  refine G.bsliceF rfl rfl rfl ?_
  refine G.yes rfl ?_
  refine G.bsliceF rfl rfl rfl ?_
  refine G.yes rfl ?_
  refine G.ckcall0 rfl rfl rfl (ticks_ok [⟨0, 1⟩, ⟨-1, 1⟩] 3 (by decide) (by decide)) ?_
  rintro _ _ ⟨rfl, rfl⟩
  refine ⟨rfl, ?_⟩
  change WpOpsG _ _ ((62, .fsl 1 (List.map encK [0, -1, 0])) :: _) _ _
  refine G.yes rfl ?_
  refine G.call0 rfl rfl (sameI_ok [0, -1, 0] [0, -1, 0] (by decide) (by decide)) ?_
  rintro _ _ ⟨rfl, rfl⟩
  refine ⟨rfl, ?_⟩
  change WpOpsG _ _ ((64, .v (.bool true)) :: _) _ _
  first | refine G.pickT rfl rfl ?_ | refine G.pickF rfl rfl ?_ | refine G.pick rfl rfl rfl ?_
  refine G.mv rfl ?_
  refine WpOpsG.nil ?_
  change WpG _ _ _ _ _
  refine WpG.ret ?_
  refine ⟨_, [], rfl, (hasP_le (by repeat (first | exact trivial | refine ⟨rfl, ?_⟩))), rfl, rfl, rfl, ?_⟩
  exact ⟨rfl, rfl⟩
theorem cut_ok (xs : List (List Lcl)) (t : List Int) (hx : tiny xs) (ht : t.length ≤ 2 ^ 50) (hi : ∀ x ∈ t, i64 x) : WpCallG A 10 [.fsl 1 (xs.map encR), .fsl 1 (t.map encK)] [] (fun v H => ∃ zs, tiny zs ∧ v = .fsl 1 (zs.map encR) ∧ H = []) := by
  have hx1 := hx.1
  refine WpCallG.intro g10 rfl rfl ?_
  unfold af10
  change WpG _ _ _ _ _
  refine WpG.seq ?_
  refine WpG.reg ?_
  refine G.mv rfl ?_
  refine WpOpsG.nil ?_
  change WpG _ _ _ _ _
  refine WpG.seq ?_
  refine WpG.reg ?_
  refine G.mv rfl ?_
  refine WpOpsG.nil ?_
  change WpG _ _ _ _ _
  refine WpG.seq ?_
  refine WpG.seq ?_
  refine WpG.reg ?_
  refine G.mv rfl ?_
  first | refine G.lenM rfl ?_ | refine G.lenOM rfl rfl ?_ | refine G.lenF rfl ?_ | refine G.lenO rfl rfl ?_ | refine G.lenNil rfl ?_
  refine G.mv rfl ?_
  refine WpOpsG.nil ?_
  change WpG _ _ _ _ _
  refine WpG.block ?_
  refine WpG.ownNil (g := 30) (k := 5) (w := 1) rfl rfl ?_
  refine WpG.loop (S := Nat × List (List Lcl)) (fun s => [(0, .fsl 1 (xs.map encR)), (1, .fsl 1 (t.map encK)), (5, .osl 30), (9, .fsl 1 (xs.map encR)), (10, .v (.int .i64 xs.length)), (11, .v (.int .i64 s.1))]) (fun s => [(30, .arr true 1 (s.2.map encR))]) (fun s => s.1 ≤ xs.length ∧ s.2.length = s.1 ∧ ∀ r, r ∈ s.2 → r.length ≤ 2932031007402) (fun s => xs.length - s.1) (fun s => ⟨rfl, rfl⟩) ?_ (0, []) ?_ (by repeat (first | exact trivial | refine ⟨rfl, ?_⟩)) (by repeat (first | exact trivial | refine ⟨rfl, ?_⟩)) rfl
  · rintro ⟨i, out⟩ ⟨hI, hl, hs⟩
    dsimp only at hI hl hs ⊢
    refine WpG.seq ?_
    refine WpG.reg ?_
    refine G.bin rfl rfl rfl ?_
    refine WpOpsG.nil ?_
    change WpG _ _ _ _ _
    refine WpG.seq ?_
    refine WpG.cond rfl (fun hq1 => ?_) (fun hq1 => ?_)
    · (try simp only [decide_eq_true_eq, decide_eq_false_iff_not, Bool.or_eq_true, Bool.and_eq_true, Bool.or_eq_false_iff, Bool.and_eq_false_iff, bne_iff_ne, beq_iff_eq, beq_eq_false_iff_ne, bne_eq_false_iff_eq, ne_eq, Bool.not_eq_true', Bool.not_eq_false', Int.not_lt, Int.not_le, Decidable.not_not, List.length_map, List.length_cons, List.length_nil] at hq1)
      refine WpG.skip ?_
      change WpG _ _ _ _ _
      refine WpG.seq ?_
      refine WpG.block ?_
      refine WpG.seq ?_
      refine WpG.reg ?_
      refine G.mv rfl ?_
      refine G.mv rfl ?_
      refine WpOpsG.nil ?_
      change WpG _ _ _ _ _
      refine WpG.seq ?_
      have hlt : i < xs.length := by omega
      have hr := hx.2 _ (List.getElem_mem hlt)
      refine WpG.reg ?_
      refine G.bslice (g := 11) rfl rfl rfl rfl ?_
      refine G.mv rfl ?_
      refine G.mv rfl ?_
      first | refine G.iaddrN rfl rfl (List.getElem?_eq_getElem (by first | omega | (simp only [List.length_map, List.length_append, List.length_cons, List.length_nil, List.length_replicate, List.length_take, List.length_drop, List.length_set]; omega))) ?_ | refine G.iaddrM rfl rfl (by omega) (List.getElem?_eq_getElem (by first | omega | (simp only [List.length_map, List.length_append, List.length_cons, List.length_nil, List.length_replicate, List.length_take, List.length_drop, List.length_set]; omega))) ?_ | refine G.iaddrF rfl rfl (by omega) rfl ?_ | refine G.iaddrO rfl rfl rfl (by omega) (by first | omega | (simp only [List.length_map, List.length_append, List.length_cons, List.length_nil, List.length_replicate, List.length_take, List.length_drop, List.length_set]; omega)) ?_ | refine G.iaddrF rfl rfl (by omega) (List.getElem?_eq_getElem (by first | omega | (simp only [List.length_map, List.length_append, List.length_cons, List.length_nil, List.length_replicate, List.length_take, List.length_drop, List.length_set]; omega))) ?_
      first | refine G.load1B rfl rfl rfl ?_ | refine G.load1F rfl rfl ?_ | refine G.load1E rfl rfl (List.getElem?_eq_getElem (by first | omega | (simp only [List.length_map, List.length_append, List.length_cons, List.length_nil, List.length_replicate, List.length_take, List.length_drop, List.length_set]; omega))) rfl ?_ | refine G.load1EM rfl rfl (List.getElem?_eq_getElem (by first | omega | (simp only [List.length_map, List.length_append, List.length_cons, List.length_nil, List.length_replicate, List.length_take, List.length_drop, List.length_set]; omega))) rfl ?_
      first | refine G.app rfl rfl rfl rfl (.inl rfl) (by first | omega | (simp only [List.length_map, List.length_append, List.length_cons, List.length_nil, List.length_replicate, List.length_take, List.length_drop, List.length_set]; omega)) ?_ | refine G.app rfl rfl rfl rfl (.inr (by decide)) (by first | omega | (simp only [List.length_map, List.length_append, List.length_cons, List.length_nil, List.length_replicate, List.length_take, List.length_drop, List.length_set]; omega)) ?_ | refine G.appNil (g := 10) rfl rfl rfl rfl (by first | omega | (simp only [List.length_map, List.length_append, List.length_cons, List.length_nil, List.length_replicate, List.length_take, List.length_drop, List.length_set]; omega)) ?_
      change WpOpsG _ _ ((19, .osl 11) :: _) ((11, .arr true 6 (xs[i].map encL)) :: _) _
      refine G.mv rfl ?_
      refine WpOpsG.nil ?_
      change WpG _ _ _ _ _
      refine WpG.seq ?_
      refine WpG.seq ?_
      refine WpG.reg ?_
      refine G.mv rfl ?_
      refine G.mv rfl ?_
      first | refine G.lenM rfl ?_ | refine G.lenOM rfl rfl ?_ | refine G.lenF rfl ?_ | refine G.lenO rfl rfl ?_ | refine G.lenNil rfl ?_
      refine G.bin rfl rfl rfl ?_
      refine G.mv rfl ?_
      apply G.andS rfl rfl rfl rfl rfl rfl
      case hB =>
        intro hs2
        (try simp only [decide_eq_true_eq, decide_eq_false_iff_not, Bool.or_eq_true, Bool.and_eq_true, Bool.or_eq_false_iff, Bool.and_eq_false_iff, bne_iff_ne, beq_iff_eq, beq_eq_false_iff_ne, bne_eq_false_iff_eq, ne_eq, Bool.not_eq_true', Bool.not_eq_false', Int.not_lt, Int.not_le, Decidable.not_not, List.length_map, List.length_cons, List.length_nil] at hs2)
        refine G.mv rfl ?_
        first | refine G.lenM rfl ?_ | refine G.lenOM rfl rfl ?_ | refine G.lenF rfl ?_ | refine G.lenO rfl rfl ?_ | refine G.lenNil rfl ?_
        refine G.bin rfl rfl rfl ?_
        refine WpOpsG.nil ?_
        exact ⟨rfl, (by repeat (first | exact LLe.refl _ | refine LLe.cons rfl ?_)), (by repeat (first | exact HLe.refl _ | refine HLe.cons rfl ?_)), rfl⟩
      refine WpOpsG.nil ?_
      change WpG _ _ _ _ _
      refine WpG.cond rfl (fun hq3 => ?_) (fun hq3 => ?_)
      · (try simp only [decide_eq_true_eq, decide_eq_false_iff_not, Bool.or_eq_true, Bool.and_eq_true, Bool.or_eq_false_iff, Bool.and_eq_false_iff, bne_iff_ne, beq_iff_eq, beq_eq_false_iff_ne, bne_eq_false_iff_eq, ne_eq, Bool.not_eq_true', Bool.not_eq_false', Int.not_lt, Int.not_le, Decidable.not_not, List.length_map, List.length_cons, List.length_nil] at hq3)
        refine WpG.seq ?_
        refine WpG.reg ?_
        refine G.mv rfl ?_
        refine G.mv rfl ?_
        first | refine G.iaddrN rfl rfl (List.getElem?_eq_getElem (by first | omega | (simp only [List.length_map, List.length_append, List.length_cons, List.length_nil, List.length_replicate, List.length_take, List.length_drop, List.length_set]; omega))) ?_ | refine G.iaddrM rfl rfl (by omega) (List.getElem?_eq_getElem (by first | omega | (simp only [List.length_map, List.length_append, List.length_cons, List.length_nil, List.length_replicate, List.length_take, List.length_drop, List.length_set]; omega))) ?_ | refine G.iaddrF rfl rfl (by omega) rfl ?_ | refine G.iaddrO rfl rfl rfl (by omega) (by first | omega | (simp only [List.length_map, List.length_append, List.length_cons, List.length_nil, List.length_replicate, List.length_take, List.length_drop, List.length_set]; omega)) ?_ | refine G.iaddrF rfl rfl (by omega) (List.getElem?_eq_getElem (by first | omega | (simp only [List.length_map, List.length_append, List.length_cons, List.length_nil, List.length_replicate, List.length_take, List.length_drop, List.length_set]; omega))) ?_
        first | refine G.load1B rfl rfl rfl ?_ | refine G.load1F rfl rfl ?_ | refine G.load1E rfl rfl (List.getElem?_eq_getElem (by first | omega | (simp only [List.length_map, List.length_append, List.length_cons, List.length_nil, List.length_replicate, List.length_take, List.length_drop, List.length_set]; omega))) rfl ?_ | refine G.load1EM rfl rfl (List.getElem?_eq_getElem (by first | omega | (simp only [List.length_map, List.length_append, List.length_cons, List.length_nil, List.length_replicate, List.length_take, List.length_drop, List.length_set]; omega))) rfl ?_
        refine G.mv rfl ?_
        first | refine G.lenM rfl ?_ | refine G.lenOM rfl rfl ?_ | refine G.lenF rfl ?_ | refine G.lenO rfl rfl ?_ | refine G.lenNil rfl ?_
        first | refine G.subI rfl rfl (by omega) ?_ | refine G.bin rfl rfl rfl ?_
        refine G.call0 rfl rfl (within_ok t[i] 0 ((xs[i].length : Int) - 1) (hi _ (List.getElem_mem (by omega))) (by decide) (by omega) (by omega)) ?_
        rintro _ _ ⟨rfl, rfl⟩
        refine ⟨rfl, ?_⟩
        change WpOpsG _ _ ((36, _) :: _) _ _
        have hw := within_rng t[i] 0 ((xs[i].length : Int) - 1) (by omega)
        refine G.mv rfl ?_
        refine WpOpsG.nil ?_
        change WpG _ _ _ _ _
        refine WpG.seq ?_
        refine WpG.reg ?_
        refine G.mv rfl ?_
        refine G.mv rfl ?_
        first | refine G.iaddrN rfl rfl (List.getElem?_eq_getElem (by first | omega | (simp only [List.length_map, List.length_append, List.length_cons, List.length_nil, List.length_replicate, List.length_take, List.length_drop, List.length_set]; omega))) ?_ | refine G.iaddrM rfl rfl (by omega) (List.getElem?_eq_getElem (by first | omega | (simp only [List.length_map, List.length_append, List.length_cons, List.length_nil, List.length_replicate, List.length_take, List.length_drop, List.length_set]; omega))) ?_ | refine G.iaddrF rfl rfl (by omega) rfl ?_ | refine G.iaddrO rfl rfl rfl (by omega) (by first | omega | (simp only [List.length_map, List.length_append, List.length_cons, List.length_nil, List.length_replicate, List.length_take, List.length_drop, List.length_set]; omega)) ?_ | refine G.iaddrF rfl rfl (by omega) (List.getElem?_eq_getElem (by first | omega | (simp only [List.length_map, List.length_append, List.length_cons, List.length_nil, List.length_replicate, List.length_take, List.length_drop, List.length_set]; omega))) ?_
        first | refine G.load1B rfl rfl rfl ?_ | refine G.load1F rfl rfl ?_ | refine G.load1E rfl rfl (List.getElem?_eq_getElem (by first | omega | (simp only [List.length_map, List.length_append, List.length_cons, List.length_nil, List.length_replicate, List.length_take, List.length_drop, List.length_set]; omega))) rfl ?_ | refine G.load1EM rfl rfl (List.getElem?_eq_getElem (by first | omega | (simp only [List.length_map, List.length_append, List.length_cons, List.length_nil, List.length_replicate, List.length_take, List.length_drop, List.length_set]; omega))) rfl ?_
        refine G.andK rfl rfl ?_
        refine G.bin rfl rfl rfl ?_
        refine WpOpsG.nil ?_
        change WpG _ _ _ _ _
        refine WpG.cond rfl (fun hq4 => ?_) (fun hq4 => ?_)
        · (try simp only [decide_eq_true_eq, decide_eq_false_iff_not, Bool.or_eq_true, Bool.and_eq_true, Bool.or_eq_false_iff, Bool.and_eq_false_iff, bne_iff_ne, beq_iff_eq, beq_eq_false_iff_ne, bne_eq_false_iff_eq, ne_eq, Bool.not_eq_true', Bool.not_eq_false', Int.not_lt, Int.not_le, Decidable.not_not, List.length_map, List.length_cons, List.length_nil] at hq4)
          refine WpG.reg ?_
          refine G.mv rfl ?_
          refine G.mv rfl ?_
          refine G.slO (full' := false) rfl rfl (bndG_some rfl ⟨by omega, by rw [List.length_map]; omega⟩) rfl (fun h => by cases h) ?_
          obtain ⟨k, hk⟩ : ∃ k, k = (within t[i] 0 ((xs[i].length : Int) - 1)).toNat := ⟨_, rfl⟩
          rw [← hk, List.drop_zero, ← List.map_take]
          refine G.mv rfl ?_
          refine WpOpsG.nil ?_
          change WpG _ _ _ _ _
          refine WpG.freeze 11 rfl ?_
          refine WpG.reg ?_
          refine G.mv rfl ?_
          refine G.mv rfl ?_
          refine G.bsliceF rfl rfl rfl ?_
          first | refine G.app rfl rfl rfl rfl (.inl rfl) (by first | omega | (simp only [List.length_map, List.length_append, List.length_cons, List.length_nil, List.length_replicate, List.length_take, List.length_drop, List.length_set]; omega)) ?_ | refine G.app rfl rfl rfl rfl (.inr (by decide)) (by first | omega | (simp only [List.length_map, List.length_append, List.length_cons, List.length_nil, List.length_replicate, List.length_take, List.length_drop, List.length_set]; omega)) ?_ | refine G.appNil (g := 11) rfl rfl rfl rfl (by first | omega | (simp only [List.length_map, List.length_append, List.length_cons, List.length_nil, List.length_replicate, List.length_take, List.length_drop, List.length_set]; omega)) ?_
          refine G.mv rfl ?_
          refine WpOpsG.nil ?_
          change WpG _ _ _ _ _
          refine WpG.reg ?_
          first | refine G.addI rfl rfl (by omega) ?_ | refine G.bin rfl rfl rfl ?_
          refine G.mv rfl ?_
          refine WpOpsG.nil ?_
          first
            | (refine ⟨(i + 1, out ++ [xs[i]]), by show xs.length - (i + 1) < xs.length - i; omega, ⟨by show i + 1 ≤ xs.length; omega, by show (out ++ [_]).length = i + 1; rw [List.length_append, hl]; rfl, tiny_snoc (by omega) hs hr⟩, ⟨rfl, rfl, rfl, rfl, rfl, rfl, trivial⟩, ⟨?_, trivial⟩, rfl⟩
               rw [List.map_append]; rfl)
            | (refine ⟨(i + 1, out ++ [xs[i].take k]), by show xs.length - (i + 1) < xs.length - i; omega, ⟨by show i + 1 ≤ xs.length; omega, by show (out ++ [_]).length = i + 1; rw [List.length_append, hl]; rfl, tiny_snoc (by omega) hs (by rw [List.length_take]; omega)⟩, ⟨rfl, rfl, rfl, rfl, rfl, rfl, trivial⟩, ⟨?_, trivial⟩, rfl⟩
               rw [List.map_append]; rfl)
            | (refine ⟨(i + 1, out ++ [xs[i].set (within t[i] 0 ((xs[i].length : Int) - 1)).toNat z]), by show xs.length - (i + 1) < xs.length - i; omega, ⟨by show i + 1 ≤ xs.length; omega, by show (out ++ [_]).length = i + 1; rw [List.length_append, hl]; rfl, tiny_snoc (by omega) hs (by rw [List.length_set]; omega)⟩, ⟨rfl, rfl, rfl, rfl, rfl, rfl, trivial⟩, ⟨?_, trivial⟩, rfl⟩
               rw [List.map_append]; rfl)
        · (try simp only [decide_eq_true_eq, decide_eq_false_iff_not, Bool.or_eq_true, Bool.and_eq_true, Bool.or_eq_false_iff, Bool.and_eq_false_iff, bne_iff_ne, beq_iff_eq, beq_eq_false_iff_ne, bne_eq_false_iff_eq, ne_eq, Bool.not_eq_true', Bool.not_eq_false', Int.not_lt, Int.not_le, Decidable.not_not, List.length_map, List.length_cons, List.length_nil] at hq4)
          refine WpG.seq ?_
          refine WpG.reg ?_
          refine G.mv rfl ?_
          refine G.mv rfl ?_
          first | refine G.iaddrN rfl rfl (List.getElem?_eq_getElem (by first | omega | (simp only [List.length_map, List.length_append, List.length_cons, List.length_nil, List.length_replicate, List.length_take, List.length_drop, List.length_set]; omega))) ?_ | refine G.iaddrM rfl rfl (by omega) (List.getElem?_eq_getElem (by first | omega | (simp only [List.length_map, List.length_append, List.length_cons, List.length_nil, List.length_replicate, List.length_take, List.length_drop, List.length_set]; omega))) ?_ | refine G.iaddrF rfl rfl (by omega) rfl ?_ | refine G.iaddrO rfl rfl rfl (by omega) (by first | omega | (simp only [List.length_map, List.length_append, List.length_cons, List.length_nil, List.length_replicate, List.length_take, List.length_drop, List.length_set]; omega)) ?_ | refine G.iaddrF rfl rfl (by omega) (List.getElem?_eq_getElem (by first | omega | (simp only [List.length_map, List.length_append, List.length_cons, List.length_nil, List.length_replicate, List.length_take, List.length_drop, List.length_set]; omega))) ?_
          first | refine G.load1B rfl rfl rfl ?_ | refine G.load1F rfl rfl ?_ | refine G.load1E rfl rfl (List.getElem?_eq_getElem (by first | omega | (simp only [List.length_map, List.length_append, List.length_cons, List.length_nil, List.length_replicate, List.length_take, List.length_drop, List.length_set]; omega))) rfl ?_ | refine G.load1EM rfl rfl (List.getElem?_eq_getElem (by first | omega | (simp only [List.length_map, List.length_append, List.length_cons, List.length_nil, List.length_replicate, List.length_take, List.length_drop, List.length_set]; omega))) rfl ?_
          refine G.andK rfl rfl ?_
          refine G.bin rfl rfl rfl ?_
          refine WpOpsG.nil ?_
          change WpG _ _ _ _ _
          refine WpG.cond rfl (fun hq5 => ?_) (fun hq5 => ?_)
          · (try simp only [decide_eq_true_eq, decide_eq_false_iff_not, Bool.or_eq_true, Bool.and_eq_true, Bool.or_eq_false_iff, Bool.and_eq_false_iff, bne_iff_ne, beq_iff_eq, beq_eq_false_iff_ne, bne_eq_false_iff_eq, ne_eq, Bool.not_eq_true', Bool.not_eq_false', Int.not_lt, Int.not_le, Decidable.not_not, List.length_map, List.length_cons, List.length_nil] at hq5)
            refine WpG.reg ?_
            refine G.mv rfl ?_
            refine G.mv rfl ?_
            first | refine G.iaddrN rfl rfl (List.getElem?_eq_getElem (by first | omega | (simp only [List.length_map, List.length_append, List.length_cons, List.length_nil, List.length_replicate, List.length_take, List.length_drop, List.length_set]; omega))) ?_ | refine G.iaddrM rfl rfl (by omega) (List.getElem?_eq_getElem (by first | omega | (simp only [List.length_map, List.length_append, List.length_cons, List.length_nil, List.length_replicate, List.length_take, List.length_drop, List.length_set]; omega))) ?_ | refine G.iaddrF rfl rfl (by omega) rfl ?_ | refine G.iaddrO rfl rfl rfl (by omega) (by first | omega | (simp only [List.length_map, List.length_append, List.length_cons, List.length_nil, List.length_replicate, List.length_take, List.length_drop, List.length_set]; omega)) ?_ | refine G.iaddrF rfl rfl (by omega) (List.getElem?_eq_getElem (by first | omega | (simp only [List.length_map, List.length_append, List.length_cons, List.length_nil, List.length_replicate, List.length_take, List.length_drop, List.length_set]; omega))) ?_
            first | refine G.faddrB rfl ?_ | refine G.faddrF rfl ?_ | refine G.faddrE rfl ?_
            first | refine G.load1B rfl rfl rfl ?_ | refine G.load1F rfl rfl ?_ | refine G.load1E rfl rfl (List.getElem?_eq_getElem (by first | omega | (simp only [List.length_map, List.length_append, List.length_cons, List.length_nil, List.length_replicate, List.length_take, List.length_drop, List.length_set]; omega))) rfl ?_ | refine G.load1EM rfl rfl (List.getElem?_eq_getElem (by first | omega | (simp only [List.length_map, List.length_append, List.length_cons, List.length_nil, List.length_replicate, List.length_take, List.length_drop, List.length_set]; omega))) rfl ?_
            first | refine G.addI rfl rfl (by omega) ?_ | refine G.bin rfl rfl rfl ?_
            first | refine G.iaddrN rfl rfl (List.getElem?_eq_getElem (by first | omega | (simp only [List.length_map, List.length_append, List.length_cons, List.length_nil, List.length_replicate, List.length_take, List.length_drop, List.length_set]; omega))) ?_ | refine G.iaddrM rfl rfl (by omega) (List.getElem?_eq_getElem (by first | omega | (simp only [List.length_map, List.length_append, List.length_cons, List.length_nil, List.length_replicate, List.length_take, List.length_drop, List.length_set]; omega))) ?_ | refine G.iaddrF rfl rfl (by omega) rfl ?_ | refine G.iaddrO rfl rfl rfl (by omega) (by first | omega | (simp only [List.length_map, List.length_append, List.length_cons, List.length_nil, List.length_replicate, List.length_take, List.length_drop, List.length_set]; omega)) ?_ | refine G.iaddrF rfl rfl (by omega) (List.getElem?_eq_getElem (by first | omega | (simp only [List.length_map, List.length_append, List.length_cons, List.length_nil, List.length_replicate, List.length_take, List.length_drop, List.length_set]; omega))) ?_
            first | refine G.faddrB rfl ?_ | refine G.faddrF rfl ?_ | refine G.faddrE rfl ?_
            obtain ⟨z, hz⟩ : ∃ z : Lcl, z = { xs[i][(within t[i] 0 ((xs[i].length : Int) - 1)).toNat] with v := IntKind.u32.wrap (xs[i][(within t[i] 0 ((xs[i].length : Int) - 1)).toNat].v + 1) } := ⟨_, rfl⟩
            refine G.storeEM z rfl rfl rfl (List.getElem?_eq_getElem (by omega)) rfl rfl rfl (by rw [hz]; rfl) ?_
            refine WpOpsG.nil ?_
            change WpG _ _ _ _ _
            refine WpG.freeze 11 rfl ?_
            refine WpG.reg ?_
            refine G.mv rfl ?_
            refine G.mv rfl ?_
            refine G.bsliceF rfl rfl rfl ?_
            first | refine G.app rfl rfl rfl rfl (.inl rfl) (by first | omega | (simp only [List.length_map, List.length_append, List.length_cons, List.length_nil, List.length_replicate, List.length_take, List.length_drop, List.length_set]; omega)) ?_ | refine G.app rfl rfl rfl rfl (.inr (by decide)) (by first | omega | (simp only [List.length_map, List.length_append, List.length_cons, List.length_nil, List.length_replicate, List.length_take, List.length_drop, List.length_set]; omega)) ?_ | refine G.appNil (g := 11) rfl rfl rfl rfl (by first | omega | (simp only [List.length_map, List.length_append, List.length_cons, List.length_nil, List.length_replicate, List.length_take, List.length_drop, List.length_set]; omega)) ?_
            refine G.mv rfl ?_
            refine WpOpsG.nil ?_
            change WpG _ _ _ _ _
            refine WpG.reg ?_
            first | refine G.addI rfl rfl (by omega) ?_ | refine G.bin rfl rfl rfl ?_
            refine G.mv rfl ?_
            refine WpOpsG.nil ?_
            first
              | (refine ⟨(i + 1, out ++ [xs[i]]), by show xs.length - (i + 1) < xs.length - i; omega, ⟨by show i + 1 ≤ xs.length; omega, by show (out ++ [_]).length = i + 1; rw [List.length_append, hl]; rfl, tiny_snoc (by omega) hs hr⟩, ⟨rfl, rfl, rfl, rfl, rfl, rfl, trivial⟩, ⟨?_, trivial⟩, rfl⟩
                 rw [List.map_append]; rfl)
              | (refine ⟨(i + 1, out ++ [xs[i].take k]), by show xs.length - (i + 1) < xs.length - i; omega, ⟨by show i + 1 ≤ xs.length; omega, by show (out ++ [_]).length = i + 1; rw [List.length_append, hl]; rfl, tiny_snoc (by omega) hs (by rw [List.length_take]; omega)⟩, ⟨rfl, rfl, rfl, rfl, rfl, rfl, trivial⟩, ⟨?_, trivial⟩, rfl⟩
                 rw [List.map_append]; rfl)
              | (refine ⟨(i + 1, out ++ [xs[i].set (within t[i] 0 ((xs[i].length : Int) - 1)).toNat z]), by show xs.length - (i + 1) < xs.length - i; omega, ⟨by show i + 1 ≤ xs.length; omega, by show (out ++ [_]).length = i + 1; rw [List.length_append, hl]; rfl, tiny_snoc (by omega) hs (by rw [List.length_set]; omega)⟩, ⟨rfl, rfl, rfl, rfl, rfl, rfl, trivial⟩, ⟨?_, trivial⟩, rfl⟩
                 rw [List.map_append]; rfl)
          · (try simp only [decide_eq_true_eq, decide_eq_false_iff_not, Bool.or_eq_true, Bool.and_eq_true, Bool.or_eq_false_iff, Bool.and_eq_false_iff, bne_iff_ne, beq_iff_eq, beq_eq_false_iff_ne, bne_eq_false_iff_eq, ne_eq, Bool.not_eq_true', Bool.not_eq_false', Int.not_lt, Int.not_le, Decidable.not_not, List.length_map, List.length_cons, List.length_nil] at hq5)
            refine WpG.skip ?_
            change WpG _ _ _ _ _
            refine WpG.freeze 11 rfl ?_
            refine WpG.reg ?_
            refine G.mv rfl ?_
            refine G.mv rfl ?_
            refine G.bsliceF rfl rfl rfl ?_
            first | refine G.app rfl rfl rfl rfl (.inl rfl) (by first | omega | (simp only [List.length_map, List.length_append, List.length_cons, List.length_nil, List.length_replicate, List.length_take, List.length_drop, List.length_set]; omega)) ?_ | refine G.app rfl rfl rfl rfl (.inr (by decide)) (by first | omega | (simp only [List.length_map, List.length_append, List.length_cons, List.length_nil, List.length_replicate, List.length_take, List.length_drop, List.length_set]; omega)) ?_ | refine G.appNil (g := 11) rfl rfl rfl rfl (by first | omega | (simp only [List.length_map, List.length_append, List.length_cons, List.length_nil, List.length_replicate, List.length_take, List.length_drop, List.length_set]; omega)) ?_
            refine G.mv rfl ?_
            refine WpOpsG.nil ?_
            change WpG _ _ _ _ _
            refine WpG.reg ?_
            first | refine G.addI rfl rfl (by omega) ?_ | refine G.bin rfl rfl rfl ?_
            refine G.mv rfl ?_
            refine WpOpsG.nil ?_
            first
              | (refine ⟨(i + 1, out ++ [xs[i]]), by show xs.length - (i + 1) < xs.length - i; omega, ⟨by show i + 1 ≤ xs.length; omega, by show (out ++ [_]).length = i + 1; rw [List.length_append, hl]; rfl, tiny_snoc (by omega) hs hr⟩, ⟨rfl, rfl, rfl, rfl, rfl, rfl, trivial⟩, ⟨?_, trivial⟩, rfl⟩
                 rw [List.map_append]; rfl)
              | (refine ⟨(i + 1, out ++ [xs[i].take k]), by show xs.length - (i + 1) < xs.length - i; omega, ⟨by show i + 1 ≤ xs.length; omega, by show (out ++ [_]).length = i + 1; rw [List.length_append, hl]; rfl, tiny_snoc (by omega) hs (by rw [List.length_take]; omega)⟩, ⟨rfl, rfl, rfl, rfl, rfl, rfl, trivial⟩, ⟨?_, trivial⟩, rfl⟩
                 rw [List.map_append]; rfl)
              | (refine ⟨(i + 1, out ++ [xs[i].set (within t[i] 0 ((xs[i].length : Int) - 1)).toNat z]), by show xs.length - (i + 1) < xs.length - i; omega, ⟨by show i + 1 ≤ xs.length; omega, by show (out ++ [_]).length = i + 1; rw [List.length_append, hl]; rfl, tiny_snoc (by omega) hs (by rw [List.length_set]; omega)⟩, ⟨rfl, rfl, rfl, rfl, rfl, rfl, trivial⟩, ⟨?_, trivial⟩, rfl⟩
                 rw [List.map_append]; rfl)
      · (try simp only [decide_eq_true_eq, decide_eq_false_iff_not, Bool.or_eq_true, Bool.and_eq_true, Bool.or_eq_false_iff, Bool.and_eq_false_iff, bne_iff_ne, beq_iff_eq, beq_eq_false_iff_ne, bne_eq_false_iff_eq, ne_eq, Bool.not_eq_true', Bool.not_eq_false', Int.not_lt, Int.not_le, Decidable.not_not, List.length_map, List.length_cons, List.length_nil] at hq3)
        refine WpG.skip ?_
        change WpG _ _ _ _ _
        refine WpG.freeze 11 rfl ?_
        refine WpG.reg ?_
        refine G.mv rfl ?_
        refine G.mv rfl ?_
        refine G.bsliceF rfl rfl rfl ?_
        first | refine G.app rfl rfl rfl rfl (.inl rfl) (by first | omega | (simp only [List.length_map, List.length_append, List.length_cons, List.length_nil, List.length_replicate, List.length_take, List.length_drop, List.length_set]; omega)) ?_ | refine G.app rfl rfl rfl rfl (.inr (by decide)) (by first | omega | (simp only [List.length_map, List.length_append, List.length_cons, List.length_nil, List.length_replicate, List.length_take, List.length_drop, List.length_set]; omega)) ?_ | refine G.appNil (g := 11) rfl rfl rfl rfl (by first | omega | (simp only [List.length_map, List.length_append, List.length_cons, List.length_nil, List.length_replicate, List.length_take, List.length_drop, List.length_set]; omega)) ?_
        refine G.mv rfl ?_
        refine WpOpsG.nil ?_
        change WpG _ _ _ _ _
        refine WpG.reg ?_
        first | refine G.addI rfl rfl (by omega) ?_ | refine G.bin rfl rfl rfl ?_
        refine G.mv rfl ?_
        refine WpOpsG.nil ?_
        first
          | (refine ⟨(i + 1, out ++ [xs[i]]), by show xs.length - (i + 1) < xs.length - i; omega, ⟨by show i + 1 ≤ xs.length; omega, by show (out ++ [_]).length = i + 1; rw [List.length_append, hl]; rfl, tiny_snoc (by omega) hs hr⟩, ⟨rfl, rfl, rfl, rfl, rfl, rfl, trivial⟩, ⟨?_, trivial⟩, rfl⟩
             rw [List.map_append]; rfl)
          | (refine ⟨(i + 1, out ++ [xs[i].take k]), by show xs.length - (i + 1) < xs.length - i; omega, ⟨by show i + 1 ≤ xs.length; omega, by show (out ++ [_]).length = i + 1; rw [List.length_append, hl]; rfl, tiny_snoc (by omega) hs (by rw [List.length_take]; omega)⟩, ⟨rfl, rfl, rfl, rfl, rfl, rfl, trivial⟩, ⟨?_, trivial⟩, rfl⟩
             rw [List.map_append]; rfl)
          | (refine ⟨(i + 1, out ++ [xs[i].set (within t[i] 0 ((xs[i].length : Int) - 1)).toNat z]), by show xs.length - (i + 1) < xs.length - i; omega, ⟨by show i + 1 ≤ xs.length; omega, by show (out ++ [_]).length = i + 1; rw [List.length_append, hl]; rfl, tiny_snoc (by omega) hs (by rw [List.length_set]; omega)⟩, ⟨rfl, rfl, rfl, rfl, rfl, rfl, trivial⟩, ⟨?_, trivial⟩, rfl⟩
             rw [List.map_append]; rfl)
    · (try simp only [decide_eq_true_eq, decide_eq_false_iff_not, Bool.or_eq_true, Bool.and_eq_true, Bool.or_eq_false_iff, Bool.and_eq_false_iff, bne_iff_ne, beq_iff_eq, beq_eq_false_iff_ne, bne_eq_false_iff_eq, ne_eq, Bool.not_eq_true', Bool.not_eq_false', Int.not_lt, Int.not_le, Decidable.not_not, List.length_map, List.length_cons, List.length_nil] at hq1)
      refine WpG.exit ?_
      change WpG _ _ _ _ _
      refine WpG.seq ?_
      refine WpG.reg ?_
      refine G.mv rfl ?_
      refine G.mv rfl ?_
      refine WpOpsG.nil ?_
      change WpG _ _ _ _ _
      refine WpG.freeze 30 rfl ?_
      refine WpG.ret ?_
      refine ⟨_, [], rfl, (hasP_le (by repeat (first | exact trivial | refine ⟨rfl, ?_⟩))), rfl, rfl, rfl, ?_⟩
      exact ⟨out, ⟨by omega, hs⟩, rfl, rfl⟩
  · exact ⟨Nat.zero_le _, rfl, fun r h => by cases h⟩
end Go.AM.L22
