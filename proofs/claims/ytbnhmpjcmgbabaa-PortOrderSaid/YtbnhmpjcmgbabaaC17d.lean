/- Contracts of the functions that the statement reaches. No condition. -/
import Derived.Test.YtbnhmpjcmgbabaaC17c
import Derived.Test.YtbnhmpjcmgbabaaPL17b
set_option linter.all false
set_option maxRecDepth 10000
namespace Go.AM.L17
open Go.AM.PL
theorem same17_ok (C : List Ch) (S W : List (List Int)) (hC : C.length ≤ 2 ^ 30) (hS : S.length = C.length) (hW : W.length = C.length) (hm : smallS (2 ^ 30) S) (hw : smallS (2 ^ 30) W) : WpCallG A 22 [.fptr [.fsl 6 (C.map encC), .fsl 1 ((encHas S).map (fzRow 1))] 0, .fptr [.fsl 6 (C.map encC), .fsl 1 ((encHas W).map (fzRow 1))] 0, .v (.int .i64 (C.length : Int))] [] (fun v H => v = .v (.bool (decide (S = W))) ∧ H = []) := by
  rw [show (encHas W).map (fzRow 1) = W.map encRow from fz_has]
  refine WpCallG.intro g22 rfl rfl ?_
  unfold af22
  change WpG _ _ _ _ _
  refine WpG.seq ?_
  refine WpG.reg ?_
  refine G.mv rfl ?_
  refine WpOpsG.nil ?_
  change WpG _ _ _ _ _
  refine WpG.seq ?_
  refine WpG.seq ?_
  refine WpG.reg ?_
  refine G.mv rfl ?_
  refine WpOpsG.nil ?_
  change WpG _ _ _ _ _
  refine WpG.block ?_
  refine WpG.loop (S := Nat) (fun j => [(0, .fptr [.fsl 6 (C.map encC), .fsl 1 ((encHas S).map (fzRow 1))] 0), (1, .fptr [.fsl 6 (C.map encC), .fsl 1 (W.map encRow)] 0), (2, .v (.int .i64 (C.length : Int))), (7, .v (.int .i64 ((j : Int) - 1)))]) (fun _ => []) (fun j => j ≤ C.length + 2 ∧ S.take (j - 1) = W.take (j - 1)) (fun j => C.length + 2 - j) (fun s => ⟨rfl, rfl⟩) ?_ 0 ?_ (by repeat (first | exact trivial | refine ⟨rfl, ?_⟩)) (by repeat (first | exact trivial | refine ⟨rfl, ?_⟩)) rfl
  · rintro j ⟨hI, hT⟩
    refine WpG.seq ?_
    refine WpG.seq ?_
    refine WpG.reg ?_
    refine G.mv rfl ?_
    refine G.mv rfl ?_
    refine G.bin rfl rfl rfl ?_
    refine WpOpsG.nil ?_
    change WpG _ _ _ _ _
    refine WpG.cond rfl (fun hq1 => ?_) (fun hq1 => ?_)
    · (try simp only [decide_eq_true_eq, decide_eq_false_iff_not, Bool.or_eq_true, Bool.and_eq_true, Bool.or_eq_false_iff, Bool.and_eq_false_iff, bne_iff_ne, beq_iff_eq, beq_eq_false_iff_ne, bne_eq_false_iff_eq, ne_eq, Bool.not_eq_true', Bool.not_eq_false', Int.not_lt, Int.not_le, Decidable.not_not, List.length_map, List.length_cons, List.length_nil] at hq1)
      refine WpG.skip ?_
      change WpG _ _ _ _ _
      refine WpG.seq ?_
      refine WpG.block ?_
      refine WpG.seq ?_
      refine WpG.reg ?_
      refine G.mv rfl ?_
      refine G.mv rfl ?_
      refine G.call0 rfl rfl ((held_ok C S ((j : Int) - 1) hC hS hm).ren [(0, 20)]) ?_
      rintro _ _ ⟨_, _, ⟨rfl, rfl⟩, rfl, rfl⟩
      change newOk _ _ [(20, _)] = true ∧ _
      refine ⟨rfl, ?_⟩
      change WpOpsG _ _ ((16, .osl 20) :: _) ([(20, .arr .yes 1 ((heldV C S ((j : Int) - 1)).map encU))] ++ _) _
      refine G.mv rfl ?_
      refine WpOpsG.nil ?_
      change WpG _ _ _ _ _
      refine WpG.seq ?_
      refine WpG.seq ?_
      refine WpG.reg ?_
      refine G.mv rfl ?_
      refine G.bin rfl rfl rfl ?_
      refine G.mv rfl ?_
      apply G.orS rfl rfl rfl rfl rfl rfl
      case hB =>
        intro hs2
        (try simp only [decide_eq_true_eq, decide_eq_false_iff_not, Bool.or_eq_true, Bool.and_eq_true, Bool.or_eq_false_iff, Bool.and_eq_false_iff, bne_iff_ne, beq_iff_eq, beq_eq_false_iff_ne, bne_eq_false_iff_eq, ne_eq, Bool.not_eq_true', Bool.not_eq_false', Int.not_lt, Int.not_le, Decidable.not_not, List.length_map, List.length_cons, List.length_nil] at hs2)
        refine G.mv rfl ?_
        refine G.mv rfl ?_
        refine G.bin rfl rfl rfl ?_
        refine WpOpsG.nil ?_
        exact ⟨rfl, (by repeat (first | exact LLe.refl _ | refine LLe.cons rfl ?_)), (by repeat (first | exact HLe.refl _ | refine HLe.cons rfl ?_)), rfl⟩
      refine WpOpsG.nil ?_
      change WpG _ _ _ _ _
      refine WpG.cond rfl (fun hq3 => ?_) (fun hq3 => ?_)
      · (try simp only [decide_eq_true_eq, decide_eq_false_iff_not, Bool.or_eq_true, Bool.and_eq_true, Bool.or_eq_false_iff, Bool.and_eq_false_iff, bne_iff_ne, beq_iff_eq, beq_eq_false_iff_ne, bne_eq_false_iff_eq, ne_eq, Bool.not_eq_true', Bool.not_eq_false', Int.not_lt, Int.not_le, Decidable.not_not, List.length_map, List.length_cons, List.length_nil] at hq3)
        refine WpG.seq ?_
        refine WpG.seq ?_
        rw [held_out (by unfold isC; omega)]
        refine WpG.reg ?_
        refine G.mv rfl ?_
        first | refine G.lenM rfl ?_ | refine G.lenOM rfl rfl ?_ | refine G.lenF rfl ?_ | refine G.lenO rfl rfl ?_ | refine G.lenNil rfl ?_
        refine G.bin rfl rfl rfl ?_
        refine WpOpsG.nil ?_
        change WpG _ _ _ _ _
        refine WpG.cond rfl (fun hq4 => absurd hq4 (by first | decide | simp)) (fun hq4 => ?_)
        refine WpG.skip ?_
        change WpG _ _ _ _ _
        refine WpG.exit ?_
        change WpG _ _ _ _ _
        refine WpG.reg ?_
        refine G.mv rfl ?_
        first | refine G.addI rfl rfl (by omega) ?_ | refine G.bin rfl rfl rfl ?_
        refine G.mv rfl ?_
        refine WpOpsG.nil ?_
        refine ⟨j + 1, by omega, ⟨by omega, ?_⟩, ⟨rfl, rfl, rfl, ?_, trivial⟩, trivial, rfl⟩
        · first
            | exact rows_out hS hW hT (by omega)
            | (rw [show j + 1 - 1 = q + 1 by omega]; rw [show j - 1 = q by omega] at hT; exact rows_in (by omega) (by omega) hT hq5)
        · show some (GV.v (.int .i64 _)) = some (GV.v (.int .i64 _))
          congr 3; omega
      · (try simp only [decide_eq_true_eq, decide_eq_false_iff_not, Bool.or_eq_true, Bool.and_eq_true, Bool.or_eq_false_iff, Bool.and_eq_false_iff, bne_iff_ne, beq_iff_eq, beq_eq_false_iff_ne, bne_eq_false_iff_eq, ne_eq, Bool.not_eq_true', Bool.not_eq_false', Int.not_lt, Int.not_le, Decidable.not_not, List.length_map, List.length_cons, List.length_nil] at hq3)
        refine WpG.skip ?_
        change WpG _ _ _ _ _
        refine WpG.seq ?_
        obtain ⟨q, hq⟩ : ∃ q : Nat, (j : Int) - 1 = (q : Int) := ⟨((j : Int) - 1).toNat, by omega⟩
        have hql : q < C.length := by omega
        rw [hq, held_in hql]
        refine WpG.reg ?_
        refine G.mv rfl ?_
        refine G.mv rfl ?_
        first | refine G.nilcB rfl ?_ | refine G.nilcF rfl ?_ | refine G.nilcE rfl ?_ | refine G.nilcFn rfl ?_
        first | refine G.faddrB rfl ?_ | refine G.faddrF rfl ?_ | refine G.faddrE rfl ?_
        first | refine G.load1B rfl rfl rfl ?_ | refine G.load1F rfl rfl ?_ | refine G.load1E rfl rfl (List.getElem?_eq_getElem (by first | omega | (simp only [List.length_map, List.length_append, List.length_cons, List.length_nil, List.length_replicate, List.length_take, List.length_drop, List.length_set]; omega))) rfl ?_ | refine G.load1EM rfl rfl (List.getElem?_eq_getElem (by first | omega | (simp only [List.length_map, List.length_append, List.length_cons, List.length_nil, List.length_replicate, List.length_take, List.length_drop, List.length_set]; omega))) rfl ?_
        refine G.mv rfl ?_
        refine G.iaddrM rfl rfl (by omega) (gd17 [] (by omega)) ?_
        rw [Int.toNat_natCast]
        first | refine G.load1B rfl rfl rfl ?_ | refine G.load1F rfl rfl ?_ | refine G.load1E rfl rfl (List.getElem?_eq_getElem (by first | omega | (simp only [List.length_map, List.length_append, List.length_cons, List.length_nil, List.length_replicate, List.length_take, List.length_drop, List.length_set]; omega))) rfl ?_ | refine G.load1EM rfl rfl (List.getElem?_eq_getElem (by first | omega | (simp only [List.length_map, List.length_append, List.length_cons, List.length_nil, List.length_replicate, List.length_take, List.length_drop, List.length_set]; omega))) rfl ?_
        refine G.lend rfl rfl (sameU_ok (S.getD q []) (W.getD q []) (by have := rowAt_len hm (q : Int); rw [rowAt_nat] at this; omega) (by have := rowAt_len hw (q : Int); rw [rowAt_nat] at this; omega)) ?_
        rintro _ _ ⟨rfl, rfl⟩
        refine ⟨rfl, trivial, rfl, ?_⟩
        change WpOpsG _ _ ((35, _) :: _) _ _
        refine G.un rfl rfl ?_
        refine WpOpsG.nil ?_
        change WpG _ _ _ _ _
        refine WpG.cond rfl (fun hq5 => ?_) (fun hq5 => ?_)
        · (try simp only [decide_eq_true_eq, decide_eq_false_iff_not, Bool.or_eq_true, Bool.and_eq_true, Bool.or_eq_false_iff, Bool.and_eq_false_iff, bne_iff_ne, beq_iff_eq, beq_eq_false_iff_ne, bne_eq_false_iff_eq, ne_eq, Bool.not_eq_true', Bool.not_eq_false', Int.not_lt, Int.not_le, Decidable.not_not, List.length_map, List.length_cons, List.length_nil] at hq5)
          refine WpG.seq ?_
          refine WpG.reg ?_
          refine G.mv rfl ?_
          refine WpOpsG.nil ?_
          change WpG _ _ _ _ _
          refine WpG.ret ?_
          refine ⟨_, [], rfl, (hasP_le (by repeat (first | exact trivial | refine ⟨rfl, ?_⟩))), rfl, rfl, rfl, ?_⟩
          rw [decide_eq_false (fun h => by subst h; exact hq5 rfl)]
          exact ⟨rfl, rfl⟩
        · (try simp only [decide_eq_true_eq, decide_eq_false_iff_not, Bool.or_eq_true, Bool.and_eq_true, Bool.or_eq_false_iff, Bool.and_eq_false_iff, bne_iff_ne, beq_iff_eq, beq_eq_false_iff_ne, bne_eq_false_iff_eq, ne_eq, Bool.not_eq_true', Bool.not_eq_false', Int.not_lt, Int.not_le, Decidable.not_not, List.length_map, List.length_cons, List.length_nil] at hq5)
          refine WpG.skip ?_
          change WpG _ _ _ _ _
          refine WpG.reg ?_
          refine G.mv rfl ?_
          first | refine G.addI rfl rfl (by omega) ?_ | refine G.bin rfl rfl rfl ?_
          refine G.mv rfl ?_
          refine WpOpsG.nil ?_
          refine ⟨j + 1, by omega, ⟨by omega, ?_⟩, ⟨rfl, rfl, rfl, ?_, trivial⟩, trivial, rfl⟩
          · first
              | exact rows_out hS hW hT (by omega)
              | (rw [show j + 1 - 1 = q + 1 by omega]; rw [show j - 1 = q by omega] at hT; exact rows_in (by omega) (by omega) hT hq5)
          · show some (GV.v (.int .i64 _)) = some (GV.v (.int .i64 _))
            congr 3; omega
    · (try simp only [decide_eq_true_eq, decide_eq_false_iff_not, Bool.or_eq_true, Bool.and_eq_true, Bool.or_eq_false_iff, Bool.and_eq_false_iff, bne_iff_ne, beq_iff_eq, beq_eq_false_iff_ne, bne_eq_false_iff_eq, ne_eq, Bool.not_eq_true', Bool.not_eq_false', Int.not_lt, Int.not_le, Decidable.not_not, List.length_map, List.length_cons, List.length_nil] at hq1)
      refine WpG.exit ?_
      change WpG _ _ _ _ _
      refine WpG.seq ?_
      refine WpG.reg ?_
      refine G.mv rfl ?_
      refine WpOpsG.nil ?_
      change WpG _ _ _ _ _
      refine WpG.ret ?_
      refine ⟨_, [], rfl, (hasP_le (by repeat (first | exact trivial | refine ⟨rfl, ?_⟩))), rfl, rfl, rfl, ?_⟩
      have he : S = W := by
        rw [List.take_of_length_le (by omega), List.take_of_length_le (by omega)] at hT; exact hT
      rw [decide_eq_true he]
      exact ⟨rfl, rfl⟩
  · exact ⟨Nat.zero_le _, rfl⟩
theorem within_ok (n lo hi : Int) (hn : -2 ^ 63 ≤ n ∧ n < 2 ^ 63) (hlo : -1099511627776 ≤ lo) (hle : lo ≤ hi) (hhi : hi ≤ 2 ^ 50)  : WpCallG A 11 [.v (.int .i64 n), .v (.int .i64 lo), .v (.int .i64 hi)] [] (fun v H => v = .v (.int .i64 (within n lo hi)) ∧ H = []) := by
  have h1 := Int.tmod_lt_of_pos n (show 0 < hi - lo + 1 by omega)
  have h2 := Int.lt_tmod_of_pos n (show 0 < hi - lo + 1 by omega)
  refine WpCallG.intro g11 rfl rfl ?_
  unfold af11
  change WpG _ _ _ _ _
  refine WpG.seq ?_
  refine WpG.reg ?_
  refine G.mv rfl ?_
  refine WpOpsG.nil ?_
  change WpG _ _ _ _ _
  refine WpG.seq ?_
  refine WpG.seq ?_
  refine WpG.reg ?_
  refine G.mv rfl ?_
  refine G.mv rfl ?_
  refine G.bin rfl rfl rfl ?_
  refine G.mv rfl ?_
  apply G.andS rfl rfl rfl rfl rfl rfl
  case hB =>
    intro hs1
    (try simp only [decide_eq_true_eq, decide_eq_false_iff_not, Bool.or_eq_true, Bool.and_eq_true, Bool.or_eq_false_iff, Bool.and_eq_false_iff, bne_iff_ne, beq_iff_eq, beq_eq_false_iff_ne, bne_eq_false_iff_eq, ne_eq, Bool.not_eq_true', Bool.not_eq_false', Int.not_lt, Int.not_le, Decidable.not_not, List.length_map, List.length_cons, List.length_nil] at hs1)
    refine G.mv rfl ?_
    refine G.mv rfl ?_
    refine G.bin rfl rfl rfl ?_
    refine WpOpsG.nil ?_
    exact ⟨rfl, (by repeat (first | exact LLe.refl _ | refine LLe.cons rfl ?_)), (by repeat (first | exact HLe.refl _ | refine HLe.cons rfl ?_)), rfl⟩
  refine WpOpsG.nil ?_
  change WpG _ _ _ _ _
  refine WpG.cond rfl (fun hq2 => ?_) (fun hq2 => ?_)
  · (try simp only [decide_eq_true_eq, decide_eq_false_iff_not, Bool.or_eq_true, Bool.and_eq_true, Bool.or_eq_false_iff, Bool.and_eq_false_iff, bne_iff_ne, beq_iff_eq, beq_eq_false_iff_ne, bne_eq_false_iff_eq, ne_eq, Bool.not_eq_true', Bool.not_eq_false', Int.not_lt, Int.not_le, Decidable.not_not, List.length_map, List.length_cons, List.length_nil] at hq2)
    refine WpG.seq ?_
    refine WpG.reg ?_
    refine G.mv rfl ?_
    refine G.mv rfl ?_
    refine WpOpsG.nil ?_
    change WpG _ _ _ _ _
    refine WpG.ret ?_
    refine ⟨_, [], rfl, (hasP_le (by repeat (first | exact trivial | refine ⟨rfl, ?_⟩))), rfl, rfl, rfl, ?_⟩
    refine ⟨?_, rfl⟩
    unfold within; rw [if_pos (by omega)]; rfl
  · (try simp only [decide_eq_true_eq, decide_eq_false_iff_not, Bool.or_eq_true, Bool.and_eq_true, Bool.or_eq_false_iff, Bool.and_eq_false_iff, bne_iff_ne, beq_iff_eq, beq_eq_false_iff_ne, bne_eq_false_iff_eq, ne_eq, Bool.not_eq_true', Bool.not_eq_false', Int.not_lt, Int.not_le, Decidable.not_not, List.length_map, List.length_cons, List.length_nil] at hq2)
    refine WpG.skip ?_
    change WpG _ _ _ _ _
    refine WpG.seq ?_
    refine WpG.reg ?_
    refine G.mv rfl ?_
    refine G.mv rfl ?_
    refine G.mv rfl ?_
    first | refine G.subI rfl rfl (by omega) ?_ | refine G.bin rfl rfl rfl ?_
    first | refine G.addI rfl rfl (by omega) ?_ | refine G.bin rfl rfl rfl ?_
    refine G.remP rfl rfl (by omega) ?_
    refine G.mv rfl ?_
    refine WpOpsG.nil ?_
    change WpG _ _ _ _ _
    refine WpG.seqJ ([(0, .v (.int .i64 (wrem n lo hi))), (1, .v (.int .i64 lo))]) ([]) ⟨rfl, rfl⟩ ?_ ?_
    · change WpG _ _ _ _ _
      refine WpG.seq ?_
      refine WpG.reg ?_
      refine G.mv rfl ?_
      refine G.bin rfl rfl rfl ?_
      refine WpOpsG.nil ?_
      change WpG _ _ _ _ _
      refine WpG.cond rfl (fun hq3 => ?_) (fun hq3 => ?_)
      · (try simp only [decide_eq_true_eq, decide_eq_false_iff_not, Bool.or_eq_true, Bool.and_eq_true, Bool.or_eq_false_iff, Bool.and_eq_false_iff, bne_iff_ne, beq_iff_eq, beq_eq_false_iff_ne, bne_eq_false_iff_eq, ne_eq, Bool.not_eq_true', Bool.not_eq_false', Int.not_lt, Int.not_le, Decidable.not_not, List.length_map, List.length_cons, List.length_nil] at hq3)
        refine WpG.reg ?_
        refine G.mv rfl ?_
        refine G.mv rfl ?_
        first | refine G.addI rfl rfl (by omega) ?_ | refine G.bin rfl rfl rfl ?_
        refine G.mv rfl ?_
        first | refine G.subI rfl rfl (by omega) ?_ | refine G.bin rfl rfl rfl ?_
        first | refine G.addI rfl rfl (by omega) ?_ | refine G.bin rfl rfl rfl ?_
        refine G.mv rfl ?_
        refine WpOpsG.nil ?_
        refine ⟨⟨?_, rfl, trivial⟩, trivial, rfl⟩
        show some (GV.v (.int .i64 _)) = some (GV.v (.int .i64 (wrem n lo hi)))
        unfold wrem
        first | (rw [if_pos (by omega)]; done) | (rw [if_neg (by omega)]; done)
      · (try simp only [decide_eq_true_eq, decide_eq_false_iff_not, Bool.or_eq_true, Bool.and_eq_true, Bool.or_eq_false_iff, Bool.and_eq_false_iff, bne_iff_ne, beq_iff_eq, beq_eq_false_iff_ne, bne_eq_false_iff_eq, ne_eq, Bool.not_eq_true', Bool.not_eq_false', Int.not_lt, Int.not_le, Decidable.not_not, List.length_map, List.length_cons, List.length_nil] at hq3)
        refine WpG.skip ?_
        refine ⟨⟨?_, rfl, trivial⟩, trivial, rfl⟩
        show some (GV.v (.int .i64 _)) = some (GV.v (.int .i64 (wrem n lo hi)))
        unfold wrem
        first | (rw [if_pos (by omega)]; done) | (rw [if_neg (by omega)]; done)
    have hw := within_rng n lo hi hle
    have hwr : 0 ≤ wrem n lo hi ∧ wrem n lo hi ≤ hi - lo := by
      unfold wrem; split <;> omega
    change WpG _ _ _ _ _
    refine WpG.seq ?_
    refine WpG.reg ?_
    refine G.mv rfl ?_
    refine G.mv rfl ?_
    first | refine G.addI rfl rfl (by omega) ?_ | refine G.bin rfl rfl rfl ?_
    refine G.mv rfl ?_
    refine WpOpsG.nil ?_
    change WpG _ _ _ _ _
    refine WpG.ret ?_
    refine ⟨_, [], rfl, (hasP_le (by repeat (first | exact trivial | refine ⟨rfl, ?_⟩))), rfl, rfl, rfl, ?_⟩
    refine ⟨?_, rfl⟩
    unfold within; rw [if_neg (by omega)]; rfl
theorem few_w (C : List Ch) (hC : C.length ≤ 2 ^ 50) (hok : ∀ c ∈ C, okC c) : WpCallG A 10 [.fsl 6 (C.map encC)] [] (fun v H => v = .osl 0 ∧ H = [(0, .arr .yes 6 ((fewV C).map encC))]) := by
  refine WpCallG.intro g10 rfl rfl ?_
  unfold af10
  change WpG _ _ _ _ _
  refine WpG.seq ?_
  refine WpG.reg ?_
  refine G.mv rfl ?_
  refine WpOpsG.nil ?_
  change WpG _ _ _ _ _
  refine WpG.seq ?_
  refine WpG.reg ?_
  refine G.mv rfl ?_
  refine WpOpsG.nil ?_
  change WpG _ _ _ _ _
  refine WpG.seq ?_
  refine WpG.seq ?_
  refine WpG.reg ?_
  refine G.mv rfl ?_
  refine WpOpsG.nil ?_
  change WpG _ _ _ _ _
  refine WpG.block ?_
  refine WpG.ownNil (g := 0) (k := 3) (w := 6) rfl rfl ?_
  refine WpG.loop (S := Nat) (fun i => [(0, .fsl 6 (C.map encC)), (3, .osl 0), (4, .v (.int .i64 (i : Int)))]) (fun i => [(0, .arr .yes 6 (((C.take i).map fixC).map encC))]) (fun i => i ≤ C.length ∧ i ≤ 8) (fun i => 8 - i) (fun s => ⟨rfl, rfl⟩) ?_ 0 ?_ (by repeat (first | exact trivial | refine ⟨rfl, ?_⟩)) (by repeat (first | exact trivial | refine ⟨rfl, ?_⟩)) rfl
  · rintro i ⟨hI, hI8⟩
    refine WpG.seq ?_
    refine WpG.seq ?_
    refine WpG.reg ?_
    refine G.mv rfl ?_
    refine G.mv rfl ?_
    first | refine G.lenM rfl ?_ | refine G.lenOM rfl rfl ?_ | refine G.lenF rfl ?_ | refine G.lenO rfl rfl ?_ | refine G.lenNil rfl ?_
    refine G.bin rfl rfl rfl ?_
    refine G.mv rfl ?_
    apply G.andS rfl rfl rfl rfl rfl rfl
    case hB =>
      intro hs1
      (try simp only [decide_eq_true_eq, decide_eq_false_iff_not, Bool.or_eq_true, Bool.and_eq_true, Bool.or_eq_false_iff, Bool.and_eq_false_iff, bne_iff_ne, beq_iff_eq, beq_eq_false_iff_ne, bne_eq_false_iff_eq, ne_eq, Bool.not_eq_true', Bool.not_eq_false', Int.not_lt, Int.not_le, Decidable.not_not, List.length_map, List.length_cons, List.length_nil] at hs1)
      refine G.mv rfl ?_
      refine G.bin rfl rfl rfl ?_
      refine WpOpsG.nil ?_
      exact ⟨rfl, (by repeat (first | exact LLe.refl _ | refine LLe.cons rfl ?_)), (by repeat (first | exact HLe.refl _ | refine HLe.cons rfl ?_)), rfl⟩
    refine WpOpsG.nil ?_
    change WpG _ _ _ _ _
    refine WpG.cond rfl (fun hq2 => ?_) (fun hq2 => ?_)
    · (try simp only [decide_eq_true_eq, decide_eq_false_iff_not, Bool.or_eq_true, Bool.and_eq_true, Bool.or_eq_false_iff, Bool.and_eq_false_iff, bne_iff_ne, beq_iff_eq, beq_eq_false_iff_ne, bne_eq_false_iff_eq, ne_eq, Bool.not_eq_true', Bool.not_eq_false', Int.not_lt, Int.not_le, Decidable.not_not, List.length_map, List.length_cons, List.length_nil] at hq2)
      refine WpG.skip ?_
      change WpG _ _ _ _ _
      refine WpG.seq ?_
      refine WpG.block ?_
      refine WpG.seq ?_
      have hlt : i < C.length := by omega
      have hci := hok C[i] (List.getElem_mem hlt)
      refine WpG.reg ?_
      refine G.mv rfl ?_
      refine G.mv rfl ?_
      first | refine G.iaddrN rfl rfl (List.getElem?_eq_getElem (by first | omega | (simp only [List.length_map, List.length_append, List.length_cons, List.length_nil, List.length_replicate, List.length_take, List.length_drop, List.length_set]; omega))) ?_ | refine G.iaddrM rfl rfl (by omega) (List.getElem?_eq_getElem (by first | omega | (simp only [List.length_map, List.length_append, List.length_cons, List.length_nil, List.length_replicate, List.length_take, List.length_drop, List.length_set]; omega))) ?_ | refine G.iaddrF rfl rfl (by omega) rfl ?_ | refine G.iaddrO rfl rfl rfl (by omega) (by first | omega | (simp only [List.length_map, List.length_append, List.length_cons, List.length_nil, List.length_replicate, List.length_take, List.length_drop, List.length_set]; omega)) ?_ | refine G.iaddrF rfl rfl (by omega) (List.getElem?_eq_getElem (by first | omega | (simp only [List.length_map, List.length_append, List.length_cons, List.length_nil, List.length_replicate, List.length_take, List.length_drop, List.length_set]; omega))) ?_
      first | refine G.loadNB rfl rfl rfl ?_ | refine G.loadNF rfl rfl ?_ | refine G.loadNEM rfl rfl (List.getElem?_eq_getElem (by first | omega | (simp only [List.length_map, List.length_append, List.length_cons, List.length_nil, List.length_replicate, List.length_take, List.length_drop, List.length_set]; omega))) rfl ?_
      refine G.box (g := 10) rfl rfl rfl ?_
      first | refine G.storeB rfl rfl rfl rfl rfl rfl ?_ | refine G.storeEM rfl rfl rfl (List.getElem?_eq_getElem (by first | omega | (simp only [List.length_map, List.length_append, List.length_cons, List.length_nil, List.length_replicate, List.length_take, List.length_drop, List.length_set]; omega))) rfl rfl rfl rfl rfl ?_
      refine WpOpsG.nil ?_
      change WpG _ _ _ _ _
      refine WpG.seq ?_
      refine WpG.seq ?_
      refine WpG.reg ?_
      first | refine G.faddrB rfl ?_ | refine G.faddrF rfl ?_ | refine G.faddrE rfl ?_
      first | refine G.load1B rfl rfl rfl ?_ | refine G.load1F rfl rfl ?_ | refine G.load1E rfl rfl (List.getElem?_eq_getElem (by first | omega | (simp only [List.length_map, List.length_append, List.length_cons, List.length_nil, List.length_replicate, List.length_take, List.length_drop, List.length_set]; omega))) rfl ?_ | refine G.load1EM rfl rfl (List.getElem?_eq_getElem (by first | omega | (simp only [List.length_map, List.length_append, List.length_cons, List.length_nil, List.length_replicate, List.length_take, List.length_drop, List.length_set]; omega))) rfl ?_
      refine WpOpsG.nil ?_
      change WpG _ _ _ _ _
      refine WpG.cond rfl (fun hq3 => ?_) (fun hq3 => ?_)
      · (try simp only [decide_eq_true_eq, decide_eq_false_iff_not, Bool.or_eq_true, Bool.and_eq_true, Bool.or_eq_false_iff, Bool.and_eq_false_iff, bne_iff_ne, beq_iff_eq, beq_eq_false_iff_ne, bne_eq_false_iff_eq, ne_eq, Bool.not_eq_true', Bool.not_eq_false', Int.not_lt, Int.not_le, Decidable.not_not, List.length_map, List.length_cons, List.length_nil] at hq3)
        refine WpG.reg ?_
        first | refine G.faddrB rfl ?_ | refine G.faddrF rfl ?_ | refine G.faddrE rfl ?_
        first | refine G.load1B rfl rfl rfl ?_ | refine G.load1F rfl rfl ?_ | refine G.load1E rfl rfl (List.getElem?_eq_getElem (by first | omega | (simp only [List.length_map, List.length_append, List.length_cons, List.length_nil, List.length_replicate, List.length_take, List.length_drop, List.length_set]; omega))) rfl ?_ | refine G.load1EM rfl rfl (List.getElem?_eq_getElem (by first | omega | (simp only [List.length_map, List.length_append, List.length_cons, List.length_nil, List.length_replicate, List.length_take, List.length_drop, List.length_set]; omega))) rfl ?_
        refine G.call0 rfl rfl (within_ok C[i].cap 1 8 hci.2.2.1 (by decide) (by decide) (by decide)) ?_
        rintro _ _ ⟨rfl, rfl⟩
        refine ⟨rfl, ?_⟩
        change WpOpsG _ _ ((24, _) :: _) _ _
        first | refine G.faddrB rfl ?_ | refine G.faddrF rfl ?_ | refine G.faddrE rfl ?_
        first | refine G.storeB rfl rfl rfl rfl rfl rfl ?_ | refine G.storeEM rfl rfl rfl (List.getElem?_eq_getElem (by first | omega | (simp only [List.length_map, List.length_append, List.length_cons, List.length_nil, List.length_replicate, List.length_take, List.length_drop, List.length_set]; omega))) rfl rfl rfl rfl rfl ?_
        refine WpOpsG.nil ?_
        change WpG _ _ _ _ _
        refine WpG.reg ?_
        refine G.mv rfl ?_
        first | refine G.loadNB rfl rfl rfl ?_ | refine G.loadNF rfl rfl ?_ | refine G.loadNEM rfl rfl (List.getElem?_eq_getElem (by first | omega | (simp only [List.length_map, List.length_append, List.length_cons, List.length_nil, List.length_replicate, List.length_take, List.length_drop, List.length_set]; omega))) rfl ?_
        refine G.bsliceF rfl rfl rfl ?_
        refine G.app rfl rfl rfl rfl trivial (by simp only [List.length_map, List.length_take, List.length_cons, List.length_nil]; omega) ?_
        refine G.mv rfl ?_
        refine WpOpsG.nil ?_
        change WpG _ _ _ _ _
        refine WpG.reg ?_
        refine G.mv rfl ?_
        first | refine G.addI rfl rfl (by omega) ?_ | refine G.bin rfl rfl rfl ?_
        refine G.mv rfl ?_
        refine WpOpsG.nil ?_
        refine ⟨i + 1, by omega, ⟨by omega, by omega⟩, ⟨rfl, rfl, rfl, trivial⟩, ⟨?_, trivial⟩, rfl⟩
        rw [List.take_succ_eq_append_getElem hlt, List.map_append, List.map_append, List.map_cons, List.map_nil, List.map_cons, List.map_nil]
        first
          | (rw [encC_T hq3]; rfl)
          | (rw [encC_F hq3]; rfl)
      · (try simp only [decide_eq_true_eq, decide_eq_false_iff_not, Bool.or_eq_true, Bool.and_eq_true, Bool.or_eq_false_iff, Bool.and_eq_false_iff, bne_iff_ne, beq_iff_eq, beq_eq_false_iff_ne, bne_eq_false_iff_eq, ne_eq, Bool.not_eq_true', Bool.not_eq_false', Int.not_lt, Int.not_le, Decidable.not_not, List.length_map, List.length_cons, List.length_nil] at hq3)
        refine WpG.skip ?_
        change WpG _ _ _ _ _
        refine WpG.reg ?_
        refine G.mv rfl ?_
        first | refine G.loadNB rfl rfl rfl ?_ | refine G.loadNF rfl rfl ?_ | refine G.loadNEM rfl rfl (List.getElem?_eq_getElem (by first | omega | (simp only [List.length_map, List.length_append, List.length_cons, List.length_nil, List.length_replicate, List.length_take, List.length_drop, List.length_set]; omega))) rfl ?_
        refine G.bsliceF rfl rfl rfl ?_
        refine G.app rfl rfl rfl rfl trivial (by simp only [List.length_map, List.length_take, List.length_cons, List.length_nil]; omega) ?_
        refine G.mv rfl ?_
        refine WpOpsG.nil ?_
        change WpG _ _ _ _ _
        refine WpG.reg ?_
        refine G.mv rfl ?_
        first | refine G.addI rfl rfl (by omega) ?_ | refine G.bin rfl rfl rfl ?_
        refine G.mv rfl ?_
        refine WpOpsG.nil ?_
        refine ⟨i + 1, by omega, ⟨by omega, by omega⟩, ⟨rfl, rfl, rfl, trivial⟩, ⟨?_, trivial⟩, rfl⟩
        rw [List.take_succ_eq_append_getElem hlt, List.map_append, List.map_append, List.map_cons, List.map_nil, List.map_cons, List.map_nil]
        first
          | (rw [encC_T hq3]; rfl)
          | (rw [encC_F hq3]; rfl)
    · (try simp only [decide_eq_true_eq, decide_eq_false_iff_not, Bool.or_eq_true, Bool.and_eq_true, Bool.or_eq_false_iff, Bool.and_eq_false_iff, bne_iff_ne, beq_iff_eq, beq_eq_false_iff_ne, bne_eq_false_iff_eq, ne_eq, Bool.not_eq_true', Bool.not_eq_false', Int.not_lt, Int.not_le, Decidable.not_not, List.length_map, List.length_cons, List.length_nil] at hq2)
      refine WpG.exit ?_
      change WpG _ _ _ _ _
      refine WpG.seq ?_
      rw [show ((C.take i).map fixC) = fewV C by unfold fewV; congr 1; rw [List.take_eq_take_iff]; omega]
      refine WpG.reg ?_
      refine G.mv rfl ?_
      refine G.mv rfl ?_
      refine WpOpsG.nil ?_
      change WpG _ _ _ _ _
      refine WpG.ret ?_
      refine ⟨_, [(0, .arr .yes 6 ((fewV C).map encC))], rfl, (hasP_le (by repeat (first | exact trivial | refine ⟨rfl, ?_⟩))), rfl, rfl, rfl, ?_⟩
      exact ⟨rfl, rfl⟩
  · exact ⟨Nat.zero_le _, by decide⟩
theorem play_ok (C : List Ch) (l : List Askd) (hC : C.length ≤ 2 ^ 20) (hl : l.length ≤ 2 ^ 50) : WpCallG A 8 [.fsl 6 (C.map encC), .fsl 3 (l.map encA)] [] (fun v H => v = .v (.bool true) ∧ H = []) := by
  refine WpCallG.intro g8 rfl rfl ?_
  unfold af8
  change WpG _ _ _ _ _
  refine WpG.seq ?_
  refine WpG.reg ?_
  refine G.mv rfl ?_
  refine WpOpsG.nil ?_
  change WpG _ _ _ _ _
  refine WpG.seq ?_
  refine WpG.reg ?_
  refine G.mv rfl ?_
  refine G.call0 rfl rfl ((new_ok C (by omega)).ren [(0, 10), (1, 11)]) ?_
  rintro _ _ ⟨_, _, ⟨rfl, rfl⟩, rfl, rfl⟩
  change newOk _ _ [(10, .box [.fsl 6 (C.map encC), .msl 11]), (11, .mat 1 _)] = true ∧ _
  refine ⟨rfl, ?_⟩
  change WpOpsG _ _ ((15, .bptr 10 0) :: _) ([(10, .box [.fsl 6 (C.map encC), .msl 11]), (11, .mat 1 (encHas (List.replicate C.length [])))] ++ _) _
  refine G.mv rfl ?_
  refine G.call0 rfl rfl ((rnew_ok C (by omega)).ren [(0, 12), (1, 13)]) ?_
  rintro _ _ ⟨_, _, ⟨rfl, rfl⟩, rfl, rfl⟩
  change newOk _ _ [(12, .box [.fsl 6 (C.map encC), .msl 13]), (13, .mat 1 _)] = true ∧ _
  refine ⟨rfl, ?_⟩
  change WpOpsG _ _ ((17, .bptr 12 0) :: _) ([(12, .box [.fsl 6 (C.map encC), .msl 13]), (13, .mat 1 (encHas (List.replicate C.length [])))] ++ _) _
  refine G.mv rfl ?_
  refine G.mv rfl ?_
  refine WpOpsG.nil ?_
  change WpG _ _ _ _ _
  refine WpG.seq ?_
  refine WpG.seq ?_
  refine WpG.reg ?_
  refine G.mv rfl ?_
  refine WpOpsG.nil ?_
  change WpG _ _ _ _ _
  refine WpG.block ?_
  refine WpG.loop (S := Nat) (fun i => [(0, .fsl 6 (C.map encC)), (1, .fsl 3 (l.map encA)), (5, .bptr 10 0), (6, .bptr 12 0), (7, .v (.int .i64 (i : Int)))]) (fun i => [(10, .box [.fsl 6 (C.map encC), .msl 11]), (11, .mat 1 (encHas (playS C l i))), (12, .box [.fsl 6 (C.map encC), .msl 13]), (13, .mat 1 (encHas (playS C l i)))]) (fun i => i ≤ l.length ∧ i ≤ 100) (fun i => 100 - i) (fun s => ⟨rfl, rfl⟩) ?_ 0 ?_ (by repeat (first | exact trivial | refine ⟨rfl, ?_⟩)) (by repeat (first | exact trivial | refine ⟨rfl, ?_⟩)) rfl
  · rintro i ⟨hI, hI2⟩
    refine WpG.seq ?_
    refine WpG.seq ?_
    obtain ⟨hSl, hSm⟩ := play_inv C l i hI
    obtain ⟨S, hSS⟩ : ∃ S, playS C l i = S := ⟨_, rfl⟩
    rw [hSS] at hSl hSm ⊢
    refine WpG.reg ?_
    refine G.mv rfl ?_
    refine G.mv rfl ?_
    first | refine G.lenM rfl ?_ | refine G.lenOM rfl rfl ?_ | refine G.lenF rfl ?_ | refine G.lenO rfl rfl ?_ | refine G.lenNil rfl ?_
    refine G.bin rfl rfl rfl ?_
    refine G.mv rfl ?_
    apply G.andS rfl rfl rfl rfl rfl rfl
    case hB =>
      intro hs1
      (try simp only [decide_eq_true_eq, decide_eq_false_iff_not, Bool.or_eq_true, Bool.and_eq_true, Bool.or_eq_false_iff, Bool.and_eq_false_iff, bne_iff_ne, beq_iff_eq, beq_eq_false_iff_ne, bne_eq_false_iff_eq, ne_eq, Bool.not_eq_true', Bool.not_eq_false', Int.not_lt, Int.not_le, Decidable.not_not, List.length_map, List.length_cons, List.length_nil] at hs1)
      refine G.mv rfl ?_
      refine G.bin rfl rfl rfl ?_
      refine WpOpsG.nil ?_
      exact ⟨rfl, (by repeat (first | exact LLe.refl _ | refine LLe.cons rfl ?_)), (by repeat (first | exact HLe.refl _ | refine HLe.cons rfl ?_)), rfl⟩
    refine WpOpsG.nil ?_
    change WpG _ _ _ _ _
    refine WpG.cond rfl (fun hq2 => ?_) (fun hq2 => ?_)
    · (try simp only [decide_eq_true_eq, decide_eq_false_iff_not, Bool.or_eq_true, Bool.and_eq_true, Bool.or_eq_false_iff, Bool.and_eq_false_iff, bne_iff_ne, beq_iff_eq, beq_eq_false_iff_ne, bne_eq_false_iff_eq, ne_eq, Bool.not_eq_true', Bool.not_eq_false', Int.not_lt, Int.not_le, Decidable.not_not, List.length_map, List.length_cons, List.length_nil] at hq2)
      refine WpG.skip ?_
      change WpG _ _ _ _ _
      refine WpG.seq ?_
      refine WpG.block ?_
      refine WpG.seq ?_
      refine WpG.seq ?_
      refine WpG.reg ?_
      refine G.mv rfl ?_
      first | refine G.eqnilB rfl ?_ | refine G.eqnilP rfl ?_ | refine G.eqnilF rfl (fun hnil29 hnil29_e => ?_)
      refine WpOpsG.nil ?_
      change WpG _ _ _ _ _
      refine WpG.cond rfl (fun hq3 => absurd hq3 (by first | decide | simp)) (fun hq3 => ?_)
      refine WpG.skip ?_
      change WpG _ _ _ _ _
      refine WpG.seq ?_
      refine WpG.seq ?_
      have hil : i < l.length := by omega
      refine WpG.reg ?_
      refine G.mv rfl ?_
      refine G.mv rfl ?_
      first | refine G.iaddrN rfl rfl (List.getElem?_eq_getElem (by first | omega | (simp only [List.length_map, List.length_append, List.length_cons, List.length_nil, List.length_replicate, List.length_take, List.length_drop, List.length_set]; omega))) ?_ | refine G.iaddrM rfl rfl (by omega) (List.getElem?_eq_getElem (by first | omega | (simp only [List.length_map, List.length_append, List.length_cons, List.length_nil, List.length_replicate, List.length_take, List.length_drop, List.length_set]; omega))) ?_ | refine G.iaddrF rfl rfl (by omega) rfl ?_ | refine G.iaddrO rfl rfl rfl (by omega) (by first | omega | (simp only [List.length_map, List.length_append, List.length_cons, List.length_nil, List.length_replicate, List.length_take, List.length_drop, List.length_set]; omega)) ?_ | refine G.iaddrF rfl rfl (by omega) (List.getElem?_eq_getElem (by first | omega | (simp only [List.length_map, List.length_append, List.length_cons, List.length_nil, List.length_replicate, List.length_take, List.length_drop, List.length_set]; omega))) ?_
      first | refine G.faddrB rfl ?_ | refine G.faddrF rfl ?_ | refine G.faddrE rfl ?_
      first | refine G.load1B rfl rfl rfl ?_ | refine G.load1F rfl rfl ?_ | refine G.load1E rfl rfl (List.getElem?_eq_getElem (by first | omega | (simp only [List.length_map, List.length_append, List.length_cons, List.length_nil, List.length_replicate, List.length_take, List.length_drop, List.length_set]; omega))) rfl ?_ | refine G.load1EM rfl rfl (List.getElem?_eq_getElem (by first | omega | (simp only [List.length_map, List.length_append, List.length_cons, List.length_nil, List.length_replicate, List.length_take, List.length_drop, List.length_set]; omega))) rfl ?_
      refine G.bin rfl rfl rfl ?_
      refine WpOpsG.nil ?_
      change WpG _ _ _ _ _
      refine WpG.cond rfl (fun hq4 => ?_) (fun hq4 => ?_)
      · (try simp only [decide_eq_true_eq, decide_eq_false_iff_not, Bool.or_eq_true, Bool.and_eq_true, Bool.or_eq_false_iff, Bool.and_eq_false_iff, bne_iff_ne, beq_iff_eq, beq_eq_false_iff_ne, bne_eq_false_iff_eq, ne_eq, Bool.not_eq_true', Bool.not_eq_false', Int.not_lt, Int.not_le, Decidable.not_not, List.length_map, List.length_cons, List.length_nil] at hq4)
        refine WpG.seq ?_
        obtain ⟨S2, hS2⟩ : ∃ S2, recvS C S l[i].i = S2 := ⟨_, rfl⟩
        have hS2l : S2.length = C.length := by rw [← hS2, recv_len]; exact hSl
        have hS2m : smallS (i + 1) S2 := by rw [← hS2]; exact smallS_up (recv_small hSm _)
        refine WpG.reg ?_
        refine G.mv rfl ?_
        refine G.mv rfl ?_
        refine G.mv rfl ?_
        first | refine G.iaddrN rfl rfl (List.getElem?_eq_getElem (by first | omega | (simp only [List.length_map, List.length_append, List.length_cons, List.length_nil, List.length_replicate, List.length_take, List.length_drop, List.length_set]; omega))) ?_ | refine G.iaddrM rfl rfl (by omega) (List.getElem?_eq_getElem (by first | omega | (simp only [List.length_map, List.length_append, List.length_cons, List.length_nil, List.length_replicate, List.length_take, List.length_drop, List.length_set]; omega))) ?_ | refine G.iaddrF rfl rfl (by omega) rfl ?_ | refine G.iaddrO rfl rfl rfl (by omega) (by first | omega | (simp only [List.length_map, List.length_append, List.length_cons, List.length_nil, List.length_replicate, List.length_take, List.length_drop, List.length_set]; omega)) ?_ | refine G.iaddrF rfl rfl (by omega) (List.getElem?_eq_getElem (by first | omega | (simp only [List.length_map, List.length_append, List.length_cons, List.length_nil, List.length_replicate, List.length_take, List.length_drop, List.length_set]; omega))) ?_
        first | refine G.faddrB rfl ?_ | refine G.faddrF rfl ?_ | refine G.faddrE rfl ?_
        first | refine G.load1B rfl rfl rfl ?_ | refine G.load1F rfl rfl ?_ | refine G.load1E rfl rfl (List.getElem?_eq_getElem (by first | omega | (simp only [List.length_map, List.length_append, List.length_cons, List.length_nil, List.length_replicate, List.length_take, List.length_drop, List.length_set]; omega))) rfl ?_ | refine G.load1EM rfl rfl (List.getElem?_eq_getElem (by first | omega | (simp only [List.length_map, List.length_append, List.length_cons, List.length_nil, List.length_replicate, List.length_take, List.length_drop, List.length_set]; omega))) rfl ?_
        refine G.call (P := [(10, .box [.fsl 6 (C.map encC), .msl 11]), (11, .mat 1 (encHas S))]) rfl (by repeat (first | exact trivial | refine ⟨rfl, ?_⟩)) rfl rfl ((recv_ok C S l[i].i (by omega) (by omega) (smallS_le hSm (by omega))).ren [(1, 10), (2, 11)]) ?_
        rintro _ _ ⟨_, _, ⟨rfl, rfl⟩, rfl, rfl⟩
        rw [hS2]
        change newOk _ _ [(10, .box [.fsl 6 (C.map encC), .msl 11]), (11, .mat 1 (encHas S2))] = true ∧ _
        refine ⟨rfl, ?_⟩
        change WpOpsG _ _ ((43, _) :: _) ([(10, .box [.fsl 6 (C.map encC), .msl 11]), (11, .mat 1 (encHas S2))] ++ _) _
        refine G.mv rfl ?_
        refine G.ext rfl rfl ?_
        refine G.ext rfl rfl ?_
        refine G.mv rfl ?_
        refine G.mv rfl ?_
        refine WpOpsG.nil ?_
        change WpG _ _ _ _ _
        refine WpG.seq ?_
        refine WpG.reg ?_
        refine G.mv rfl ?_
        refine G.mv rfl ?_
        refine G.mv rfl ?_
        first | refine G.iaddrN rfl rfl (List.getElem?_eq_getElem (by first | omega | (simp only [List.length_map, List.length_append, List.length_cons, List.length_nil, List.length_replicate, List.length_take, List.length_drop, List.length_set]; omega))) ?_ | refine G.iaddrM rfl rfl (by omega) (List.getElem?_eq_getElem (by first | omega | (simp only [List.length_map, List.length_append, List.length_cons, List.length_nil, List.length_replicate, List.length_take, List.length_drop, List.length_set]; omega))) ?_ | refine G.iaddrF rfl rfl (by omega) rfl ?_ | refine G.iaddrO rfl rfl rfl (by omega) (by first | omega | (simp only [List.length_map, List.length_append, List.length_cons, List.length_nil, List.length_replicate, List.length_take, List.length_drop, List.length_set]; omega)) ?_ | refine G.iaddrF rfl rfl (by omega) (List.getElem?_eq_getElem (by first | omega | (simp only [List.length_map, List.length_append, List.length_cons, List.length_nil, List.length_replicate, List.length_take, List.length_drop, List.length_set]; omega))) ?_
        first | refine G.faddrB rfl ?_ | refine G.faddrF rfl ?_ | refine G.faddrE rfl ?_
        first | refine G.load1B rfl rfl rfl ?_ | refine G.load1F rfl rfl ?_ | refine G.load1E rfl rfl (List.getElem?_eq_getElem (by first | omega | (simp only [List.length_map, List.length_append, List.length_cons, List.length_nil, List.length_replicate, List.length_take, List.length_drop, List.length_set]; omega))) rfl ?_ | refine G.load1EM rfl rfl (List.getElem?_eq_getElem (by first | omega | (simp only [List.length_map, List.length_append, List.length_cons, List.length_nil, List.length_replicate, List.length_take, List.length_drop, List.length_set]; omega))) rfl ?_
        refine G.call (P := [(12, .box [.fsl 6 (C.map encC), .msl 13]), (13, .mat 1 (encHas S))]) rfl (by repeat (first | exact trivial | refine ⟨rfl, ?_⟩)) rfl rfl ((rrecv_ok C S l[i].i (by omega) (by omega) (smallS_le hSm (by omega))).ren [(1, 12), (2, 13)]) ?_
        rintro _ _ ⟨_, _, ⟨rfl, rfl⟩, rfl, rfl⟩
        rw [hS2]
        change newOk _ _ [(12, .box [.fsl 6 (C.map encC), .msl 13]), (13, .mat 1 (encHas S2))] = true ∧ _
        refine ⟨rfl, ?_⟩
        change WpOpsG _ _ ((53, _) :: _) ([(12, .box [.fsl 6 (C.map encC), .msl 13]), (13, .mat 1 (encHas S2))] ++ _) _
        refine G.mv rfl ?_
        refine G.ext rfl rfl ?_
        refine G.ext rfl rfl ?_
        refine G.mv rfl ?_
        refine G.mv rfl ?_
        refine WpOpsG.nil ?_
        change WpG _ _ _ _ _
        refine WpG.seq ?_
        refine WpG.reg ?_
        refine G.mv rfl ?_
        refine G.mv rfl ?_
        refine G.bin rfl rfl rfl ?_
        rw [bne_self_eq_false]
        refine G.mv rfl ?_
        refine WpOpsG.known 59 false rfl rfl ?_
        refine G.mv rfl ?_
        refine G.mv rfl ?_
        refine G.bin rfl rfl rfl ?_
        rw [bne_self_eq_false]
        first | refine G.pickT rfl rfl ?_ | refine G.pickF rfl rfl ?_ | refine G.pick rfl rfl rfl ?_
        refine WpOpsG.nil ?_
        change WpG _ _ _ _ _
        refine WpG.cond rfl (fun hq5 => absurd hq5 (by first | decide | simp)) (fun hq5 => ?_)
        refine WpG.skip ?_
        change WpG _ _ _ _ _
        refine WpG.seq ?_
        refine WpG.reg ?_
        refine G.mv rfl ?_
        refine G.mv rfl ?_
        refine G.mv rfl ?_
        first | refine G.lenM rfl ?_ | refine G.lenOM rfl rfl ?_ | refine G.lenF rfl ?_ | refine G.lenO rfl rfl ?_ | refine G.lenNil rfl ?_
        refine G.lend rfl rfl (same17_ok C S2 S2 (by omega) (by omega) (by omega) (smallS_le (by assumption) (by omega)) (smallS_le (by assumption) (by omega))) ?_
        rintro _ _ ⟨rfl, rfl⟩
        refine ⟨rfl, trivial, rfl, ?_⟩
        change WpOpsG _ _ ((93, _) :: _) _ _
        rw [decide_eq_true rfl]
        refine G.un rfl rfl ?_
        refine WpOpsG.nil ?_
        change WpG _ _ _ _ _
        refine WpG.cond rfl (fun hq6 => absurd hq6 (by first | decide | simp)) (fun hq6 => ?_)
        refine WpG.skip ?_
        change WpG _ _ _ _ _
        refine WpG.reg ?_
        refine G.mv rfl ?_
        first | refine G.addI rfl rfl (by omega) ?_ | refine G.bin rfl rfl rfl ?_
        refine G.mv rfl ?_
        refine WpOpsG.nil ?_
        refine ⟨i + 1, by omega, ⟨by omega, by omega⟩, ⟨rfl, rfl, rfl, rfl, rfl, trivial⟩, ⟨rfl, ?_, rfl, ?_, trivial⟩, rfl⟩ <;>
          first
            | (rw [play_T (by omega) (by omega), hSS, hS2]; rfl)
            | (rw [play_F (by omega) (by omega), hSS, hS2]; rfl)
      · (try simp only [decide_eq_true_eq, decide_eq_false_iff_not, Bool.or_eq_true, Bool.and_eq_true, Bool.or_eq_false_iff, Bool.and_eq_false_iff, bne_iff_ne, beq_iff_eq, beq_eq_false_iff_ne, bne_eq_false_iff_eq, ne_eq, Bool.not_eq_true', Bool.not_eq_false', Int.not_lt, Int.not_le, Decidable.not_not, List.length_map, List.length_cons, List.length_nil] at hq4)
        refine WpG.seq ?_
        obtain ⟨S2, hS2⟩ : ∃ S2, sendS C S l[i].i l[i].n = S2 := ⟨_, rfl⟩
        have hS2l : S2.length = C.length := by rw [← hS2, send_len]; exact hSl
        have hS2m : smallS (i + 1) S2 := by rw [← hS2]; exact send_small hSm _ _
        refine WpG.reg ?_
        refine G.mv rfl ?_
        refine G.mv rfl ?_
        refine G.mv rfl ?_
        first | refine G.iaddrN rfl rfl (List.getElem?_eq_getElem (by first | omega | (simp only [List.length_map, List.length_append, List.length_cons, List.length_nil, List.length_replicate, List.length_take, List.length_drop, List.length_set]; omega))) ?_ | refine G.iaddrM rfl rfl (by omega) (List.getElem?_eq_getElem (by first | omega | (simp only [List.length_map, List.length_append, List.length_cons, List.length_nil, List.length_replicate, List.length_take, List.length_drop, List.length_set]; omega))) ?_ | refine G.iaddrF rfl rfl (by omega) rfl ?_ | refine G.iaddrO rfl rfl rfl (by omega) (by first | omega | (simp only [List.length_map, List.length_append, List.length_cons, List.length_nil, List.length_replicate, List.length_take, List.length_drop, List.length_set]; omega)) ?_ | refine G.iaddrF rfl rfl (by omega) (List.getElem?_eq_getElem (by first | omega | (simp only [List.length_map, List.length_append, List.length_cons, List.length_nil, List.length_replicate, List.length_take, List.length_drop, List.length_set]; omega))) ?_
        first | refine G.faddrB rfl ?_ | refine G.faddrF rfl ?_ | refine G.faddrE rfl ?_
        first | refine G.load1B rfl rfl rfl ?_ | refine G.load1F rfl rfl ?_ | refine G.load1E rfl rfl (List.getElem?_eq_getElem (by first | omega | (simp only [List.length_map, List.length_append, List.length_cons, List.length_nil, List.length_replicate, List.length_take, List.length_drop, List.length_set]; omega))) rfl ?_ | refine G.load1EM rfl rfl (List.getElem?_eq_getElem (by first | omega | (simp only [List.length_map, List.length_append, List.length_cons, List.length_nil, List.length_replicate, List.length_take, List.length_drop, List.length_set]; omega))) rfl ?_
        refine G.mv rfl ?_
        refine G.mv rfl ?_
        first | refine G.iaddrN rfl rfl (List.getElem?_eq_getElem (by first | omega | (simp only [List.length_map, List.length_append, List.length_cons, List.length_nil, List.length_replicate, List.length_take, List.length_drop, List.length_set]; omega))) ?_ | refine G.iaddrM rfl rfl (by omega) (List.getElem?_eq_getElem (by first | omega | (simp only [List.length_map, List.length_append, List.length_cons, List.length_nil, List.length_replicate, List.length_take, List.length_drop, List.length_set]; omega))) ?_ | refine G.iaddrF rfl rfl (by omega) rfl ?_ | refine G.iaddrO rfl rfl rfl (by omega) (by first | omega | (simp only [List.length_map, List.length_append, List.length_cons, List.length_nil, List.length_replicate, List.length_take, List.length_drop, List.length_set]; omega)) ?_ | refine G.iaddrF rfl rfl (by omega) (List.getElem?_eq_getElem (by first | omega | (simp only [List.length_map, List.length_append, List.length_cons, List.length_nil, List.length_replicate, List.length_take, List.length_drop, List.length_set]; omega))) ?_
        first | refine G.faddrB rfl ?_ | refine G.faddrF rfl ?_ | refine G.faddrE rfl ?_
        first | refine G.load1B rfl rfl rfl ?_ | refine G.load1F rfl rfl ?_ | refine G.load1E rfl rfl (List.getElem?_eq_getElem (by first | omega | (simp only [List.length_map, List.length_append, List.length_cons, List.length_nil, List.length_replicate, List.length_take, List.length_drop, List.length_set]; omega))) rfl ?_ | refine G.load1EM rfl rfl (List.getElem?_eq_getElem (by first | omega | (simp only [List.length_map, List.length_append, List.length_cons, List.length_nil, List.length_replicate, List.length_take, List.length_drop, List.length_set]; omega))) rfl ?_
        refine G.mv rfl ?_
        refine G.mv rfl ?_
        first | refine G.iaddrN rfl rfl (List.getElem?_eq_getElem (by first | omega | (simp only [List.length_map, List.length_append, List.length_cons, List.length_nil, List.length_replicate, List.length_take, List.length_drop, List.length_set]; omega))) ?_ | refine G.iaddrM rfl rfl (by omega) (List.getElem?_eq_getElem (by first | omega | (simp only [List.length_map, List.length_append, List.length_cons, List.length_nil, List.length_replicate, List.length_take, List.length_drop, List.length_set]; omega))) ?_ | refine G.iaddrF rfl rfl (by omega) rfl ?_ | refine G.iaddrO rfl rfl rfl (by omega) (by first | omega | (simp only [List.length_map, List.length_append, List.length_cons, List.length_nil, List.length_replicate, List.length_take, List.length_drop, List.length_set]; omega)) ?_ | refine G.iaddrF rfl rfl (by omega) (List.getElem?_eq_getElem (by first | omega | (simp only [List.length_map, List.length_append, List.length_cons, List.length_nil, List.length_replicate, List.length_take, List.length_drop, List.length_set]; omega))) ?_
        first | refine G.faddrB rfl ?_ | refine G.faddrF rfl ?_ | refine G.faddrE rfl ?_
        first | refine G.load1B rfl rfl rfl ?_ | refine G.load1F rfl rfl ?_ | refine G.load1E rfl rfl (List.getElem?_eq_getElem (by first | omega | (simp only [List.length_map, List.length_append, List.length_cons, List.length_nil, List.length_replicate, List.length_take, List.length_drop, List.length_set]; omega))) rfl ?_ | refine G.load1EM rfl rfl (List.getElem?_eq_getElem (by first | omega | (simp only [List.length_map, List.length_append, List.length_cons, List.length_nil, List.length_replicate, List.length_take, List.length_drop, List.length_set]; omega))) rfl ?_
        refine G.mv rfl ?_
        refine G.mv rfl ?_
        first | refine G.iaddrN rfl rfl (List.getElem?_eq_getElem (by first | omega | (simp only [List.length_map, List.length_append, List.length_cons, List.length_nil, List.length_replicate, List.length_take, List.length_drop, List.length_set]; omega))) ?_ | refine G.iaddrM rfl rfl (by omega) (List.getElem?_eq_getElem (by first | omega | (simp only [List.length_map, List.length_append, List.length_cons, List.length_nil, List.length_replicate, List.length_take, List.length_drop, List.length_set]; omega))) ?_ | refine G.iaddrF rfl rfl (by omega) rfl ?_ | refine G.iaddrO rfl rfl rfl (by omega) (by first | omega | (simp only [List.length_map, List.length_append, List.length_cons, List.length_nil, List.length_replicate, List.length_take, List.length_drop, List.length_set]; omega)) ?_ | refine G.iaddrF rfl rfl (by omega) (List.getElem?_eq_getElem (by first | omega | (simp only [List.length_map, List.length_append, List.length_cons, List.length_nil, List.length_replicate, List.length_take, List.length_drop, List.length_set]; omega))) ?_
        first | refine G.faddrB rfl ?_ | refine G.faddrF rfl ?_ | refine G.faddrE rfl ?_
        first | refine G.load1B rfl rfl rfl ?_ | refine G.load1F rfl rfl ?_ | refine G.load1E rfl rfl (List.getElem?_eq_getElem (by first | omega | (simp only [List.length_map, List.length_append, List.length_cons, List.length_nil, List.length_replicate, List.length_take, List.length_drop, List.length_set]; omega))) rfl ?_ | refine G.load1EM rfl rfl (List.getElem?_eq_getElem (by first | omega | (simp only [List.length_map, List.length_append, List.length_cons, List.length_nil, List.length_replicate, List.length_take, List.length_drop, List.length_set]; omega))) rfl ?_
        refine G.ckcall (P := [(10, .box [.fsl 6 (C.map encC), .msl 11]), (11, .mat 1 (encHas S))]) rfl rfl (by repeat (first | exact trivial | refine ⟨rfl, ?_⟩)) rfl rfl ((send_ok C S l[i].i l[i].n (by omega) (by omega) (smallS_le hSm (by omega))).ren [(1, 10), (2, 11)]) ?_
        rintro _ _ ⟨_, _, ⟨rfl, rfl⟩, rfl, rfl⟩
        rw [hS2]
        change newOk _ _ [(10, .box [.fsl 6 (C.map encC), .msl 11]), (11, .mat 1 (encHas S2))] = true ∧ _
        refine ⟨rfl, ?_⟩
        change WpOpsG _ _ ((75, _) :: _) ([(10, .box [.fsl 6 (C.map encC), .msl 11]), (11, .mat 1 (encHas S2))] ++ _) _
        refine G.mv rfl ?_
        refine G.call (P := [(12, .box [.fsl 6 (C.map encC), .msl 13]), (13, .mat 1 (encHas S))]) rfl (by repeat (first | exact trivial | refine ⟨rfl, ?_⟩)) rfl rfl ((rsend_ok C S l[i].i l[i].n (by omega) (by omega) (smallS_le hSm (by omega))).ren [(1, 12), (2, 13)]) ?_
        rintro _ _ ⟨_, _, ⟨rfl, rfl⟩, rfl, rfl⟩
        rw [hS2]
        change newOk _ _ [(12, .box [.fsl 6 (C.map encC), .msl 13]), (13, .mat 1 (encHas S2))] = true ∧ _
        refine ⟨rfl, ?_⟩
        change WpOpsG _ _ ((87, _) :: _) ([(12, .box [.fsl 6 (C.map encC), .msl 13]), (13, .mat 1 (encHas S2))] ++ _) _
        refine G.bin rfl rfl rfl ?_
        rw [bne_self_eq_false]
        refine WpOpsG.nil ?_
        change WpG _ _ _ _ _
        refine WpG.cond rfl (fun hq7 => absurd hq7 (by first | decide | simp)) (fun hq7 => ?_)
        refine WpG.skip ?_
        change WpG _ _ _ _ _
        refine WpG.seq ?_
        refine WpG.reg ?_
        refine G.mv rfl ?_
        refine G.mv rfl ?_
        refine G.mv rfl ?_
        first | refine G.lenM rfl ?_ | refine G.lenOM rfl rfl ?_ | refine G.lenF rfl ?_ | refine G.lenO rfl rfl ?_ | refine G.lenNil rfl ?_
        refine G.lend rfl rfl (same17_ok C S2 S2 (by omega) (by omega) (by omega) (smallS_le (by assumption) (by omega)) (smallS_le (by assumption) (by omega))) ?_
        rintro _ _ ⟨rfl, rfl⟩
        refine ⟨rfl, trivial, rfl, ?_⟩
        change WpOpsG _ _ ((93, _) :: _) _ _
        rw [decide_eq_true rfl]
        refine G.un rfl rfl ?_
        refine WpOpsG.nil ?_
        change WpG _ _ _ _ _
        refine WpG.cond rfl (fun hq8 => absurd hq8 (by first | decide | simp)) (fun hq8 => ?_)
        refine WpG.skip ?_
        change WpG _ _ _ _ _
        refine WpG.reg ?_
        refine G.mv rfl ?_
        first | refine G.addI rfl rfl (by omega) ?_ | refine G.bin rfl rfl rfl ?_
        refine G.mv rfl ?_
        refine WpOpsG.nil ?_
        refine ⟨i + 1, by omega, ⟨by omega, by omega⟩, ⟨rfl, rfl, rfl, rfl, rfl, trivial⟩, ⟨rfl, ?_, rfl, ?_, trivial⟩, rfl⟩ <;>
          first
            | (rw [play_T (by omega) (by omega), hSS, hS2]; rfl)
            | (rw [play_F (by omega) (by omega), hSS, hS2]; rfl)
    · (try simp only [decide_eq_true_eq, decide_eq_false_iff_not, Bool.or_eq_true, Bool.and_eq_true, Bool.or_eq_false_iff, Bool.and_eq_false_iff, bne_iff_ne, beq_iff_eq, beq_eq_false_iff_ne, bne_eq_false_iff_eq, ne_eq, Bool.not_eq_true', Bool.not_eq_false', Int.not_lt, Int.not_le, Decidable.not_not, List.length_map, List.length_cons, List.length_nil] at hq2)
      refine WpG.exit ?_
      change WpG _ _ _ _ _
      refine WpG.seq ?_
      refine WpG.seq ?_
      refine WpG.reg ?_
      refine G.mv rfl ?_
      first | refine G.eqnilB rfl ?_ | refine G.eqnilP rfl ?_ | refine G.eqnilF rfl (fun hnil96 hnil96_e => ?_)
      refine WpOpsG.nil ?_
      change WpG _ _ _ _ _
      refine WpG.cond rfl (fun hq9 => absurd hq9 (by first | decide | simp)) (fun hq9 => ?_)
      refine WpG.skip ?_
      change WpG _ _ _ _ _
      refine WpG.seq ?_
      refine WpG.reg ?_
      refine G.mv rfl ?_
      refine G.call (P := [(10, .box [.fsl 6 (C.map encC), .msl 11]), (11, .mat 1 (encHas S))]) rfl (by repeat (first | exact trivial | refine ⟨rfl, ?_⟩)) rfl rfl ((copy_ok C S (by omega) (by omega) (smallS_le hSm (by omega))).ren [(1, 10), (2, 11), (0, 14), (3, 15)]) ?_
      rintro _ _ ⟨_, _, ⟨rfl, rfl⟩, rfl, rfl⟩
      change newOk _ _ [(14, .box [.fsl 6 (C.map encC), .msl 15]), (15, .mat 1 (encHas S)), (10, .box [.fsl 6 (C.map encC), .msl 11]), (11, .mat 1 (encHas S))] = true ∧ _
      refine ⟨rfl, ?_⟩
      change WpOpsG _ _ ((98, .bptr 14 0) :: _) ([(14, .box [.fsl 6 (C.map encC), .msl 15]), (15, .mat 1 (encHas S)), (10, .box [.fsl 6 (C.map encC), .msl 11]), (11, .mat 1 (encHas S))] ++ _) _
      refine G.mv rfl ?_
      refine WpOpsG.nil ?_
      change WpG _ _ _ _ _
      refine WpG.seq ?_
      refine WpG.seq ?_
      refine WpG.reg ?_
      refine G.mv rfl ?_
      first | refine G.eqnilB rfl ?_ | refine G.eqnilP rfl ?_ | refine G.eqnilF rfl (fun hnil100 hnil100_e => ?_)
      refine G.mv rfl ?_
      refine WpOpsG.known 101 false rfl rfl ?_
      refine G.mv rfl ?_
      refine G.mv rfl ?_
      refine G.lend rfl rfl (psame_ok C C S S (by omega) (by omega) (smallS_le hSm (by omega)) (smallS_le hSm (by omega))) ?_
      rintro _ _ ⟨rfl, rfl⟩
      refine ⟨rfl, trivial, rfl, ?_⟩
      change WpOpsG _ _ ((104, _) :: _) _ _
      rw [decide_eq_true rfl]
      refine G.un rfl rfl ?_
      first | refine G.pickT rfl rfl ?_ | refine G.pickF rfl rfl ?_ | refine G.pick rfl rfl rfl ?_
      refine G.mv rfl ?_
      refine WpOpsG.known 107 false rfl rfl ?_
      refine G.mv rfl ?_
      refine G.mv rfl ?_
      refine G.mv rfl ?_
      first | refine G.lenM rfl ?_ | refine G.lenOM rfl rfl ?_ | refine G.lenF rfl ?_ | refine G.lenO rfl rfl ?_ | refine G.lenNil rfl ?_
      refine G.lend rfl rfl (same17_ok C S S (by omega) (by omega) (by omega) (smallS_le (by assumption) (by omega)) (smallS_le (by assumption) (by omega))) ?_
      rintro _ _ ⟨rfl, rfl⟩
      refine ⟨rfl, trivial, rfl, ?_⟩
      change WpOpsG _ _ ((112, _) :: _) _ _
      rw [decide_eq_true rfl]
      refine G.un rfl rfl ?_
      first | refine G.pickT rfl rfl ?_ | refine G.pickF rfl rfl ?_ | refine G.pick rfl rfl rfl ?_
      refine WpOpsG.nil ?_
      change WpG _ _ _ _ _
      refine WpG.cond rfl (fun hq10 => absurd hq10 (by first | decide | simp)) (fun hq10 => ?_)
      refine WpG.skip ?_
      change WpG _ _ _ _ _
      refine WpG.seq ?_
      refine WpG.seq ?_
      refine WpG.reg ?_
      refine G.mv rfl ?_
      first | refine G.lenM rfl ?_ | refine G.lenOM rfl rfl ?_ | refine G.lenF rfl ?_ | refine G.lenO rfl rfl ?_ | refine G.lenNil rfl ?_
      refine G.mv rfl ?_
      refine WpOpsG.nil ?_
      change WpG _ _ _ _ _
      refine WpG.block ?_
      refine WpG.loop (S := Nat) (fun k => [(0, .fsl 6 (C.map encC)), (5, .bptr 10 0), (6, .bptr 12 0), (12, .bptr 14 0), (116, .v (.int .i64 (C.length : Int))), (117, .v (.int .i64 (k : Int)))]) (fun k => [(14, .box [.fsl 6 (C.map encC), .msl 15]), (15, .mat 1 (encHas S)), (10, .box [.fsl 6 (C.map encC), .msl 11]), (11, .mat 1 (encHas S)), (12, .box [.fsl 6 (C.map encC), .msl 13]), (13, .mat 1 (encHas S))]) (fun k => k ≤ C.length) (fun k => C.length - k) (fun s => ⟨rfl, rfl⟩) ?_ 0 ?_ (by repeat (first | exact trivial | refine ⟨rfl, ?_⟩)) (by repeat (first | exact trivial | refine ⟨rfl, ?_⟩)) rfl
      · intro k hk
        refine WpG.seq ?_
        refine WpG.reg ?_
        refine G.bin rfl rfl rfl ?_
        refine WpOpsG.nil ?_
        change WpG _ _ _ _ _
        refine WpG.seq ?_
        refine WpG.cond rfl (fun hq11 => ?_) (fun hq11 => ?_)
        · (try simp only [decide_eq_true_eq, decide_eq_false_iff_not, Bool.or_eq_true, Bool.and_eq_true, Bool.or_eq_false_iff, Bool.and_eq_false_iff, bne_iff_ne, beq_iff_eq, beq_eq_false_iff_ne, bne_eq_false_iff_eq, ne_eq, Bool.not_eq_true', Bool.not_eq_false', Int.not_lt, Int.not_le, Decidable.not_not, List.length_map, List.length_cons, List.length_nil] at hq11)
          refine WpG.skip ?_
          change WpG _ _ _ _ _
          refine WpG.seq ?_
          refine WpG.block ?_
          refine WpG.seq ?_
          refine WpG.reg ?_
          refine G.mv rfl ?_
          refine G.mv rfl ?_
          refine WpOpsG.nil ?_
          change WpG _ _ _ _ _
          refine WpG.seq ?_
          refine WpG.reg ?_
          refine G.mv rfl ?_
          refine G.mv rfl ?_
          first | refine G.iaddrN rfl rfl (List.getElem?_eq_getElem (by first | omega | (simp only [List.length_map, List.length_append, List.length_cons, List.length_nil, List.length_replicate, List.length_take, List.length_drop, List.length_set]; omega))) ?_ | refine G.iaddrM rfl rfl (by omega) (List.getElem?_eq_getElem (by first | omega | (simp only [List.length_map, List.length_append, List.length_cons, List.length_nil, List.length_replicate, List.length_take, List.length_drop, List.length_set]; omega))) ?_ | refine G.iaddrF rfl rfl (by omega) rfl ?_ | refine G.iaddrO rfl rfl rfl (by omega) (by first | omega | (simp only [List.length_map, List.length_append, List.length_cons, List.length_nil, List.length_replicate, List.length_take, List.length_drop, List.length_set]; omega)) ?_ | refine G.iaddrF rfl rfl (by omega) (List.getElem?_eq_getElem (by first | omega | (simp only [List.length_map, List.length_append, List.length_cons, List.length_nil, List.length_replicate, List.length_take, List.length_drop, List.length_set]; omega))) ?_
          first | refine G.faddrB rfl ?_ | refine G.faddrF rfl ?_ | refine G.faddrE rfl ?_
          first | refine G.load1B rfl rfl rfl ?_ | refine G.load1F rfl rfl ?_ | refine G.load1E rfl rfl (List.getElem?_eq_getElem (by first | omega | (simp only [List.length_map, List.length_append, List.length_cons, List.length_nil, List.length_replicate, List.length_take, List.length_drop, List.length_set]; omega))) rfl ?_ | refine G.load1EM rfl rfl (List.getElem?_eq_getElem (by first | omega | (simp only [List.length_map, List.length_append, List.length_cons, List.length_nil, List.length_replicate, List.length_take, List.length_drop, List.length_set]; omega))) rfl ?_
          refine G.bin rfl rfl rfl ?_
          refine G.mv rfl ?_
          apply G.andS rfl rfl rfl rfl rfl rfl
          case hB =>
            intro hs12
            (try simp only [decide_eq_true_eq, decide_eq_false_iff_not, Bool.or_eq_true, Bool.and_eq_true, Bool.or_eq_false_iff, Bool.and_eq_false_iff, bne_iff_ne, beq_iff_eq, beq_eq_false_iff_ne, bne_eq_false_iff_eq, ne_eq, Bool.not_eq_true', Bool.not_eq_false', Int.not_lt, Int.not_le, Decidable.not_not, List.length_map, List.length_cons, List.length_nil] at hs12)
            refine G.mv rfl ?_
            refine G.mv rfl ?_
            first | refine G.iaddrN rfl rfl (List.getElem?_eq_getElem (by first | omega | (simp only [List.length_map, List.length_append, List.length_cons, List.length_nil, List.length_replicate, List.length_take, List.length_drop, List.length_set]; omega))) ?_ | refine G.iaddrM rfl rfl (by omega) (List.getElem?_eq_getElem (by first | omega | (simp only [List.length_map, List.length_append, List.length_cons, List.length_nil, List.length_replicate, List.length_take, List.length_drop, List.length_set]; omega))) ?_ | refine G.iaddrF rfl rfl (by omega) rfl ?_ | refine G.iaddrO rfl rfl rfl (by omega) (by first | omega | (simp only [List.length_map, List.length_append, List.length_cons, List.length_nil, List.length_replicate, List.length_take, List.length_drop, List.length_set]; omega)) ?_ | refine G.iaddrF rfl rfl (by omega) (List.getElem?_eq_getElem (by first | omega | (simp only [List.length_map, List.length_append, List.length_cons, List.length_nil, List.length_replicate, List.length_take, List.length_drop, List.length_set]; omega))) ?_
            first | refine G.faddrB rfl ?_ | refine G.faddrF rfl ?_ | refine G.faddrE rfl ?_
            first | refine G.load1B rfl rfl rfl ?_ | refine G.load1F rfl rfl ?_ | refine G.load1E rfl rfl (List.getElem?_eq_getElem (by first | omega | (simp only [List.length_map, List.length_append, List.length_cons, List.length_nil, List.length_replicate, List.length_take, List.length_drop, List.length_set]; omega))) rfl ?_ | refine G.load1EM rfl rfl (List.getElem?_eq_getElem (by first | omega | (simp only [List.length_map, List.length_append, List.length_cons, List.length_nil, List.length_replicate, List.length_take, List.length_drop, List.length_set]; omega))) rfl ?_
            refine G.un rfl rfl ?_
            refine G.mv rfl ?_
            apply G.orS rfl rfl rfl rfl rfl rfl
            case hB =>
              intro hs13
              (try simp only [decide_eq_true_eq, decide_eq_false_iff_not, Bool.or_eq_true, Bool.and_eq_true, Bool.or_eq_false_iff, Bool.and_eq_false_iff, bne_iff_ne, beq_iff_eq, beq_eq_false_iff_ne, bne_eq_false_iff_eq, ne_eq, Bool.not_eq_true', Bool.not_eq_false', Int.not_lt, Int.not_le, Decidable.not_not, List.length_map, List.length_cons, List.length_nil] at hs13)
              refine G.mv rfl ?_
              first | refine G.nilcB rfl ?_ | refine G.nilcF rfl ?_ | refine G.nilcE rfl ?_ | refine G.nilcFn rfl ?_
              first | refine G.faddrB rfl ?_ | refine G.faddrF rfl ?_ | refine G.faddrE rfl ?_
              first | refine G.load1B rfl rfl rfl ?_ | refine G.load1F rfl rfl ?_ | refine G.load1E rfl rfl (List.getElem?_eq_getElem (by first | omega | (simp only [List.length_map, List.length_append, List.length_cons, List.length_nil, List.length_replicate, List.length_take, List.length_drop, List.length_set]; omega))) rfl ?_ | refine G.load1EM rfl rfl (List.getElem?_eq_getElem (by first | omega | (simp only [List.length_map, List.length_append, List.length_cons, List.length_nil, List.length_replicate, List.length_take, List.length_drop, List.length_set]; omega))) rfl ?_
              refine G.mv rfl ?_
              refine G.iaddrMt rfl rfl rfl (by omega) (by rw [has_len]; omega) ?_
              rw [Int.toNat_natCast]
              refine G.load1Mt rfl rfl (has_at (by omega)) ?_
              refine G.lenR rfl rfl (has_at (by omega)) ?_
              rw [List.length_map]
              refine G.mv rfl ?_
              refine G.mv rfl ?_
              first | refine G.iaddrN rfl rfl (List.getElem?_eq_getElem (by first | omega | (simp only [List.length_map, List.length_append, List.length_cons, List.length_nil, List.length_replicate, List.length_take, List.length_drop, List.length_set]; omega))) ?_ | refine G.iaddrM rfl rfl (by omega) (List.getElem?_eq_getElem (by first | omega | (simp only [List.length_map, List.length_append, List.length_cons, List.length_nil, List.length_replicate, List.length_take, List.length_drop, List.length_set]; omega))) ?_ | refine G.iaddrF rfl rfl (by omega) rfl ?_ | refine G.iaddrO rfl rfl rfl (by omega) (by first | omega | (simp only [List.length_map, List.length_append, List.length_cons, List.length_nil, List.length_replicate, List.length_take, List.length_drop, List.length_set]; omega)) ?_ | refine G.iaddrF rfl rfl (by omega) (List.getElem?_eq_getElem (by first | omega | (simp only [List.length_map, List.length_append, List.length_cons, List.length_nil, List.length_replicate, List.length_take, List.length_drop, List.length_set]; omega))) ?_
              first | refine G.faddrB rfl ?_ | refine G.faddrF rfl ?_ | refine G.faddrE rfl ?_
              first | refine G.load1B rfl rfl rfl ?_ | refine G.load1F rfl rfl ?_ | refine G.load1E rfl rfl (List.getElem?_eq_getElem (by first | omega | (simp only [List.length_map, List.length_append, List.length_cons, List.length_nil, List.length_replicate, List.length_take, List.length_drop, List.length_set]; omega))) rfl ?_ | refine G.load1EM rfl rfl (List.getElem?_eq_getElem (by first | omega | (simp only [List.length_map, List.length_append, List.length_cons, List.length_nil, List.length_replicate, List.length_take, List.length_drop, List.length_set]; omega))) rfl ?_
              refine G.bin rfl rfl rfl ?_
              refine WpOpsG.nil ?_
              exact ⟨rfl, (by repeat (first | exact LLe.refl _ | refine LLe.cons rfl ?_)), (by repeat (first | exact HLe.refl _ | refine HLe.cons rfl ?_)), rfl⟩
            refine WpOpsG.nil ?_
            exact ⟨rfl, (by repeat (first | exact LLe.refl _ | refine LLe.cons rfl ?_)), (by repeat (first | exact HLe.refl _ | refine HLe.cons rfl ?_)), rfl⟩
          refine WpOpsG.nil ?_
          change WpG _ _ _ _ _
          refine WpG.cond rfl (fun hq14 => ?_) (fun hq14 => ?_)
          · (try simp only [decide_eq_true_eq, decide_eq_false_iff_not, Bool.or_eq_true, Bool.and_eq_true, Bool.or_eq_false_iff, Bool.and_eq_false_iff, bne_iff_ne, beq_iff_eq, beq_eq_false_iff_ne, bne_eq_false_iff_eq, ne_eq, Bool.not_eq_true', Bool.not_eq_false', Int.not_lt, Int.not_le, Decidable.not_not, List.length_map, List.length_cons, List.length_nil] at hq14)
            refine WpG.seq ?_
            obtain ⟨S2, hS2⟩ : ∃ S2, sendS C S (k : Int) 1 = S2 := ⟨_, rfl⟩
            have hS2l : S2.length = C.length := by rw [← hS2, send_len]; exact hSl
            have hS2m : smallS (i + 1) S2 := by rw [← hS2]; exact send_small hSm _ _
            refine WpG.reg ?_
            refine G.mv rfl ?_
            refine G.mv rfl ?_
            refine G.call (P := [(14, .box [.fsl 6 (C.map encC), .msl 15]), (15, .mat 1 (encHas S))]) rfl (by repeat (first | exact trivial | refine ⟨rfl, ?_⟩)) rfl rfl ((send_ok C S (k : Int) 1 (by omega) (by omega) (smallS_le hSm (by omega))).ren [(1, 14), (2, 15)]) ?_
            rintro _ _ ⟨_, _, ⟨rfl, rfl⟩, rfl, rfl⟩
            rw [hS2]
            change newOk _ _ [(14, .box [.fsl 6 (C.map encC), .msl 15]), (15, .mat 1 (encHas S2))] = true ∧ _
            refine ⟨rfl, ?_⟩
            change WpOpsG _ _ ((152, _) :: _) ([(14, .box [.fsl 6 (C.map encC), .msl 15]), (15, .mat 1 (encHas S2))] ++ _) _
            refine WpOpsG.nil ?_
            change WpG _ _ _ _ _
            refine WpG.seq ?_
            refine WpG.reg ?_
            refine G.mv rfl ?_
            refine G.mv rfl ?_
            refine G.call (P := [(12, .box [.fsl 6 (C.map encC), .msl 13]), (13, .mat 1 (encHas S))]) rfl (by repeat (first | exact trivial | refine ⟨rfl, ?_⟩)) rfl rfl ((rsend_ok C S (k : Int) 1 (by omega) (by omega) (smallS_le hSm (by omega))).ren [(1, 12), (2, 13)]) ?_
            rintro _ _ ⟨_, _, ⟨rfl, rfl⟩, rfl, rfl⟩
            rw [hS2]
            change newOk _ _ [(12, .box [.fsl 6 (C.map encC), .msl 13]), (13, .mat 1 (encHas S2))] = true ∧ _
            refine ⟨rfl, ?_⟩
            change WpOpsG _ _ ((155, _) :: _) ([(12, .box [.fsl 6 (C.map encC), .msl 13]), (13, .mat 1 (encHas S2))] ++ _) _
            refine WpOpsG.nil ?_
            change WpG _ _ _ _ _
            refine WpG.seq ?_
            refine WpG.reg ?_
            refine G.mv rfl ?_
            refine G.mv rfl ?_
            refine G.mv rfl ?_
            first | refine G.lenM rfl ?_ | refine G.lenOM rfl rfl ?_ | refine G.lenF rfl ?_ | refine G.lenO rfl rfl ?_ | refine G.lenNil rfl ?_
            refine G.lend rfl rfl (same17_ok C S2 S2 (by omega) (by omega) (by omega) (smallS_le (by assumption) (by omega)) (smallS_le (by assumption) (by omega))) ?_
            rintro _ _ ⟨rfl, rfl⟩
            refine ⟨rfl, trivial, rfl, ?_⟩
            change WpOpsG _ _ ((160, _) :: _) _ _
            rw [decide_eq_true rfl]
            refine G.mv rfl ?_
            refine WpOpsG.known 161 true rfl rfl ?_
            refine G.mv rfl ?_
            refine G.mv rfl ?_
            refine G.lend rfl rfl (psame_ok C C S S2 (by omega) (by omega) (smallS_le hSm (by omega)) (smallS_le hS2m (by omega))) ?_
            rintro _ _ ⟨rfl, rfl⟩
            refine ⟨rfl, trivial, rfl, ?_⟩
            change WpOpsG _ _ ((164, _) :: _) _ _
            refine G.mv rfl ?_
            refine G.mv rfl ?_
            refine G.mv rfl ?_
            first | refine G.lenM rfl ?_ | refine G.lenOM rfl rfl ?_ | refine G.lenF rfl ?_ | refine G.lenO rfl rfl ?_ | refine G.lenNil rfl ?_
            refine G.lend rfl rfl (same17_ok C S S2 (by omega) (by omega) (by omega) (smallS_le (by assumption) (by omega)) (smallS_le (by assumption) (by omega))) ?_
            rintro _ _ ⟨rfl, rfl⟩
            refine ⟨rfl, trivial, rfl, ?_⟩
            change WpOpsG _ _ ((169, _) :: _) _ _
            refine G.beq rfl rfl rfl ?_
            rw [beq_self_eq_true]
            first | refine G.pickT rfl rfl ?_ | refine G.pickF rfl rfl ?_ | refine G.pick rfl rfl rfl ?_
            refine G.mv rfl ?_
            refine WpOpsG.nil ?_
            change WpG _ _ _ _ _
            refine WpG.ret ?_
            refine ⟨_, [], rfl, (hasP_le (by repeat (first | exact trivial | refine ⟨rfl, ?_⟩))), rfl, rfl, rfl, ?_⟩
            exact ⟨rfl, rfl⟩
          · (try simp only [decide_eq_true_eq, decide_eq_false_iff_not, Bool.or_eq_true, Bool.and_eq_true, Bool.or_eq_false_iff, Bool.and_eq_false_iff, bne_iff_ne, beq_iff_eq, beq_eq_false_iff_ne, bne_eq_false_iff_eq, ne_eq, Bool.not_eq_true', Bool.not_eq_false', Int.not_lt, Int.not_le, Decidable.not_not, List.length_map, List.length_cons, List.length_nil] at hq14)
            refine WpG.skip ?_
            change WpG _ _ _ _ _
            refine WpG.reg ?_
            first | refine G.addI rfl rfl (by omega) ?_ | refine G.bin rfl rfl rfl ?_
            refine G.mv rfl ?_
            refine WpOpsG.nil ?_
            exact ⟨k + 1, by omega, by omega, ⟨rfl, rfl, rfl, rfl, rfl, rfl, trivial⟩, ⟨rfl, rfl, rfl, rfl, rfl, rfl, trivial⟩, rfl⟩
        · (try simp only [decide_eq_true_eq, decide_eq_false_iff_not, Bool.or_eq_true, Bool.and_eq_true, Bool.or_eq_false_iff, Bool.and_eq_false_iff, bne_iff_ne, beq_iff_eq, beq_eq_false_iff_ne, bne_eq_false_iff_eq, ne_eq, Bool.not_eq_true', Bool.not_eq_false', Int.not_lt, Int.not_le, Decidable.not_not, List.length_map, List.length_cons, List.length_nil] at hq11)
          refine WpG.exit ?_
          change WpG _ _ _ _ _
          refine WpG.seq ?_
          refine WpG.reg ?_
          refine G.mv rfl ?_
          refine WpOpsG.nil ?_
          change WpG _ _ _ _ _
          refine WpG.ret ?_
          refine ⟨_, [], rfl, (hasP_le (by repeat (first | exact trivial | refine ⟨rfl, ?_⟩))), rfl, rfl, rfl, ?_⟩
          exact ⟨rfl, rfl⟩
      · exact Nat.zero_le _
  · exact ⟨Nat.zero_le _, by decide⟩
end Go.AM.L17
