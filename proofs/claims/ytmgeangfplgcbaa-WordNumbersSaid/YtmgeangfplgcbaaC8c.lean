/- Contracts of the functions that the statement reaches. No condition. -/
import Derived.Test.YtmgeangfplgcbaaC8b
import Derived.Test.YtmgeangfplgcbaaPL1b
set_option linter.all false
set_option maxRecDepth 10000
namespace Go.AM.L8
open Go.AM.PL
theorem within_ok (n lo hi : Int) (hn : -2 ^ 63 ≤ n ∧ n < 2 ^ 63) (hlo : -1099511627776 ≤ lo) (hle : lo ≤ hi) (hhi : hi ≤ 2 ^ 50)  : WpCallG A 16 [.v (.int .i64 n), .v (.int .i64 lo), .v (.int .i64 hi)] [] (fun v H => v = .v (.int .i64 (within n lo hi)) ∧ H = []) := by
  have h1 := Int.tmod_lt_of_pos n (show 0 < hi - lo + 1 by omega)
  have h2 := Int.lt_tmod_of_pos n (show 0 < hi - lo + 1 by omega)
  refine WpCallG.intro g16 rfl rfl ?_
  unfold af16
  change WpG _ _ _ _ _
  refine WpG.seq ?_
  refine WpG.reg ?_
  refine G.mv rfl ?_
  refine WpOpsG.nil ?_
  change WpG _ _ _ _ _
  refine WpG.seq ?_
  refine WpG.seq ?_
  refine WpG.reg ?_
  refine G.mv rfl ?_
  refine G.mv rfl ?_
  refine G.bin rfl rfl rfl ?_
  refine G.mv rfl ?_
  apply G.andS rfl rfl rfl rfl rfl rfl
  case hB =>
    intro hs1
    (try simp only [decide_eq_true_eq, decide_eq_false_iff_not, Bool.or_eq_true, Bool.and_eq_true, Bool.or_eq_false_iff, Bool.and_eq_false_iff, bne_iff_ne, beq_iff_eq, beq_eq_false_iff_ne, bne_eq_false_iff_eq, ne_eq, Bool.not_eq_true', Bool.not_eq_false', Int.not_lt, Int.not_le, Decidable.not_not, List.length_map, List.length_cons, List.length_nil] at hs1)
    refine G.mv rfl ?_
    refine G.mv rfl ?_
    refine G.bin rfl rfl rfl ?_
    refine WpOpsG.nil ?_
    exact ⟨rfl, (by repeat (first | exact LLe.refl _ | refine LLe.cons rfl ?_)), (by repeat (first | exact HLe.refl _ | refine HLe.cons rfl ?_)), rfl⟩
  refine WpOpsG.nil ?_
  change WpG _ _ _ _ _
  refine WpG.cond rfl (fun hq2 => ?_) (fun hq2 => ?_)
  · (try simp only [decide_eq_true_eq, decide_eq_false_iff_not, Bool.or_eq_true, Bool.and_eq_true, Bool.or_eq_false_iff, Bool.and_eq_false_iff, bne_iff_ne, beq_iff_eq, beq_eq_false_iff_ne, bne_eq_false_iff_eq, ne_eq, Bool.not_eq_true', Bool.not_eq_false', Int.not_lt, Int.not_le, Decidable.not_not, List.length_map, List.length_cons, List.length_nil] at hq2)
    refine WpG.seq ?_
    refine WpG.reg ?_
    refine G.mv rfl ?_
    refine G.mv rfl ?_
    refine WpOpsG.nil ?_
    change WpG _ _ _ _ _
    refine WpG.ret ?_
    refine ⟨_, [], rfl, (hasP_le (by repeat (first | exact trivial | refine ⟨rfl, ?_⟩))), rfl, rfl, rfl, ?_⟩
    refine ⟨?_, rfl⟩
    unfold within; rw [if_pos (by omega)]; rfl
  · (try simp only [decide_eq_true_eq, decide_eq_false_iff_not, Bool.or_eq_true, Bool.and_eq_true, Bool.or_eq_false_iff, Bool.and_eq_false_iff, bne_iff_ne, beq_iff_eq, beq_eq_false_iff_ne, bne_eq_false_iff_eq, ne_eq, Bool.not_eq_true', Bool.not_eq_false', Int.not_lt, Int.not_le, Decidable.not_not, List.length_map, List.length_cons, List.length_nil] at hq2)
    refine WpG.skip ?_
    change WpG _ _ _ _ _
    refine WpG.seq ?_
    refine WpG.reg ?_
    refine G.mv rfl ?_
    refine G.mv rfl ?_
    refine G.mv rfl ?_
    first | refine G.subI rfl rfl (by omega) ?_ | refine G.bin rfl rfl rfl ?_
    first | refine G.addI rfl rfl (by omega) ?_ | refine G.bin rfl rfl rfl ?_
    refine G.remP rfl rfl (by omega) ?_
    refine G.mv rfl ?_
    refine WpOpsG.nil ?_
    change WpG _ _ _ _ _
    refine WpG.seqJ ([(0, .v (.int .i64 (wrem n lo hi))), (1, .v (.int .i64 lo))]) ([]) ⟨rfl, rfl⟩ ?_ ?_
    · change WpG _ _ _ _ _
      refine WpG.seq ?_
      refine WpG.reg ?_
      refine G.mv rfl ?_
      refine G.bin rfl rfl rfl ?_
      refine WpOpsG.nil ?_
      change WpG _ _ _ _ _
      refine WpG.cond rfl (fun hq3 => ?_) (fun hq3 => ?_)
      · (try simp only [decide_eq_true_eq, decide_eq_false_iff_not, Bool.or_eq_true, Bool.and_eq_true, Bool.or_eq_false_iff, Bool.and_eq_false_iff, bne_iff_ne, beq_iff_eq, beq_eq_false_iff_ne, bne_eq_false_iff_eq, ne_eq, Bool.not_eq_true', Bool.not_eq_false', Int.not_lt, Int.not_le, Decidable.not_not, List.length_map, List.length_cons, List.length_nil] at hq3)
        refine WpG.reg ?_
        refine G.mv rfl ?_
        refine G.mv rfl ?_
        first | refine G.addI rfl rfl (by omega) ?_ | refine G.bin rfl rfl rfl ?_
        refine G.mv rfl ?_
        first | refine G.subI rfl rfl (by omega) ?_ | refine G.bin rfl rfl rfl ?_
        first | refine G.addI rfl rfl (by omega) ?_ | refine G.bin rfl rfl rfl ?_
        refine G.mv rfl ?_
        refine WpOpsG.nil ?_
        refine ⟨⟨?_, rfl, trivial⟩, trivial, rfl⟩
        show some (GV.v (.int .i64 _)) = some (GV.v (.int .i64 (wrem n lo hi)))
        unfold wrem
        first | (rw [if_pos (by omega)]; done) | (rw [if_neg (by omega)]; done)
      · (try simp only [decide_eq_true_eq, decide_eq_false_iff_not, Bool.or_eq_true, Bool.and_eq_true, Bool.or_eq_false_iff, Bool.and_eq_false_iff, bne_iff_ne, beq_iff_eq, beq_eq_false_iff_ne, bne_eq_false_iff_eq, ne_eq, Bool.not_eq_true', Bool.not_eq_false', Int.not_lt, Int.not_le, Decidable.not_not, List.length_map, List.length_cons, List.length_nil] at hq3)
        refine WpG.skip ?_
        refine ⟨⟨?_, rfl, trivial⟩, trivial, rfl⟩
        show some (GV.v (.int .i64 _)) = some (GV.v (.int .i64 (wrem n lo hi)))
        unfold wrem
        first | (rw [if_pos (by omega)]; done) | (rw [if_neg (by omega)]; done)
    have hw := within_rng n lo hi hle
    have hwr : 0 ≤ wrem n lo hi ∧ wrem n lo hi ≤ hi - lo := by
      unfold wrem; split <;> omega
    change WpG _ _ _ _ _
    refine WpG.seq ?_
    refine WpG.reg ?_
    refine G.mv rfl ?_
    refine G.mv rfl ?_
    first | refine G.addI rfl rfl (by omega) ?_ | refine G.bin rfl rfl rfl ?_
    refine G.mv rfl ?_
    refine WpOpsG.nil ?_
    change WpG _ _ _ _ _
    refine WpG.ret ?_
    refine ⟨_, [], rfl, (hasP_le (by repeat (first | exact trivial | refine ⟨rfl, ?_⟩))), rfl, rfl, rfl, ?_⟩
    refine ⟨?_, rfl⟩
    unfold within; rw [if_neg (by omega)]; rfl
theorem next_ok (t : List Int) (a : Nat) (n : Int) (ht : t.length ≤ 2 ^ 50) (hi : ∀ x ∈ t, i64 x) (ha : a ≤ t.length) (hn : n ≤ 2 ^ 50) : WpCallG A 24 [.bptr 0 0, .v (.int .i64 n)] [(0, tbox t a)] (fun v H => v = .v (.int .i64 (nx t a n)) ∧ H = [(0, tbox t (na t a n))]) := by
  refine WpCallG.intro g24 rfl rfl ?_
  unfold af24
  change WpG _ _ _ _ _
  refine WpG.seq ?_
  refine WpG.reg ?_
  refine G.mv rfl ?_
  refine WpOpsG.nil ?_
  change WpG _ _ _ _ _
  refine WpG.seq ?_
  refine WpG.seq ?_
  refine WpG.reg ?_
  refine G.mv rfl ?_
  first | refine G.nilcB rfl ?_ | refine G.nilcF rfl ?_ | refine G.nilcE rfl ?_ | refine G.nilcFn rfl ?_
  first | refine G.faddrB rfl ?_ | refine G.faddrF rfl ?_ | refine G.faddrE rfl ?_
  first | refine G.load1B rfl rfl rfl ?_ | refine G.load1F rfl rfl ?_ | refine G.load1E rfl rfl (List.getElem?_eq_getElem (by first | omega | (simp only [List.length_map, List.length_append, List.length_cons, List.length_nil, List.length_replicate, List.length_take, List.length_drop, List.length_set]; omega))) rfl ?_ | refine G.load1EM rfl rfl (List.getElem?_eq_getElem (by first | omega | (simp only [List.length_map, List.length_append, List.length_cons, List.length_nil, List.length_replicate, List.length_take, List.length_drop, List.length_set]; omega))) rfl ?_
  refine G.mv rfl ?_
  first | refine G.nilcB rfl ?_ | refine G.nilcF rfl ?_ | refine G.nilcE rfl ?_ | refine G.nilcFn rfl ?_
  first | refine G.faddrB rfl ?_ | refine G.faddrF rfl ?_ | refine G.faddrE rfl ?_
  first | refine G.load1B rfl rfl rfl ?_ | refine G.load1F rfl rfl ?_ | refine G.load1E rfl rfl (List.getElem?_eq_getElem (by first | omega | (simp only [List.length_map, List.length_append, List.length_cons, List.length_nil, List.length_replicate, List.length_take, List.length_drop, List.length_set]; omega))) rfl ?_ | refine G.load1EM rfl rfl (List.getElem?_eq_getElem (by first | omega | (simp only [List.length_map, List.length_append, List.length_cons, List.length_nil, List.length_replicate, List.length_take, List.length_drop, List.length_set]; omega))) rfl ?_
  first | refine G.lenM rfl ?_ | refine G.lenOM rfl rfl ?_ | refine G.lenF rfl ?_ | refine G.lenO rfl rfl ?_ | refine G.lenNil rfl ?_
  refine G.bin rfl rfl rfl ?_
  refine G.mv rfl ?_
  apply G.orS rfl rfl rfl rfl rfl rfl
  case hB =>
    intro hs1
    (try simp only [decide_eq_true_eq, decide_eq_false_iff_not, Bool.or_eq_true, Bool.and_eq_true, Bool.or_eq_false_iff, Bool.and_eq_false_iff, bne_iff_ne, beq_iff_eq, beq_eq_false_iff_ne, bne_eq_false_iff_eq, ne_eq, Bool.not_eq_true', Bool.not_eq_false', Int.not_lt, Int.not_le, Decidable.not_not, List.length_map, List.length_cons, List.length_nil] at hs1)
    refine G.mv rfl ?_
    refine G.bin rfl rfl rfl ?_
    refine WpOpsG.nil ?_
    exact ⟨rfl, (by repeat (first | exact LLe.refl _ | refine LLe.cons rfl ?_)), (by repeat (first | exact HLe.refl _ | refine HLe.cons rfl ?_)), rfl⟩
  refine WpOpsG.nil ?_
  change WpG _ _ _ _ _
  refine WpG.cond rfl (fun hq2 => ?_) (fun hq2 => ?_)
  · (try simp only [decide_eq_true_eq, decide_eq_false_iff_not, Bool.or_eq_true, Bool.and_eq_true, Bool.or_eq_false_iff, Bool.and_eq_false_iff, bne_iff_ne, beq_iff_eq, beq_eq_false_iff_ne, bne_eq_false_iff_eq, ne_eq, Bool.not_eq_true', Bool.not_eq_false', Int.not_lt, Int.not_le, Decidable.not_not, List.length_map, List.length_cons, List.length_nil] at hq2)
    refine WpG.seq ?_
    refine WpG.reg ?_
    refine G.mv rfl ?_
    refine WpOpsG.nil ?_
    change WpG _ _ _ _ _
    refine WpG.ret ?_
    refine ⟨_, [(0, tbox t a)], rfl, (hasP_le (by repeat (first | exact trivial | refine ⟨rfl, ?_⟩))), rfl, rfl, rfl, ?_⟩
    have e1 : nx t a n = 0 := by unfold nx; rw [if_neg (by omega)]
    have e2 : na t a n = a := by unfold na; rw [if_neg (by omega)]
    rw [e1, e2]
    exact ⟨rfl, rfl⟩
  · (try simp only [decide_eq_true_eq, decide_eq_false_iff_not, Bool.or_eq_true, Bool.and_eq_true, Bool.or_eq_false_iff, Bool.and_eq_false_iff, bne_iff_ne, beq_iff_eq, beq_eq_false_iff_ne, bne_eq_false_iff_eq, ne_eq, Bool.not_eq_true', Bool.not_eq_false', Int.not_lt, Int.not_le, Decidable.not_not, List.length_map, List.length_cons, List.length_nil] at hq2)
    have hlt : a < t.length := by omega
    have h64 := hi _ (List.getElem_mem hlt)
    have he : t[((a : Int) + 1 - 1).toNat]? = some (t[a]) := by rw [show ((a : Int) + 1 - 1).toNat = a by omega]; exact List.getElem?_eq_getElem hlt
    have hw := within_rng t[a] 0 1073741824 (by decide)
    refine WpG.skip ?_
    change WpG _ _ _ _ _
    refine WpG.seq ?_
    refine WpG.reg ?_
    refine G.mv rfl ?_
    first | refine G.nilcB rfl ?_ | refine G.nilcF rfl ?_ | refine G.nilcE rfl ?_ | refine G.nilcFn rfl ?_
    first | refine G.faddrB rfl ?_ | refine G.faddrF rfl ?_ | refine G.faddrE rfl ?_
    first | refine G.load1B rfl rfl rfl ?_ | refine G.load1F rfl rfl ?_ | refine G.load1E rfl rfl (List.getElem?_eq_getElem (by first | omega | (simp only [List.length_map, List.length_append, List.length_cons, List.length_nil, List.length_replicate, List.length_take, List.length_drop, List.length_set]; omega))) rfl ?_ | refine G.load1EM rfl rfl (List.getElem?_eq_getElem (by first | omega | (simp only [List.length_map, List.length_append, List.length_cons, List.length_nil, List.length_replicate, List.length_take, List.length_drop, List.length_set]; omega))) rfl ?_
    first | refine G.addI rfl rfl (by omega) ?_ | refine G.bin rfl rfl rfl ?_
    first | refine G.nilcB rfl ?_ | refine G.nilcF rfl ?_ | refine G.nilcE rfl ?_ | refine G.nilcFn rfl ?_
    first | refine G.faddrB rfl ?_ | refine G.faddrF rfl ?_ | refine G.faddrE rfl ?_
    first | refine G.storeB rfl rfl rfl rfl rfl rfl ?_ | refine G.storeEM rfl rfl rfl (List.getElem?_eq_getElem (by first | omega | (simp only [List.length_map, List.length_append, List.length_cons, List.length_nil, List.length_replicate, List.length_take, List.length_drop, List.length_set]; omega))) rfl rfl rfl rfl rfl ?_
    refine WpOpsG.nil ?_
    change WpG _ _ _ _ _
    refine WpG.seq ?_
    refine WpG.reg ?_
    refine G.mv rfl ?_
    first | refine G.nilcB rfl ?_ | refine G.nilcF rfl ?_ | refine G.nilcE rfl ?_ | refine G.nilcFn rfl ?_
    first | refine G.faddrB rfl ?_ | refine G.faddrF rfl ?_ | refine G.faddrE rfl ?_
    first | refine G.load1B rfl rfl rfl ?_ | refine G.load1F rfl rfl ?_ | refine G.load1E rfl rfl (List.getElem?_eq_getElem (by first | omega | (simp only [List.length_map, List.length_append, List.length_cons, List.length_nil, List.length_replicate, List.length_take, List.length_drop, List.length_set]; omega))) rfl ?_ | refine G.load1EM rfl rfl (List.getElem?_eq_getElem (by first | omega | (simp only [List.length_map, List.length_append, List.length_cons, List.length_nil, List.length_replicate, List.length_take, List.length_drop, List.length_set]; omega))) rfl ?_
    refine G.mv rfl ?_
    first | refine G.nilcB rfl ?_ | refine G.nilcF rfl ?_ | refine G.nilcE rfl ?_ | refine G.nilcFn rfl ?_
    first | refine G.faddrB rfl ?_ | refine G.faddrF rfl ?_ | refine G.faddrE rfl ?_
    first | refine G.load1B rfl rfl rfl ?_ | refine G.load1F rfl rfl ?_ | refine G.load1E rfl rfl (List.getElem?_eq_getElem (by first | omega | (simp only [List.length_map, List.length_append, List.length_cons, List.length_nil, List.length_replicate, List.length_take, List.length_drop, List.length_set]; omega))) rfl ?_ | refine G.load1EM rfl rfl (List.getElem?_eq_getElem (by first | omega | (simp only [List.length_map, List.length_append, List.length_cons, List.length_nil, List.length_replicate, List.length_take, List.length_drop, List.length_set]; omega))) rfl ?_
    first | refine G.subI rfl rfl (by omega) ?_ | refine G.bin rfl rfl rfl ?_
    refine G.iaddrM rfl rfl (by omega) he ?_
    first | refine G.load1B rfl rfl rfl ?_ | refine G.load1F rfl rfl ?_ | refine G.load1E rfl rfl (List.getElem?_eq_getElem (by first | omega | (simp only [List.length_map, List.length_append, List.length_cons, List.length_nil, List.length_replicate, List.length_take, List.length_drop, List.length_set]; omega))) rfl ?_ | refine G.load1EM rfl rfl (List.getElem?_eq_getElem (by first | omega | (simp only [List.length_map, List.length_append, List.length_cons, List.length_nil, List.length_replicate, List.length_take, List.length_drop, List.length_set]; omega))) rfl ?_
    refine G.call0 rfl rfl (within_ok _ 0 1073741824 h64 (by decide) (by decide) (by decide)) ?_
    rintro _ _ ⟨rfl, rfl⟩
    refine ⟨rfl, ?_⟩
    change WpOpsG _ _ (_ :: _) _ _
    refine G.mv rfl ?_
    first | refine G.remN rfl rfl (by omega) (by omega) ?_ | refine G.remP rfl rfl (by omega) ?_
    refine G.mv rfl ?_
    refine WpOpsG.nil ?_
    change WpG _ _ _ _ _
    refine WpG.ret ?_
    refine ⟨_, [(0, .box [.fsl 1 (t.map encK), .v (.int .i64 ((a : Int) + 1))])], rfl, (hasP_le (by repeat (first | exact trivial | refine ⟨rfl, ?_⟩))), rfl, rfl, rfl, ?_⟩
    have e1 : nx t a n = within t[a] 0 1073741824 % n := by
      unfold nx; rw [if_pos (by omega), List.getD_eq_getElem?_getD, List.getElem?_eq_getElem hlt]; rfl
    have e2 : na t a n = a + 1 := by unfold na; rw [if_pos (by omega)]
    rw [e1, e2]
    exact ⟨rfl, rfl⟩
theorem truns_ok (t : List Int) (a : Nat) (parts most : Int) (ht : t.length ≤ 2 ^ 50) (hi : ∀ x ∈ t, i64 x) (ha : a ≤ t.length) (hp : 0 ≤ parts ∧ parts ≤ 2 ^ 40) (hm : 1 ≤ most ∧ most ≤ 2 ^ 20) : WpCallG A 10 [.bptr 0 0, .v (.int .i64 parts), .v (.int .i64 most)] [(0, tbox t a)] (fun v H => v = .fsl 2 ((tapeRuns t a parts most).1.map encN) ∧ H = [(0, tbox t (tapeRuns t a parts most).2)]) := by
  have h1 := nx_rng t a most
  obtain ⟨kk, hkk⟩ : ∃ kk, kk = (1 + nx t a most).toNat := ⟨_, rfl⟩
  refine WpCallG.intro g10 rfl rfl ?_
  unfold af10
  change WpG _ _ _ _ _
  refine WpG.seq ?_
  refine WpG.reg ?_
  refine G.mv rfl ?_
  refine WpOpsG.nil ?_
  change WpG _ _ _ _ _
  refine WpG.seq ?_
  refine WpG.reg ?_
  refine G.mv rfl ?_
  refine WpOpsG.nil ?_
  change WpG _ _ _ _ _
  refine WpG.seq ?_
  refine WpG.seq ?_
  refine WpG.reg ?_
  refine G.mv rfl ?_
  refine G.mv rfl ?_
  refine G.call (P := [(0, tbox t a)]) rfl (by repeat (first | exact trivial | refine ⟨rfl, ?_⟩)) rfl rfl (next_ok t a most ht hi ha (by omega)) ?_
  rintro _ _ ⟨rfl, rfl⟩
  refine ⟨rfl, ?_⟩
  change WpOpsG _ _ ((11, _) :: _) ((0, tbox t (na t a most)) :: _) _
  first | refine G.addI rfl rfl (by omega) ?_ | refine G.bin rfl rfl rfl ?_
  refine G.mv rfl ?_
  refine WpOpsG.nil ?_
  change WpG _ _ _ _ _
  refine WpG.block ?_
  have e8 : 1 + nx t a most = (kk : Int) := by omega
  rw [e8]
  refine WpG.ownNil (g := 30) (k := 7) (w := 2) rfl rfl ?_
  refine WpG.loop (S := Nat × Nat × List Rn) (fun s => [(0, .bptr 0 0), (1, .v (.int .i64 parts)), (7, .osl 30), (8, .v (.int .i64 s.1))]) (fun s => [(30, .arr .yes 2 (s.2.2.map encN)), (0, tbox t s.2.1)]) (fun s => s.2.1 ≤ t.length ∧ s.1 + s.2.2.length = kk ∧ rgo t parts s.1 s.2.1 s.2.2 = tapeRuns t a parts most) (fun s => s.1) (fun s => ⟨rfl, rfl⟩) ?_ (kk, na t a most, []) ?_ (by repeat (first | exact trivial | refine ⟨rfl, ?_⟩)) (by repeat (first | exact trivial | refine ⟨rfl, ?_⟩)) rfl
  · rintro ⟨k, b, out⟩ ⟨hb, hk, hT⟩
    dsimp only at hb hk hT ⊢
    refine WpG.seq ?_
    refine WpG.seq ?_
    refine WpG.reg ?_
    refine G.mv rfl ?_
    refine G.bin rfl rfl rfl ?_
    refine WpOpsG.nil ?_
    change WpG _ _ _ _ _
    refine WpG.cond rfl (fun hq1 => ?_) (fun hq1 => ?_)
    · (try simp only [decide_eq_true_eq, decide_eq_false_iff_not, Bool.or_eq_true, Bool.and_eq_true, Bool.or_eq_false_iff, Bool.and_eq_false_iff, bne_iff_ne, beq_iff_eq, beq_eq_false_iff_ne, bne_eq_false_iff_eq, ne_eq, Bool.not_eq_true', Bool.not_eq_false', Int.not_lt, Int.not_le, Decidable.not_not, List.length_map, List.length_cons, List.length_nil] at hq1)
      refine WpG.skip ?_
      change WpG _ _ _ _ _
      refine WpG.seq ?_
      refine WpG.block ?_
      refine WpG.reg ?_
      refine G.mv rfl ?_
      refine G.mv rfl ?_
      refine G.mv rfl ?_
      first | refine G.addI rfl rfl (by omega) ?_ | refine G.bin rfl rfl rfl ?_
      refine G.call (P := [(0, tbox t b)]) rfl (by repeat (first | exact trivial | refine ⟨rfl, ?_⟩)) rfl rfl (next_ok t b (parts + 1) ht hi hb (by omega)) ?_
      rintro _ _ ⟨rfl, rfl⟩
      refine ⟨rfl, ?_⟩
      change WpOpsG _ _ ((21, _) :: _) _ _
      have h2 := nx_rng t b (parts + 1)
      have hb1 : na t b (parts + 1) ≤ t.length := na_le hb
      first | refine G.subI rfl rfl (by omega) ?_ | refine G.bin rfl rfl rfl ?_
      refine G.mv rfl ?_
      refine G.call (P := [(0, tbox t (na t b (parts + 1)))]) rfl (by repeat (first | exact trivial | refine ⟨rfl, ?_⟩)) rfl rfl (next_ok t (na t b (parts + 1)) 4 ht hi hb1 (by omega)) ?_
      rintro _ _ ⟨rfl, rfl⟩
      refine ⟨rfl, ?_⟩
      change WpOpsG _ _ ((24, _) :: _) _ _
      have h3 := nx_rng t (na t b (parts + 1)) 4
      first | refine G.addI rfl rfl (by omega) ?_ | refine G.bin rfl rfl rfl ?_
      refine G.build rfl ?_
      refine G.bsliceF rfl rfl rfl ?_
      first | refine G.app rfl rfl rfl rfl trivial (by first | omega | (simp only [List.length_map, List.length_append, List.length_cons, List.length_nil, List.length_replicate, List.length_take, List.length_drop, List.length_set]; omega)) ?_ | refine G.app rfl rfl rfl rfl (by first | decide | exact Nat.le_refl _) (by first | omega | (simp only [List.length_map, List.length_append, List.length_cons, List.length_nil, List.length_replicate, List.length_take, List.length_drop, List.length_set]; omega)) ?_ | refine G.appNil (g := 10) rfl rfl rfl rfl (by first | omega | (simp only [List.length_map, List.length_append, List.length_cons, List.length_nil, List.length_replicate, List.length_take, List.length_drop, List.length_set]; omega)) ?_
      refine G.mv rfl ?_
      refine WpOpsG.nil ?_
      change WpG _ _ _ _ _
      refine WpG.reg ?_
      refine G.mv rfl ?_
      first | refine G.subI rfl rfl (by omega) ?_ | refine G.bin rfl rfl rfl ?_
      refine G.mv rfl ?_
      refine WpOpsG.nil ?_
      obtain ⟨k, rfl⟩ : ∃ j, k = j + 1 := ⟨k - 1, by omega⟩
      refine ⟨(k, na t (na t b (parts + 1)) 4, out ++ [⟨nx t b (parts + 1) - 1, 1 + nx t (na t b (parts + 1)) 4⟩]), by show k < k + 1; omega, ⟨na_le hb1, ?_, by rw [← hT, rgo]⟩, ⟨rfl, rfl, rfl, ?_, trivial⟩, ⟨?_, rfl, trivial⟩, rfl⟩
      · show k + (out ++ [_]).length = kk
        rw [List.length_append]; simp only [List.length_cons, List.length_nil]; omega
      · show some (GV.v (.int .i64 (((k + 1 : Nat) : Int) - 1))) = some (GV.v (.int .i64 (k : Int)))
        congr 3; omega
      · rw [List.map_append]; rfl
    · (try simp only [decide_eq_true_eq, decide_eq_false_iff_not, Bool.or_eq_true, Bool.and_eq_true, Bool.or_eq_false_iff, Bool.and_eq_false_iff, bne_iff_ne, beq_iff_eq, beq_eq_false_iff_ne, bne_eq_false_iff_eq, ne_eq, Bool.not_eq_true', Bool.not_eq_false', Int.not_lt, Int.not_le, Decidable.not_not, List.length_map, List.length_cons, List.length_nil] at hq1)
      refine WpG.exit ?_
      change WpG _ _ _ _ _
      refine WpG.seq ?_
      refine WpG.reg ?_
      refine G.mv rfl ?_
      refine G.mv rfl ?_
      refine WpOpsG.nil ?_
      change WpG _ _ _ _ _
      refine WpG.freeze 30 rfl ?_
      refine WpG.ret ?_
      refine ⟨_, [(0, tbox t b)], rfl, (hasP_le (by repeat (first | exact trivial | refine ⟨rfl, ?_⟩))), rfl, rfl, rfl, ?_⟩
      obtain rfl : k = 0 := by omega
      rw [← hT]
      exact ⟨rfl, rfl⟩
  · refine ⟨na_le ha, by simp, ?_⟩
    subst hkk; rfl
theorem known8_ok  : WpCallG A 15 [] [] (fun v H => v = .v (.bool true) ∧ H = []) := by
  refine WpCallG.intro g15 rfl rfl ?_
  unfold af15
  change WpG _ _ _ _ _
  refine WpG.seq ?_
  refine WpG.reg ?_
  refine G.mv rfl ?_
  refine WpOpsG.nil ?_
  change WpG _ _ _ _ _
  refine WpG.seq ?_
  refine WpG.reg ?_
  refine G.build rfl ?_
  refine G.build rfl ?_
  refine G.build rfl ?_
  refine G.bsliceF rfl rfl rfl ?_
  change WpOpsG _ _ ((9, .fsl 2 (kl8.map encN)) :: _) _ _
  refine G.mv rfl ?_
  refine WpOpsG.nil ?_
  change WpG _ _ _ _ _
  refine WpG.seq ?_
  refine WpG.reg ?_
  refine G.mv rfl ?_
  refine G.call0 rfl rfl ((swap_ok kl8 0 (by decide) (by unfold i64; decide)).ren [(0, 20)]) ?_
  rintro _ _ ⟨_, _, ⟨rfl, rfl⟩, rfl, rfl⟩
  change newOk _ _ [(20, _)] = true ∧ _
  rw [show swapV kl8 0 = kx8 by decide]
  refine ⟨rfl, ?_⟩
  change WpOpsG _ _ ((11, .osl 20) :: _) ([(20, .arr .yes 2 ((kx8).map encN))] ++ _) _
  refine WpOpsG.freeze 20 rfl ?_
  change WpOpsG _ _ ((11, .fsl 2 (kx8.map encN)) :: _) _ _
  refine G.mv rfl ?_
  refine WpOpsG.nil ?_
  change WpG _ _ _ _ _
  refine WpG.seq ?_
  refine WpG.reg ?_
  refine G.mv rfl ?_
  refine G.mv rfl ?_
  refine G.call0 rfl rfl (nil3 (differ_ok kl8 kl8 [] (by decide) kl8_ok (by decide) kl8_ok (by decide) (by decide))) ?_
  rintro _ _ ⟨rfl, rfl⟩
  refine ⟨rfl, ?_⟩
  change WpOpsG _ _ ((15, _) :: _) _ _
  rw [show differV kl8 kl8 [] = (-1, -1, false) by decide +kernel]
  refine G.mv rfl ?_
  refine G.ext rfl rfl ?_
  refine G.ext rfl rfl ?_
  refine G.ext rfl rfl ?_
  refine G.mv rfl ?_
  refine G.mv rfl ?_
  refine G.mv rfl ?_
  refine WpOpsG.nil ?_
  change WpG _ _ _ _ _
  refine WpG.seq ?_
  refine WpG.reg ?_
  refine G.mv rfl ?_
  refine G.mv rfl ?_
  refine G.call0 rfl rfl (nil3 (wsame_ok kl8 kl8 [] (by decide) kl8_ok (by decide) kl8_ok (by decide) (by decide))) ?_
  rintro _ _ ⟨rfl, rfl⟩
  refine ⟨rfl, ?_⟩
  change WpOpsG _ _ ((21, _) :: _) _ _
  rw [show differV kl8 kl8 [] = (-1, -1, false) by decide +kernel]
  refine G.mv rfl ?_
  refine G.yes rfl ?_
  refine G.mv rfl ?_
  refine G.yes rfl ?_
  refine G.mv rfl ?_
  refine G.yes rfl ?_
  refine G.call0 rfl rfl (nil3 (wsame_ok kl8 kx8 [] (by decide) kl8_ok (by decide) kx8_ok (by decide) (by decide))) ?_
  rintro _ _ ⟨rfl, rfl⟩
  refine ⟨rfl, ?_⟩
  change WpOpsG _ _ ((25, _) :: _) _ _
  rw [show differV kl8 kx8 [] = (-1, -1, false) by decide +kernel]
  first | refine G.pickT rfl rfl ?_ | refine G.pickF rfl rfl ?_ | refine G.pick rfl rfl rfl ?_
  refine G.mv rfl ?_
  refine G.yes rfl ?_
  refine G.mv rfl ?_
  refine G.yes rfl ?_
  refine G.mv rfl ?_
  refine G.yes rfl ?_
  refine G.bsliceF rfl rfl rfl ?_
  refine G.yes rfl ?_
  refine G.bsliceF rfl rfl rfl ?_
  refine G.yes rfl ?_
  refine G.bsliceF rfl rfl rfl ?_
  change WpOpsG _ _ ((32, .fsl 1 (([[true, true], [true, true]] : List (List Bool)).map encBs)) :: _) _ _
  refine G.yes rfl ?_
  refine G.call0 rfl rfl ((wsame_ok kl8 kx8 [[true, true], [true, true]] (by decide) kl8_ok (by decide) kx8_ok (by decide) (by decide))) ?_
  rintro _ _ ⟨rfl, rfl⟩
  refine ⟨rfl, ?_⟩
  change WpOpsG _ _ ((33, _) :: _) _ _
  rw [show differV kl8 kx8 [[true, true], [true, true]] = (0, 1, true) by decide +kernel]
  refine G.yes rfl ?_
  refine G.un rfl rfl ?_
  first | refine G.pickT rfl rfl ?_ | refine G.pickF rfl rfl ?_ | refine G.pick rfl rfl rfl ?_
  refine G.mv rfl ?_
  refine G.yes rfl ?_
  refine G.mv rfl ?_
  refine G.yes rfl ?_
  refine G.bin rfl rfl rfl ?_
  first | refine G.pickT rfl rfl ?_ | refine G.pickF rfl rfl ?_ | refine G.pick rfl rfl rfl ?_
  refine G.mv rfl ?_
  refine G.yes rfl ?_
  refine G.mv rfl ?_
  refine G.yes rfl ?_
  refine G.bin rfl rfl rfl ?_
  first | refine G.pickT rfl rfl ?_ | refine G.pickF rfl rfl ?_ | refine G.pick rfl rfl rfl ?_
  refine G.mv rfl ?_
  refine G.yes rfl ?_
  refine G.mv rfl ?_
  refine G.yes rfl ?_
  refine G.un rfl rfl ?_
  first | refine G.pickT rfl rfl ?_ | refine G.pickF rfl rfl ?_ | refine G.pick rfl rfl rfl ?_
  refine G.mv rfl ?_
  refine G.yes rfl ?_
  refine G.mv rfl ?_
  refine G.yes rfl ?_
  refine G.call0 rfl rfl ((project_ok kl8 0 1 (by decide) kl8_ok).ren [(0, 21)]) ?_
  rintro _ _ ⟨_, _, ⟨rfl, rfl⟩, rfl, rfl⟩
  change newOk _ _ [(21, _)] = true ∧ _
  rw [show projV kl8 0 1 = [⟨0, 1⟩, ⟨1, 2⟩] by decide +kernel]
  refine ⟨rfl, ?_⟩
  change WpOpsG _ _ ((50, .osl 21) :: _) ([(21, .arr .yes 2 ((([⟨0, 1⟩, ⟨1, 2⟩] : List Rn)).map encN))] ++ _) _
  refine G.yes rfl ?_
  first | refine G.lenM rfl ?_ | refine G.lenOM rfl rfl ?_ | refine G.lenF rfl ?_ | refine G.lenO rfl rfl ?_ | refine G.lenNil rfl ?_
  refine G.yes rfl ?_
  refine G.bin rfl rfl rfl ?_
  first | refine G.pickT rfl rfl ?_ | refine G.pickF rfl rfl ?_ | refine G.pick rfl rfl rfl ?_
  refine G.mv rfl ?_
  refine G.yes rfl ?_
  refine G.mv rfl ?_
  refine G.yes rfl ?_
  first | refine G.lenM rfl ?_ | refine G.lenOM rfl rfl ?_ | refine G.lenF rfl ?_ | refine G.lenO rfl rfl ?_ | refine G.lenNil rfl ?_
  refine G.yes rfl ?_
  refine G.bin rfl rfl rfl ?_
  first | refine G.pickT rfl rfl ?_ | refine G.pickF rfl rfl ?_ | refine G.pick rfl rfl rfl ?_
  refine G.mv rfl ?_
  refine G.yes rfl ?_
  refine G.mv rfl ?_
  refine G.yes rfl ?_
  first | refine G.iaddrN rfl rfl (List.getElem?_eq_getElem (by first | omega | (simp only [List.length_map, List.length_append, List.length_cons, List.length_nil, List.length_replicate, List.length_take, List.length_drop, List.length_set]; omega))) ?_ | refine G.iaddrM rfl rfl (by omega) (List.getElem?_eq_getElem (by first | omega | (simp only [List.length_map, List.length_append, List.length_cons, List.length_nil, List.length_replicate, List.length_take, List.length_drop, List.length_set]; omega))) ?_ | refine G.iaddrF rfl rfl (by omega) rfl ?_ | refine G.iaddrO rfl rfl rfl (by omega) (by first | omega | (simp only [List.length_map, List.length_append, List.length_cons, List.length_nil, List.length_replicate, List.length_take, List.length_drop, List.length_set]; omega)) ?_ | refine G.iaddrF rfl rfl (by omega) (List.getElem?_eq_getElem (by first | omega | (simp only [List.length_map, List.length_append, List.length_cons, List.length_nil, List.length_replicate, List.length_take, List.length_drop, List.length_set]; omega))) ?_
  refine G.yes rfl ?_
  first | refine G.loadNB rfl rfl rfl ?_ | refine G.loadNF rfl rfl ?_ | refine G.loadNEM rfl rfl (List.getElem?_eq_getElem (by first | omega | (simp only [List.length_map, List.length_append, List.length_cons, List.length_nil, List.length_replicate, List.length_take, List.length_drop, List.length_set]; omega))) rfl ?_
  refine G.yes rfl ?_
  refine G.mv rfl ?_
  refine G.yes rfl ?_
  first | refine G.iaddrN rfl rfl (List.getElem?_eq_getElem (by first | omega | (simp only [List.length_map, List.length_append, List.length_cons, List.length_nil, List.length_replicate, List.length_take, List.length_drop, List.length_set]; omega))) ?_ | refine G.iaddrM rfl rfl (by omega) (List.getElem?_eq_getElem (by first | omega | (simp only [List.length_map, List.length_append, List.length_cons, List.length_nil, List.length_replicate, List.length_take, List.length_drop, List.length_set]; omega))) ?_ | refine G.iaddrF rfl rfl (by omega) rfl ?_ | refine G.iaddrO rfl rfl rfl (by omega) (by first | omega | (simp only [List.length_map, List.length_append, List.length_cons, List.length_nil, List.length_replicate, List.length_take, List.length_drop, List.length_set]; omega)) ?_ | refine G.iaddrF rfl rfl (by omega) (List.getElem?_eq_getElem (by first | omega | (simp only [List.length_map, List.length_append, List.length_cons, List.length_nil, List.length_replicate, List.length_take, List.length_drop, List.length_set]; omega))) ?_
  refine G.yes rfl ?_
  first | refine G.loadNB rfl rfl rfl ?_ | refine G.loadNF rfl rfl ?_ | refine G.loadNEM rfl rfl (List.getElem?_eq_getElem (by first | omega | (simp only [List.length_map, List.length_append, List.length_cons, List.length_nil, List.length_replicate, List.length_take, List.length_drop, List.length_set]; omega))) rfl ?_
  refine G.yes rfl ?_
  refine G.beq rfl rfl rfl ?_
  first | refine G.pickT rfl rfl ?_ | refine G.pickF rfl rfl ?_ | refine G.pick rfl rfl rfl ?_
  refine G.mv rfl ?_
  refine G.yes rfl ?_
  refine G.mv rfl ?_
  refine G.yes rfl ?_
  refine G.call0 rfl rfl ((swap_ok kl8 5 (by decide) (by unfold i64; decide)).ren [(0, 22)]) ?_
  rintro _ _ ⟨_, _, ⟨rfl, rfl⟩, rfl, rfl⟩
  change newOk _ _ [(22, _)] = true ∧ _
  rw [show swapV kl8 5 = kl8 by decide]
  refine ⟨rfl, ?_⟩
  change WpOpsG _ _ ((70, .osl 22) :: _) ([(22, .arr .yes 2 ((kl8).map encN))] ++ _) _
  refine G.yes rfl ?_
  first | refine G.lenM rfl ?_ | refine G.lenOM rfl rfl ?_ | refine G.lenF rfl ?_ | refine G.lenO rfl rfl ?_ | refine G.lenNil rfl ?_
  refine G.yes rfl ?_
  refine G.bin rfl rfl rfl ?_
  first | refine G.pickT rfl rfl ?_ | refine G.pickF rfl rfl ?_ | refine G.pick rfl rfl rfl ?_
  refine G.mv rfl ?_
  refine WpOpsG.nil ?_
  change WpG _ _ _ _ _
  refine WpG.ret ?_
  refine ⟨_, [], rfl, (hasP_le (by repeat (first | exact trivial | refine ⟨rfl, ?_⟩))), rfl, rfl, rfl, ?_⟩
  exact ⟨rfl, rfl⟩
theorem wordParts_ok (t : List Int) (at_ a b : Int) (ht : t.length ≤ 2 ^ 50) (hi : ∀ x ∈ t, i64 x) (h1 : i64 at_) (h2 : i64 a) (h3 : i64 b) : WpCallG A 8 [.fsl 1 (t.map encK), .v (.int .i64 at_), .v (.int .i64 a), .v (.int .i64 b)] [] (fun v H => v = .v (.bool true) ∧ H = []) := by
  refine WpCallG.intro g8 rfl rfl ?_
  unfold af8
  change WpG _ _ _ _ _
  refine WpG.seq ?_
  refine WpG.reg ?_
  refine G.mv rfl ?_
  refine WpOpsG.nil ?_
  change WpG _ _ _ _ _
  refine WpG.seq ?_
  refine WpG.reg ?_
  refine G.mv rfl ?_
  refine G.build rfl ?_
  refine G.box (g := 11) rfl rfl rfl ?_
  change WpOpsG _ _ _ ((11, tbox t 0) :: _) _
  refine G.call (P := [(11, tbox t 0)]) rfl (by repeat (first | exact trivial | refine ⟨rfl, ?_⟩)) rfl rfl ((truns_ok t 0 4 16 ht hi (by omega) (by decide) (by decide)).ren [(0, 11)]) ?_
  rintro _ _ ⟨_, _, ⟨rfl, rfl⟩, rfl, rfl⟩
  change newOk _ _ [(11, tbox t _)] = true ∧ _
  refine ⟨rfl, ?_⟩
  change WpOpsG _ _ ((17, .fsl 2 ((tapeRuns t 0 4 16).1.map encN)) :: _) ([(11, tbox t _)] ++ _) _
  have hr := tapeRuns_ok t 0 4 16 (by decide) (by decide) (by omega)
  obtain ⟨rs, hrs⟩ : ∃ rs, rs = (tapeRuns t 0 4 16).1 := ⟨_, rfl⟩
  rw [← hrs] at hr ⊢
  have hrN := okT_N4 hr.1
  have hl16 : rs.length ≤ 16 := by have := hr.2.2.1; omega
  refine G.mv rfl ?_
  refine WpOpsG.nil ?_
  change WpG _ _ _ _ _
  refine WpG.seq ?_
  refine WpG.reg ?_
  refine G.mv rfl ?_
  refine G.mv rfl ?_
  first | refine G.lenM rfl ?_ | refine G.lenOM rfl rfl ?_ | refine G.lenF rfl ?_ | refine G.lenO rfl rfl ?_ | refine G.lenNil rfl ?_
  refine G.call0 rfl rfl (within_ok at_ 0 (rs.length : Int) h1 (by decide) (by omega) (by omega)) ?_
  rintro _ _ ⟨rfl, rfl⟩
  refine ⟨rfl, ?_⟩
  change WpOpsG _ _ ((21, _) :: _) _ _
  obtain ⟨k, hk, hk2⟩ := within_nat1 at_ rs.length
  rw [hk]
  refine G.mv rfl ?_
  refine WpOpsG.nil ?_
  change WpG _ _ _ _ _
  refine WpG.seq ?_
  refine WpG.reg ?_
  refine G.mv rfl ?_
  refine G.call0 rfl rfl (within_ok a (-1) 3 h2 (by decide) (by decide) (by decide)) ?_
  rintro _ _ ⟨rfl, rfl⟩
  refine ⟨rfl, ?_⟩
  change WpOpsG _ _ ((23, _) :: _) _ _
  have hp := within_rng a (-1) 3 (by decide)
  obtain ⟨p, ep⟩ : ∃ o, within a (-1) 3 = o := ⟨_, rfl⟩
  rw [ep] at hp ⊢
  refine G.mv rfl ?_
  refine G.call0 rfl rfl (within_ok b (-1) 3 h3 (by decide) (by decide) (by decide)) ?_
  rintro _ _ ⟨rfl, rfl⟩
  refine ⟨rfl, ?_⟩
  change WpOpsG _ _ ((25, _) :: _) _ _
  have hq := within_rng b (-1) 3 (by decide)
  obtain ⟨q, eq⟩ : ∃ o, within b (-1) 3 = o := ⟨_, rfl⟩
  rw [eq] at hq ⊢
  have lA := projV_len (rs.take k) p q
  have lB := projV_len (rs.drop k) p q
  have lW := projV_len rs p q
  rw [List.length_take] at lA
  rw [List.length_drop] at lB
  have nA : ∀ r ∈ rs.take k, okN r := fun r hr2 => hrN r (List.mem_of_mem_take hr2)
  have nB : ∀ r ∈ rs.drop k, okN r := fun r hr2 => hrN r (List.mem_of_mem_drop hr2)
  refine G.mv rfl ?_
  refine G.mv rfl ?_
  refine WpOpsG.nil ?_
  change WpG _ _ _ _ _
  refine WpG.seq ?_
  refine WpG.reg ?_
  refine G.mv rfl ?_
  refine G.mv rfl ?_
  refine G.slTake (n := k) rfl rfl (by first | omega | (simp only [List.length_map, List.length_append, List.length_cons, List.length_nil, List.length_replicate, List.length_take, List.length_drop, List.length_set]; omega)) ?_
  refine G.mv rfl ?_
  refine G.mv rfl ?_
  refine G.mv rfl ?_
  refine G.mv rfl ?_
  refine G.slDrop (n := k) rfl rfl (by first | omega | (simp only [List.length_map, List.length_append, List.length_cons, List.length_nil, List.length_replicate, List.length_take, List.length_drop, List.length_set]; omega)) ?_
  refine G.ckcall0 rfl rfl rfl ((project_ok (rs.take k) p q (by rw [List.length_take]; omega) nA).ren [(0, 20)]) ?_
  rintro _ _ ⟨_, _, ⟨rfl, rfl⟩, rfl, rfl⟩
  change newOk _ _ [(20, _)] = true ∧ _
  refine ⟨rfl, ?_⟩
  change WpOpsG _ _ ((31, .osl 20) :: _) ([(20, .arr .yes 2 ((projV (rs.take k) p q).map encN))] ++ _) _
  refine G.mv rfl ?_
  refine G.mv rfl ?_
  refine G.call0 rfl rfl ((project_ok (rs.drop k) p q (by rw [List.length_drop]; omega) nB).ren [(0, 21)]) ?_
  rintro _ _ ⟨_, _, ⟨rfl, rfl⟩, rfl, rfl⟩
  change newOk _ _ [(21, _)] = true ∧ _
  refine ⟨rfl, ?_⟩
  change WpOpsG _ _ ((37, .osl 21) :: _) ([(21, .arr .yes 2 ((projV (rs.drop k) p q).map encN))] ++ _) _
  refine G.app (ds := (projV (rs.drop k) p q).map encN) rfl rfl rfl rfl trivial (by rw [List.length_map, List.length_map]; omega) ?_
  rw [← List.map_append]
  refine G.mv rfl ?_
  refine WpOpsG.nil ?_
  change WpG _ _ _ _ _
  refine WpG.seq ?_
  refine WpG.reg ?_
  refine G.mv rfl ?_
  refine G.lend rfl rfl ((rtidy_ok (projV (rs.take k) p q ++ projV (rs.drop k) p q) (by rw [List.length_append]; omega) (ok_app (projV_ok nA) (projV_ok nB))).ren [(0, 22)]) ?_
  rintro _ _ ⟨_, _, ⟨rfl, rfl⟩, rfl, rfl⟩
  refine ⟨rfl, ⟨flat_map (fun _ => rfl), trivial⟩, rfl, ?_⟩
  change WpOpsG _ _ ((40, .osl 22) :: _) ([(22, .arr .yes 2 ((tidyV (projV (rs.take k) p q ++ projV (rs.drop k) p q)).map encN))] ++ _) _
  rw [proj_parts rs k p q hrN]
  refine G.mv rfl ?_
  refine G.mv rfl ?_
  refine G.mv rfl ?_
  refine G.call0 rfl rfl ((project_ok rs p q (by omega) hrN).ren [(0, 23)]) ?_
  rintro _ _ ⟨_, _, ⟨rfl, rfl⟩, rfl, rfl⟩
  change newOk _ _ [(23, _)] = true ∧ _
  refine ⟨rfl, ?_⟩
  change WpOpsG _ _ ((44, .osl 23) :: _) ([(23, .arr .yes 2 ((projV rs p q).map encN))] ++ _) _
  refine G.lend rfl rfl (refSame_ok (projV rs p q) (projV rs p q) (by omega) (by omega)) ?_
  rintro _ _ ⟨rfl, rfl⟩
  refine ⟨rfl, trivial, rfl, ?_⟩
  change WpOpsG _ _ ((45, _) :: _) _ _
  rw [show decide (projV rs p q = projV rs p q) = true from decide_eq_true rfl]
  refine G.mv rfl ?_
  refine G.yes rfl ?_
  refine G.mv rfl ?_
  refine G.yes rfl ?_
  refine G.mv rfl ?_
  refine G.yes rfl ?_
  refine G.mv rfl ?_
  refine G.yes rfl ?_
  refine G.call0 rfl rfl ((project_ok rs p q (by omega) hrN).ren [(0, 24)]) ?_
  rintro _ _ ⟨_, _, ⟨rfl, rfl⟩, rfl, rfl⟩
  change newOk _ _ [(24, _)] = true ∧ _
  refine ⟨rfl, ?_⟩
  change WpOpsG _ _ ((50, .osl 24) :: _) ([(24, .arr .yes 2 ((projV rs p q).map encN))] ++ _) _
  refine G.yes rfl ?_
  refine G.mv rfl ?_
  refine G.yes rfl ?_
  refine G.lend rfl rfl (rticks_ok (projV rs p q) p (by omega) (projV_ok hrN)) ?_
  rintro _ _ ⟨rfl, rfl⟩
  refine ⟨rfl, trivial, rfl, ?_⟩
  change WpOpsG _ _ ((52, _) :: _) _ _
  rw [tick_proj rs p q hrN]
  refine G.yes rfl ?_
  refine G.mv rfl ?_
  refine G.yes rfl ?_
  refine G.mv rfl ?_
  refine G.yes rfl ?_
  refine G.call0 rfl rfl (rticks_ok rs p (by omega) hrN) ?_
  rintro _ _ ⟨rfl, rfl⟩
  refine ⟨rfl, ?_⟩
  change WpOpsG _ _ ((55, _) :: _) _ _
  refine G.yes rfl ?_
  refine G.bin rfl rfl rfl ?_
  rw [show ((tickV rs p : Int) == tickV rs p) = true by simp]
  first | refine G.pickT rfl rfl ?_ | refine G.pickF rfl rfl ?_ | refine G.pick rfl rfl rfl ?_
  refine G.mv rfl ?_
  refine G.yes rfl ?_
  refine G.call0 rfl rfl (known8_ok) ?_
  rintro _ _ ⟨rfl, rfl⟩
  refine ⟨rfl, ?_⟩
  change WpOpsG _ _ ((59, _) :: _) _ _
  first | refine G.pickT rfl rfl ?_ | refine G.pickF rfl rfl ?_ | refine G.pick rfl rfl rfl ?_
  refine G.mv rfl ?_
  refine WpOpsG.nil ?_
  change WpG _ _ _ _ _
  refine WpG.ret ?_
  refine ⟨_, [], rfl, (hasP_le (by repeat (first | exact trivial | refine ⟨rfl, ?_⟩))), rfl, rfl, rfl, ?_⟩
  exact ⟨rfl, rfl⟩
end Go.AM.L8
