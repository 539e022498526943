/- Contracts of the functions that the statement reaches. No condition. -/
import Derived.Test.YtbnhmpjcmgbabaaC17b
set_option linter.all false
set_option maxRecDepth 10000
namespace Go.AM.L17
open Go.AM.PL
theorem rnew_ok (C : List Ch) (hC : C.length ≤ 2 ^ 30) : WpCallG A 19 [.fsl 6 (C.map encC)] [] (fun v H => v = .bptr 0 0 ∧ H = [(0, .box [.fsl 6 (C.map encC), .msl 1]), (1, .mat 1 (encHas (List.replicate C.length [])))]) := by
  refine WpCallG.intro g19 rfl rfl ?_
  unfold af19
  change WpG _ _ _ _ _
  refine WpG.seq ?_
  refine WpG.reg ?_
  refine G.mv rfl ?_
  refine WpOpsG.nil ?_
  change WpG _ _ _ _ _
  refine WpG.seq ?_
  refine WpG.reg ?_
  refine G.bslice (g := 10) rfl rfl rfl rfl ?_
  refine G.mv rfl ?_
  refine G.mv rfl ?_
  first | refine G.lenM rfl ?_ | refine G.lenOM rfl rfl ?_ | refine G.lenF rfl ?_ | refine G.lenO rfl rfl ?_ | refine G.lenNil rfl ?_
  refine G.mkslice (g := 1) rfl rfl (by omega) (by omega) (by omega) (by omega) rfl rfl rfl rfl ?_
  rw [Int.toNat_natCast]
  refine WpOpsG.toMat 1 1 (n := C.length) rfl ?_
  rw [has_nil]
  refine G.ckapp rfl (.of (ds := C.map encC) rfl rfl) rfl rfl trivial (by rw [List.length_map]; show (0 + C.length) * 48 ≤ 2 ^ 47; omega) ?_
  refine WpOpsG.freeze 10 rfl ?_
  change WpOpsG _ _ ((5, .fsl 6 (C.map encC)) :: _) _ _
  refine G.build rfl ?_
  refine G.box (g := 0) rfl rfl rfl ?_
  refine G.mv rfl ?_
  refine WpOpsG.nil ?_
  change WpG _ _ _ _ _
  refine WpG.ret ?_
  refine ⟨_, [(0, .box [.fsl 6 (C.map encC), .msl 1]), (1, .mat 1 (encHas (List.replicate C.length [])))], rfl, (hasP_le (by repeat (first | exact trivial | refine ⟨rfl, ?_⟩))), rfl, rfl, rfl, ?_⟩
  exact ⟨rfl, rfl⟩
theorem rsend_ok (C : List Ch) (S : List (List Int)) (i n : Int) (hC : C.length ≤ 2 ^ 30) (hS : S.length = C.length) (hm : smallS (2 ^ 30) S) : WpCallG A 21 [.bptr 1 0, .v (.int .i64 i), .v (.int .u32 n)] [(1, .box [.fsl 6 (C.map encC), .msl 2]), (2, .mat 1 (encHas S))] (fun v H => v = .v (.int .u32 (sendC C S i n)) ∧ H = [(1, .box [.fsl 6 (C.map encC), .msl 2]), (2, .mat 1 (encHas (sendS C S i n)))]) := by
  refine WpCallG.intro g21 rfl rfl ?_
  unfold af21
  change WpG _ _ _ _ _
  refine WpG.seq ?_
  refine WpG.reg ?_
  refine G.mv rfl ?_
  refine WpOpsG.nil ?_
  change WpG _ _ _ _ _
  refine WpG.seq ?_
  refine WpG.seq ?_
  refine WpG.reg ?_
  refine G.mv rfl ?_
  refine G.bin rfl rfl rfl ?_
  refine G.mv rfl ?_
  apply G.orS rfl rfl rfl rfl rfl rfl
  case hB =>
    intro hs1
    (try simp only [decide_eq_true_eq, decide_eq_false_iff_not, Bool.or_eq_true, Bool.and_eq_true, Bool.or_eq_false_iff, Bool.and_eq_false_iff, bne_iff_ne, beq_iff_eq, beq_eq_false_iff_ne, bne_eq_false_iff_eq, ne_eq, Bool.not_eq_true', Bool.not_eq_false', Int.not_lt, Int.not_le, Decidable.not_not, List.length_map, List.length_cons, List.length_nil] at hs1)
    refine G.mv rfl ?_
    refine G.mv rfl ?_
    first | refine G.nilcB rfl ?_ | refine G.nilcF rfl ?_ | refine G.nilcE rfl ?_ | refine G.nilcFn rfl ?_
    first | refine G.faddrB rfl ?_ | refine G.faddrF rfl ?_ | refine G.faddrE rfl ?_
    first | refine G.load1B rfl rfl rfl ?_ | refine G.load1F rfl rfl ?_ | refine G.load1E rfl rfl (List.getElem?_eq_getElem (by first | omega | (simp only [List.length_map, List.length_append, List.length_cons, List.length_nil, List.length_replicate, List.length_take, List.length_drop, List.length_set]; omega))) rfl ?_ | refine G.load1EM rfl rfl (List.getElem?_eq_getElem (by first | omega | (simp only [List.length_map, List.length_append, List.length_cons, List.length_nil, List.length_replicate, List.length_take, List.length_drop, List.length_set]; omega))) rfl ?_
    first | refine G.lenM rfl ?_ | refine G.lenOM rfl rfl ?_ | refine G.lenF rfl ?_ | refine G.lenO rfl rfl ?_ | refine G.lenNil rfl ?_
    refine G.bin rfl rfl rfl ?_
    refine WpOpsG.nil ?_
    exact ⟨rfl, (by repeat (first | exact LLe.refl _ | refine LLe.cons rfl ?_)), (by repeat (first | exact HLe.refl _ | refine HLe.cons rfl ?_)), rfl⟩
  refine G.mv rfl ?_
  apply G.orS rfl rfl rfl rfl rfl rfl
  case hB =>
    intro hs2
    (try simp only [decide_eq_true_eq, decide_eq_false_iff_not, Bool.or_eq_true, Bool.and_eq_true, Bool.or_eq_false_iff, Bool.and_eq_false_iff, bne_iff_ne, beq_iff_eq, beq_eq_false_iff_ne, bne_eq_false_iff_eq, ne_eq, Bool.not_eq_true', Bool.not_eq_false', Int.not_lt, Int.not_le, Decidable.not_not, List.length_map, List.length_cons, List.length_nil] at hs2)
    refine G.mv rfl ?_
    refine G.mv rfl ?_
    first | refine G.nilcB rfl ?_ | refine G.nilcF rfl ?_ | refine G.nilcE rfl ?_ | refine G.nilcFn rfl ?_
    first | refine G.faddrB rfl ?_ | refine G.faddrF rfl ?_ | refine G.faddrE rfl ?_
    first | refine G.load1B rfl rfl rfl ?_ | refine G.load1F rfl rfl ?_ | refine G.load1E rfl rfl (List.getElem?_eq_getElem (by first | omega | (simp only [List.length_map, List.length_append, List.length_cons, List.length_nil, List.length_replicate, List.length_take, List.length_drop, List.length_set]; omega))) rfl ?_ | refine G.load1EM rfl rfl (List.getElem?_eq_getElem (by first | omega | (simp only [List.length_map, List.length_append, List.length_cons, List.length_nil, List.length_replicate, List.length_take, List.length_drop, List.length_set]; omega))) rfl ?_
    refine G.mv rfl ?_
    refine G.iaddrM rfl rfl (by omega) (gd17 chD (by omega)) ?_
    try rw [Int.toNat_natCast]
    first | refine G.faddrB rfl ?_ | refine G.faddrF rfl ?_ | refine G.faddrE rfl ?_
    first | refine G.load1B rfl rfl rfl ?_ | refine G.load1F rfl rfl ?_ | refine G.load1E rfl rfl (List.getElem?_eq_getElem (by first | omega | (simp only [List.length_map, List.length_append, List.length_cons, List.length_nil, List.length_replicate, List.length_take, List.length_drop, List.length_set]; omega))) rfl ?_ | refine G.load1EM rfl rfl (List.getElem?_eq_getElem (by first | omega | (simp only [List.length_map, List.length_append, List.length_cons, List.length_nil, List.length_replicate, List.length_take, List.length_drop, List.length_set]; omega))) rfl ?_
    refine G.bin rfl rfl rfl ?_
    refine WpOpsG.nil ?_
    exact ⟨rfl, (by repeat (first | exact LLe.refl _ | refine LLe.cons rfl ?_)), (by repeat (first | exact HLe.refl _ | refine HLe.cons rfl ?_)), rfl⟩
  refine WpOpsG.nil ?_
  change WpG _ _ _ _ _
  refine WpG.cond rfl (fun hq3 => ?_) (fun hq3 => ?_)
  · (try simp only [decide_eq_true_eq, decide_eq_false_iff_not, Bool.or_eq_true, Bool.and_eq_true, Bool.or_eq_false_iff, Bool.and_eq_false_iff, bne_iff_ne, beq_iff_eq, beq_eq_false_iff_ne, bne_eq_false_iff_eq, ne_eq, Bool.not_eq_true', Bool.not_eq_false', Int.not_lt, Int.not_le, Decidable.not_not, List.length_map, List.length_cons, List.length_nil] at hq3)
    refine WpG.seq ?_
    refine WpG.reg ?_
    refine G.mv rfl ?_
    refine WpOpsG.nil ?_
    change WpG _ _ _ _ _
    refine WpG.ret ?_
    refine ⟨_, [(1, .box [.fsl 6 (C.map encC), .msl 2]), (2, .mat 1 (encHas S))], rfl, (hasP_le (by repeat (first | exact trivial | refine ⟨rfl, ?_⟩))), rfl, rfl, rfl, ?_⟩
    have e := send_0 (C := C) (S := S) (i := i) (n := n) (by unfold isC chAt; omega)
    rw [e.1, e.2]; exact ⟨rfl, rfl⟩
  · (try simp only [decide_eq_true_eq, decide_eq_false_iff_not, Bool.or_eq_true, Bool.and_eq_true, Bool.or_eq_false_iff, Bool.and_eq_false_iff, bne_iff_ne, beq_iff_eq, beq_eq_false_iff_ne, bne_eq_false_iff_eq, ne_eq, Bool.not_eq_true', Bool.not_eq_false', Int.not_lt, Int.not_le, Decidable.not_not, List.length_map, List.length_cons, List.length_nil] at hq3)
    refine WpG.skip ?_
    change WpG _ _ _ _ _
    refine WpG.seq ?_
    refine WpG.seq ?_
    obtain ⟨q, rfl⟩ : ∃ q : Nat, i = (q : Int) := ⟨i.toNat, by omega⟩
    have hql : q < C.length := by omega
    have hrl := rowAt_len hm (q : Int)
    rw [rowAt_nat] at hrl
    try rw [Int.toNat_natCast] at *
    refine WpG.reg ?_
    refine G.mv rfl ?_
    first | refine G.nilcB rfl ?_ | refine G.nilcF rfl ?_ | refine G.nilcE rfl ?_ | refine G.nilcFn rfl ?_
    first | refine G.faddrB rfl ?_ | refine G.faddrF rfl ?_ | refine G.faddrE rfl ?_
    first | refine G.load1B rfl rfl rfl ?_ | refine G.load1F rfl rfl ?_ | refine G.load1E rfl rfl (List.getElem?_eq_getElem (by first | omega | (simp only [List.length_map, List.length_append, List.length_cons, List.length_nil, List.length_replicate, List.length_take, List.length_drop, List.length_set]; omega))) rfl ?_ | refine G.load1EM rfl rfl (List.getElem?_eq_getElem (by first | omega | (simp only [List.length_map, List.length_append, List.length_cons, List.length_nil, List.length_replicate, List.length_take, List.length_drop, List.length_set]; omega))) rfl ?_
    refine G.mv rfl ?_
    refine G.iaddrM rfl rfl (by omega) (gd17 chD (by omega)) ?_
    try rw [Int.toNat_natCast]
    first | refine G.faddrB rfl ?_ | refine G.faddrF rfl ?_ | refine G.faddrE rfl ?_
    first | refine G.load1B rfl rfl rfl ?_ | refine G.load1F rfl rfl ?_ | refine G.load1E rfl rfl (List.getElem?_eq_getElem (by first | omega | (simp only [List.length_map, List.length_append, List.length_cons, List.length_nil, List.length_replicate, List.length_take, List.length_drop, List.length_set]; omega))) rfl ?_ | refine G.load1EM rfl rfl (List.getElem?_eq_getElem (by first | omega | (simp only [List.length_map, List.length_append, List.length_cons, List.length_nil, List.length_replicate, List.length_take, List.length_drop, List.length_set]; omega))) rfl ?_
    refine G.un rfl rfl ?_
    refine WpOpsG.nil ?_
    change WpG _ _ _ _ _
    refine WpG.cond rfl (fun hq4 => ?_) (fun hq4 => ?_)
    · (try simp only [decide_eq_true_eq, decide_eq_false_iff_not, Bool.or_eq_true, Bool.and_eq_true, Bool.or_eq_false_iff, Bool.and_eq_false_iff, bne_iff_ne, beq_iff_eq, beq_eq_false_iff_ne, bne_eq_false_iff_eq, ne_eq, Bool.not_eq_true', Bool.not_eq_false', Int.not_lt, Int.not_le, Decidable.not_not, List.length_map, List.length_cons, List.length_nil] at hq4)
      refine WpG.seq ?_
      refine WpG.reg ?_
      refine G.mv rfl ?_
      first | refine G.nilcB rfl ?_ | refine G.nilcF rfl ?_ | refine G.nilcE rfl ?_ | refine G.nilcFn rfl ?_
      first | refine G.faddrB rfl ?_ | refine G.faddrF rfl ?_ | refine G.faddrE rfl ?_
      first | refine G.load1B rfl rfl rfl ?_ | refine G.load1F rfl rfl ?_ | refine G.load1E rfl rfl (List.getElem?_eq_getElem (by first | omega | (simp only [List.length_map, List.length_append, List.length_cons, List.length_nil, List.length_replicate, List.length_take, List.length_drop, List.length_set]; omega))) rfl ?_ | refine G.load1EM rfl rfl (List.getElem?_eq_getElem (by first | omega | (simp only [List.length_map, List.length_append, List.length_cons, List.length_nil, List.length_replicate, List.length_take, List.length_drop, List.length_set]; omega))) rfl ?_
      refine G.mv rfl ?_
      refine G.mv rfl ?_
      refine G.bslice (g := 12) rfl rfl rfl rfl ?_
      refine G.iaddrMt rfl rfl rfl (by omega) (by rw [has_len]; omega) ?_
      try rw [Int.toNat_natCast]
      refine G.storeMt (g := 2) (g' := 12) rfl rfl rfl rfl (by rw [has_len]; omega) ?_
      rw [show (encHas S).set q (some [[GV.v (Value.int .u32 n)]]) = encHas (S.set q [n]) from has_set (r := [n])]
      refine WpOpsG.nil ?_
      change WpG _ _ _ _ _
      refine WpG.seq ?_
      refine WpG.reg ?_
      refine G.mv rfl ?_
      refine WpOpsG.nil ?_
      change WpG _ _ _ _ _
      refine WpG.ret ?_
      refine ⟨_, [(1, .box [.fsl 6 (C.map encC), .msl 2]), (2, .mat 1 (encHas (S.set q [n])))], rfl, (hasP_le (by repeat (first | exact trivial | refine ⟨rfl, ?_⟩))), rfl, rfl, rfl, ?_⟩
      have e := send_1 (S := S) (n := n) hql (by omega) hq4
      rw [e.1, e.2]; exact ⟨rfl, rfl⟩
    · (try simp only [decide_eq_true_eq, decide_eq_false_iff_not, Bool.or_eq_true, Bool.and_eq_true, Bool.or_eq_false_iff, Bool.and_eq_false_iff, bne_iff_ne, beq_iff_eq, beq_eq_false_iff_ne, bne_eq_false_iff_eq, ne_eq, Bool.not_eq_true', Bool.not_eq_false', Int.not_lt, Int.not_le, Decidable.not_not, List.length_map, List.length_cons, List.length_nil] at hq4)
      refine WpG.skip ?_
      change WpG _ _ _ _ _
      refine WpG.seq ?_
      refine WpG.seq ?_
      refine WpG.reg ?_
      refine G.mv rfl ?_
      first | refine G.nilcB rfl ?_ | refine G.nilcF rfl ?_ | refine G.nilcE rfl ?_ | refine G.nilcFn rfl ?_
      first | refine G.faddrB rfl ?_ | refine G.faddrF rfl ?_ | refine G.faddrE rfl ?_
      first | refine G.load1B rfl rfl rfl ?_ | refine G.load1F rfl rfl ?_ | refine G.load1E rfl rfl (List.getElem?_eq_getElem (by first | omega | (simp only [List.length_map, List.length_append, List.length_cons, List.length_nil, List.length_replicate, List.length_take, List.length_drop, List.length_set]; omega))) rfl ?_ | refine G.load1EM rfl rfl (List.getElem?_eq_getElem (by first | omega | (simp only [List.length_map, List.length_append, List.length_cons, List.length_nil, List.length_replicate, List.length_take, List.length_drop, List.length_set]; omega))) rfl ?_
      refine G.mv rfl ?_
      refine G.iaddrMt rfl rfl rfl (by omega) (by rw [has_len]; omega) ?_
      try rw [Int.toNat_natCast]
      refine G.load1Mt rfl rfl (has_at (by omega)) ?_
      refine G.lenR rfl rfl (has_at (by omega)) ?_
      rw [List.length_map]
      refine G.mv rfl ?_
      first | refine G.nilcB rfl ?_ | refine G.nilcF rfl ?_ | refine G.nilcE rfl ?_ | refine G.nilcFn rfl ?_
      first | refine G.faddrB rfl ?_ | refine G.faddrF rfl ?_ | refine G.faddrE rfl ?_
      first | refine G.load1B rfl rfl rfl ?_ | refine G.load1F rfl rfl ?_ | refine G.load1E rfl rfl (List.getElem?_eq_getElem (by first | omega | (simp only [List.length_map, List.length_append, List.length_cons, List.length_nil, List.length_replicate, List.length_take, List.length_drop, List.length_set]; omega))) rfl ?_ | refine G.load1EM rfl rfl (List.getElem?_eq_getElem (by first | omega | (simp only [List.length_map, List.length_append, List.length_cons, List.length_nil, List.length_replicate, List.length_take, List.length_drop, List.length_set]; omega))) rfl ?_
      refine G.mv rfl ?_
      refine G.iaddrM rfl rfl (by omega) (gd17 chD (by omega)) ?_
      try rw [Int.toNat_natCast]
      first | refine G.faddrB rfl ?_ | refine G.faddrF rfl ?_ | refine G.faddrE rfl ?_
      first | refine G.load1B rfl rfl rfl ?_ | refine G.load1F rfl rfl ?_ | refine G.load1E rfl rfl (List.getElem?_eq_getElem (by first | omega | (simp only [List.length_map, List.length_append, List.length_cons, List.length_nil, List.length_replicate, List.length_take, List.length_drop, List.length_set]; omega))) rfl ?_ | refine G.load1EM rfl rfl (List.getElem?_eq_getElem (by first | omega | (simp only [List.length_map, List.length_append, List.length_cons, List.length_nil, List.length_replicate, List.length_take, List.length_drop, List.length_set]; omega))) rfl ?_
      refine G.bin rfl rfl rfl ?_
      refine WpOpsG.nil ?_
      change WpG _ _ _ _ _
      refine WpG.cond rfl (fun hq5 => ?_) (fun hq5 => ?_)
      · (try simp only [decide_eq_true_eq, decide_eq_false_iff_not, Bool.or_eq_true, Bool.and_eq_true, Bool.or_eq_false_iff, Bool.and_eq_false_iff, bne_iff_ne, beq_iff_eq, beq_eq_false_iff_ne, bne_eq_false_iff_eq, ne_eq, Bool.not_eq_true', Bool.not_eq_false', Int.not_lt, Int.not_le, Decidable.not_not, List.length_map, List.length_cons, List.length_nil] at hq5)
        refine WpG.seq ?_
        refine WpG.reg ?_
        refine G.mv rfl ?_
        refine WpOpsG.nil ?_
        change WpG _ _ _ _ _
        refine WpG.ret ?_
        refine ⟨_, [(1, .box [.fsl 6 (C.map encC), .msl 2]), (2, .mat 1 (encHas S))], rfl, (hasP_le (by repeat (first | exact trivial | refine ⟨rfl, ?_⟩))), rfl, rfl, rfl, ?_⟩
        have e := send_2 (S := S) (n := n) hql (by omega) hq4 (by omega)
        rw [e.1, e.2]; exact ⟨rfl, rfl⟩
      · (try simp only [decide_eq_true_eq, decide_eq_false_iff_not, Bool.or_eq_true, Bool.and_eq_true, Bool.or_eq_false_iff, Bool.and_eq_false_iff, bne_iff_ne, beq_iff_eq, beq_eq_false_iff_ne, bne_eq_false_iff_eq, ne_eq, Bool.not_eq_true', Bool.not_eq_false', Int.not_lt, Int.not_le, Decidable.not_not, List.length_map, List.length_cons, List.length_nil] at hq5)
        refine WpG.skip ?_
        change WpG _ _ _ _ _
        refine WpG.seq ?_
        refine WpG.reg ?_
        refine G.mv rfl ?_
        first | refine G.nilcB rfl ?_ | refine G.nilcF rfl ?_ | refine G.nilcE rfl ?_ | refine G.nilcFn rfl ?_
        first | refine G.faddrB rfl ?_ | refine G.faddrF rfl ?_ | refine G.faddrE rfl ?_
        first | refine G.load1B rfl rfl rfl ?_ | refine G.load1F rfl rfl ?_ | refine G.load1E rfl rfl (List.getElem?_eq_getElem (by first | omega | (simp only [List.length_map, List.length_append, List.length_cons, List.length_nil, List.length_replicate, List.length_take, List.length_drop, List.length_set]; omega))) rfl ?_ | refine G.load1EM rfl rfl (List.getElem?_eq_getElem (by first | omega | (simp only [List.length_map, List.length_append, List.length_cons, List.length_nil, List.length_replicate, List.length_take, List.length_drop, List.length_set]; omega))) rfl ?_
        refine G.mv rfl ?_
        refine G.bslice (g := 12) rfl rfl rfl rfl ?_
        refine G.mv rfl ?_
        first | refine G.nilcB rfl ?_ | refine G.nilcF rfl ?_ | refine G.nilcE rfl ?_ | refine G.nilcFn rfl ?_
        first | refine G.faddrB rfl ?_ | refine G.faddrF rfl ?_ | refine G.faddrE rfl ?_
        first | refine G.load1B rfl rfl rfl ?_ | refine G.load1F rfl rfl ?_ | refine G.load1E rfl rfl (List.getElem?_eq_getElem (by first | omega | (simp only [List.length_map, List.length_append, List.length_cons, List.length_nil, List.length_replicate, List.length_take, List.length_drop, List.length_set]; omega))) rfl ?_ | refine G.load1EM rfl rfl (List.getElem?_eq_getElem (by first | omega | (simp only [List.length_map, List.length_append, List.length_cons, List.length_nil, List.length_replicate, List.length_take, List.length_drop, List.length_set]; omega))) rfl ?_
        refine G.mv rfl ?_
        refine G.iaddrMt rfl rfl rfl (by omega) (by rw [has_len]; omega) ?_
        try rw [Int.toNat_natCast]
        refine G.load1Mt rfl rfl (has_at (by omega)) ?_
        refine G.mv rfl ?_
        refine G.bsliceF rfl rfl rfl ?_
        refine G.ckapp rfl (.row rfl rfl (has_at (by omega))) rfl rfl trivial (by rw [List.length_map]; show (0 + (S.getD q []).length) * 4 ≤ 2 ^ 47; omega) ?_
        change WpOpsG _ _ _ ((12, .arr .yes 1 ((S.getD q []).map encU)) :: _) _
        refine G.ckapp rfl (.of rfl rfl) rfl rfl trivial (by rw [List.length_map]; show ((S.getD q []).length + 1) * 4 ≤ 2 ^ 47; omega) ?_
        refine G.iaddrMt rfl rfl rfl (by omega) (by rw [has_len]; omega) ?_
        try rw [Int.toNat_natCast]
        refine G.storeMt (g := 2) (g' := 12) rfl rfl rfl rfl (by rw [has_len]; omega) ?_
        rw [show (encHas S).set q (some ((S.getD q []).map encU ++ [[GV.v (Value.int .u32 n)]])) = encHas (S.set q (S.getD q [] ++ [n])) by rw [← has_set, List.map_append]; rfl]
        refine WpOpsG.nil ?_
        change WpG _ _ _ _ _
        refine WpG.seq ?_
        refine WpG.reg ?_
        refine G.mv rfl ?_
        refine WpOpsG.nil ?_
        change WpG _ _ _ _ _
        refine WpG.ret ?_
        refine ⟨_, [(1, .box [.fsl 6 (C.map encC), .msl 2]), (2, .mat 1 (encHas (S.set q (S.getD q [] ++ [n]))))], rfl, (hasP_le (by repeat (first | exact trivial | refine ⟨rfl, ?_⟩))), rfl, rfl, rfl, ?_⟩
        have e := send_3 (S := S) (n := n) hql (by omega) hq4 (by omega)
        rw [e.1, e.2]; exact ⟨rfl, rfl⟩
theorem rrecv_ok (C : List Ch) (S : List (List Int)) (i : Int) (hC : C.length ≤ 2 ^ 30) (hS : S.length = C.length) (hm : smallS (2 ^ 30) S) : WpCallG A 20 [.bptr 1 0, .v (.int .i64 i)] [(1, .box [.fsl 6 (C.map encC), .msl 2]), (2, .mat 1 (encHas S))] (fun v H => v = .tup [.v (.int .u32 (recvN C S i)), .v (.int .u32 (recvC C S i))] ∧ H = [(1, .box [.fsl 6 (C.map encC), .msl 2]), (2, .mat 1 (encHas (recvS C S i)))]) := by
  refine WpCallG.intro g20 rfl rfl ?_
  unfold af20
  change WpG _ _ _ _ _
  refine WpG.seq ?_
  refine WpG.reg ?_
  refine G.mv rfl ?_
  refine G.mv rfl ?_
  refine WpOpsG.nil ?_
  change WpG _ _ _ _ _
  refine WpG.seq ?_
  refine WpG.seq ?_
  refine WpG.reg ?_
  refine G.mv rfl ?_
  refine G.bin rfl rfl rfl ?_
  refine G.mv rfl ?_
  apply G.orS rfl rfl rfl rfl rfl rfl
  case hB =>
    intro hs1
    (try simp only [decide_eq_true_eq, decide_eq_false_iff_not, Bool.or_eq_true, Bool.and_eq_true, Bool.or_eq_false_iff, Bool.and_eq_false_iff, bne_iff_ne, beq_iff_eq, beq_eq_false_iff_ne, bne_eq_false_iff_eq, ne_eq, Bool.not_eq_true', Bool.not_eq_false', Int.not_lt, Int.not_le, Decidable.not_not, List.length_map, List.length_cons, List.length_nil] at hs1)
    refine G.mv rfl ?_
    refine G.mv rfl ?_
    first | refine G.nilcB rfl ?_ | refine G.nilcF rfl ?_ | refine G.nilcE rfl ?_ | refine G.nilcFn rfl ?_
    first | refine G.faddrB rfl ?_ | refine G.faddrF rfl ?_ | refine G.faddrE rfl ?_
    first | refine G.load1B rfl rfl rfl ?_ | refine G.load1F rfl rfl ?_ | refine G.load1E rfl rfl (List.getElem?_eq_getElem (by first | omega | (simp only [List.length_map, List.length_append, List.length_cons, List.length_nil, List.length_replicate, List.length_take, List.length_drop, List.length_set]; omega))) rfl ?_ | refine G.load1EM rfl rfl (List.getElem?_eq_getElem (by first | omega | (simp only [List.length_map, List.length_append, List.length_cons, List.length_nil, List.length_replicate, List.length_take, List.length_drop, List.length_set]; omega))) rfl ?_
    first | refine G.lenM rfl ?_ | refine G.lenOM rfl rfl ?_ | refine G.lenF rfl ?_ | refine G.lenO rfl rfl ?_ | refine G.lenNil rfl ?_
    refine G.bin rfl rfl rfl ?_
    refine WpOpsG.nil ?_
    exact ⟨rfl, (by repeat (first | exact LLe.refl _ | refine LLe.cons rfl ?_)), (by repeat (first | exact HLe.refl _ | refine HLe.cons rfl ?_)), rfl⟩
  refine G.mv rfl ?_
  apply G.orS rfl rfl rfl rfl rfl rfl
  case hB =>
    intro hs2
    (try simp only [decide_eq_true_eq, decide_eq_false_iff_not, Bool.or_eq_true, Bool.and_eq_true, Bool.or_eq_false_iff, Bool.and_eq_false_iff, bne_iff_ne, beq_iff_eq, beq_eq_false_iff_ne, bne_eq_false_iff_eq, ne_eq, Bool.not_eq_true', Bool.not_eq_false', Int.not_lt, Int.not_le, Decidable.not_not, List.length_map, List.length_cons, List.length_nil] at hs2)
    refine G.mv rfl ?_
    first | refine G.nilcB rfl ?_ | refine G.nilcF rfl ?_ | refine G.nilcE rfl ?_ | refine G.nilcFn rfl ?_
    first | refine G.faddrB rfl ?_ | refine G.faddrF rfl ?_ | refine G.faddrE rfl ?_
    first | refine G.load1B rfl rfl rfl ?_ | refine G.load1F rfl rfl ?_ | refine G.load1E rfl rfl (List.getElem?_eq_getElem (by first | omega | (simp only [List.length_map, List.length_append, List.length_cons, List.length_nil, List.length_replicate, List.length_take, List.length_drop, List.length_set]; omega))) rfl ?_ | refine G.load1EM rfl rfl (List.getElem?_eq_getElem (by first | omega | (simp only [List.length_map, List.length_append, List.length_cons, List.length_nil, List.length_replicate, List.length_take, List.length_drop, List.length_set]; omega))) rfl ?_
    refine G.mv rfl ?_
    refine G.iaddrMt rfl rfl rfl (by omega) (by rw [has_len]; omega) ?_
    try rw [Int.toNat_natCast]
    refine G.load1Mt rfl rfl (has_at (by omega)) ?_
    refine G.lenR rfl rfl (has_at (by omega)) ?_
    rw [List.length_map]
    refine G.bin rfl rfl rfl ?_
    refine WpOpsG.nil ?_
    exact ⟨rfl, (by repeat (first | exact LLe.refl _ | refine LLe.cons rfl ?_)), (by repeat (first | exact HLe.refl _ | refine HLe.cons rfl ?_)), rfl⟩
  refine WpOpsG.nil ?_
  change WpG _ _ _ _ _
  refine WpG.cond rfl (fun hq3 => ?_) (fun hq3 => ?_)
  · (try simp only [decide_eq_true_eq, decide_eq_false_iff_not, Bool.or_eq_true, Bool.and_eq_true, Bool.or_eq_false_iff, Bool.and_eq_false_iff, bne_iff_ne, beq_iff_eq, beq_eq_false_iff_ne, bne_eq_false_iff_eq, ne_eq, Bool.not_eq_true', Bool.not_eq_false', Int.not_lt, Int.not_le, Decidable.not_not, List.length_map, List.length_cons, List.length_nil] at hq3)
    refine WpG.seq ?_
    refine WpG.reg ?_
    refine G.mv rfl ?_
    refine G.mv rfl ?_
    refine WpOpsG.nil ?_
    change WpG _ _ _ _ _
    refine WpG.ret ?_
    refine ⟨_, [(1, .box [.fsl 6 (C.map encC), .msl 2]), (2, .mat 1 (encHas S))], rfl, (hasP_le (by repeat (first | exact trivial | refine ⟨rfl, ?_⟩))), rfl, rfl, rfl, ?_⟩
    have e := recv_0' (C := C) (S := S) (i := i) hq3
    rw [e.1, e.2.1, e.2.2]; exact ⟨rfl, rfl⟩
  · (try simp only [decide_eq_true_eq, decide_eq_false_iff_not, Bool.or_eq_true, Bool.and_eq_true, Bool.or_eq_false_iff, Bool.and_eq_false_iff, bne_iff_ne, beq_iff_eq, beq_eq_false_iff_ne, bne_eq_false_iff_eq, ne_eq, Bool.not_eq_true', Bool.not_eq_false', Int.not_lt, Int.not_le, Decidable.not_not, List.length_map, List.length_cons, List.length_nil] at hq3)
    refine WpG.skip ?_
    change WpG _ _ _ _ _
    refine WpG.seq ?_
    obtain ⟨q, rfl⟩ : ∃ q : Nat, i = (q : Int) := ⟨i.toNat, by omega⟩
    have hql : q < C.length := by omega
    have hrl := rowAt_len hm (q : Int)
    rw [rowAt_nat] at hrl
    try rw [Int.toNat_natCast] at *
    refine WpG.reg ?_
    refine G.mv rfl ?_
    first | refine G.nilcB rfl ?_ | refine G.nilcF rfl ?_ | refine G.nilcE rfl ?_ | refine G.nilcFn rfl ?_
    first | refine G.faddrB rfl ?_ | refine G.faddrF rfl ?_ | refine G.faddrE rfl ?_
    first | refine G.load1B rfl rfl rfl ?_ | refine G.load1F rfl rfl ?_ | refine G.load1E rfl rfl (List.getElem?_eq_getElem (by first | omega | (simp only [List.length_map, List.length_append, List.length_cons, List.length_nil, List.length_replicate, List.length_take, List.length_drop, List.length_set]; omega))) rfl ?_ | refine G.load1EM rfl rfl (List.getElem?_eq_getElem (by first | omega | (simp only [List.length_map, List.length_append, List.length_cons, List.length_nil, List.length_replicate, List.length_take, List.length_drop, List.length_set]; omega))) rfl ?_
    refine G.mv rfl ?_
    refine G.iaddrMt rfl rfl rfl (by omega) (by rw [has_len]; omega) ?_
    try rw [Int.toNat_natCast]
    refine G.load1Mt rfl rfl (has_at (by omega)) ?_
    refine G.iaddrR (m := 0) rfl rfl (has_at (by omega)) rfl (by decide) (by rw [List.length_map]; omega) ?_
    refine G.load1R rfl rfl (has_at (by omega)) (head_at (by omega)) rfl ?_
    refine G.mv rfl ?_
    refine WpOpsG.nil ?_
    change WpG _ _ _ _ _
    refine WpG.seq ?_
    refine WpG.seq ?_
    refine WpG.reg ?_
    refine G.mv rfl ?_
    first | refine G.nilcB rfl ?_ | refine G.nilcF rfl ?_ | refine G.nilcE rfl ?_ | refine G.nilcFn rfl ?_
    first | refine G.faddrB rfl ?_ | refine G.faddrF rfl ?_ | refine G.faddrE rfl ?_
    first | refine G.load1B rfl rfl rfl ?_ | refine G.load1F rfl rfl ?_ | refine G.load1E rfl rfl (List.getElem?_eq_getElem (by first | omega | (simp only [List.length_map, List.length_append, List.length_cons, List.length_nil, List.length_replicate, List.length_take, List.length_drop, List.length_set]; omega))) rfl ?_ | refine G.load1EM rfl rfl (List.getElem?_eq_getElem (by first | omega | (simp only [List.length_map, List.length_append, List.length_cons, List.length_nil, List.length_replicate, List.length_take, List.length_drop, List.length_set]; omega))) rfl ?_
    refine G.mv rfl ?_
    refine G.iaddrM rfl rfl (by omega) (gd17 chD (by omega)) ?_
    try rw [Int.toNat_natCast]
    first | refine G.faddrB rfl ?_ | refine G.faddrF rfl ?_ | refine G.faddrE rfl ?_
    first | refine G.load1B rfl rfl rfl ?_ | refine G.load1F rfl rfl ?_ | refine G.load1E rfl rfl (List.getElem?_eq_getElem (by first | omega | (simp only [List.length_map, List.length_append, List.length_cons, List.length_nil, List.length_replicate, List.length_take, List.length_drop, List.length_set]; omega))) rfl ?_ | refine G.load1EM rfl rfl (List.getElem?_eq_getElem (by first | omega | (simp only [List.length_map, List.length_append, List.length_cons, List.length_nil, List.length_replicate, List.length_take, List.length_drop, List.length_set]; omega))) rfl ?_
    refine WpOpsG.nil ?_
    change WpG _ _ _ _ _
    refine WpG.cond rfl (fun hq4 => ?_) (fun hq4 => ?_)
    · (try simp only [decide_eq_true_eq, decide_eq_false_iff_not, Bool.or_eq_true, Bool.and_eq_true, Bool.or_eq_false_iff, Bool.and_eq_false_iff, bne_iff_ne, beq_iff_eq, beq_eq_false_iff_ne, bne_eq_false_iff_eq, ne_eq, Bool.not_eq_true', Bool.not_eq_false', Int.not_lt, Int.not_le, Decidable.not_not, List.length_map, List.length_cons, List.length_nil] at hq4)
      refine WpG.reg ?_
      refine G.mv rfl ?_
      first | refine G.nilcB rfl ?_ | refine G.nilcF rfl ?_ | refine G.nilcE rfl ?_ | refine G.nilcFn rfl ?_
      first | refine G.faddrB rfl ?_ | refine G.faddrF rfl ?_ | refine G.faddrE rfl ?_
      first | refine G.load1B rfl rfl rfl ?_ | refine G.load1F rfl rfl ?_ | refine G.load1E rfl rfl (List.getElem?_eq_getElem (by first | omega | (simp only [List.length_map, List.length_append, List.length_cons, List.length_nil, List.length_replicate, List.length_take, List.length_drop, List.length_set]; omega))) rfl ?_ | refine G.load1EM rfl rfl (List.getElem?_eq_getElem (by first | omega | (simp only [List.length_map, List.length_append, List.length_cons, List.length_nil, List.length_replicate, List.length_take, List.length_drop, List.length_set]; omega))) rfl ?_
      refine G.mv rfl ?_
      refine G.bslice (g := 13) rfl rfl rfl rfl ?_
      refine G.mv rfl ?_
      first | refine G.nilcB rfl ?_ | refine G.nilcF rfl ?_ | refine G.nilcE rfl ?_ | refine G.nilcFn rfl ?_
      first | refine G.faddrB rfl ?_ | refine G.faddrF rfl ?_ | refine G.faddrE rfl ?_
      first | refine G.load1B rfl rfl rfl ?_ | refine G.load1F rfl rfl ?_ | refine G.load1E rfl rfl (List.getElem?_eq_getElem (by first | omega | (simp only [List.length_map, List.length_append, List.length_cons, List.length_nil, List.length_replicate, List.length_take, List.length_drop, List.length_set]; omega))) rfl ?_ | refine G.load1EM rfl rfl (List.getElem?_eq_getElem (by first | omega | (simp only [List.length_map, List.length_append, List.length_cons, List.length_nil, List.length_replicate, List.length_take, List.length_drop, List.length_set]; omega))) rfl ?_
      refine G.mv rfl ?_
      refine G.iaddrMt rfl rfl rfl (by omega) (by rw [has_len]; omega) ?_
      try rw [Int.toNat_natCast]
      refine G.load1Mt rfl rfl (has_at (by omega)) ?_
      refine WpOpsG.outR 58 (g' := 12) rfl rfl (has_at (by omega)) rfl ?_
      refine G.slO (full' := .yes) rfl rfl rfl (bndG_some rfl (by rw [List.length_map]; omega)) ⟨rfl, rfl⟩ ?_
      rw [show (((S.getD q []).map encU).take ((S.getD q []).map encU).length).drop (1 : Int).toNat = (S.getD q []).tail.map encU from tail_at]
      refine G.ckapp rfl (.of rfl rfl) rfl rfl trivial (by rw [List.length_map, List.length_tail]; show (0 + ((S.getD q []).length - 1)) * 4 ≤ 2 ^ 47; omega) ?_
      change WpOpsG _ _ _ ((13, .arr .yes 1 ((S.getD q []).tail.map encU)) :: _) _
      refine G.iaddrMt rfl rfl rfl (by omega) (by rw [List.length_set, has_len]; omega) ?_
      try rw [Int.toNat_natCast]
      refine G.storeMt (g := 2) (g' := 13) rfl rfl rfl rfl (by rw [List.length_set, has_len]; omega) ?_
      rw [has_put]
      refine WpOpsG.nil ?_
      change WpG _ _ _ _ _
      refine WpG.seq ?_
      refine WpG.reg ?_
      refine G.mv rfl ?_
      refine G.mv rfl ?_
      refine G.mv rfl ?_
      refine WpOpsG.nil ?_
      change WpG _ _ _ _ _
      refine WpG.ret ?_
      refine ⟨_, [(1, .box [.fsl 6 (C.map encC), .msl 2]), (2, .mat 1 (encHas (S.set q (S.getD q []).tail)))], rfl, (hasP_le (by repeat (first | exact trivial | refine ⟨rfl, ?_⟩))), rfl, rfl, rfl, ?_⟩
      have e := recv_1 (C := C) (S := S) hql (by omega)
      rw [e.1, e.2.1, e.2.2]; first
        | (rw [if_pos hq4]; exact ⟨rfl, rfl⟩)
        | (rw [if_neg (by rw [hq4]; decide)]; exact ⟨rfl, rfl⟩)
    · (try simp only [decide_eq_true_eq, decide_eq_false_iff_not, Bool.or_eq_true, Bool.and_eq_true, Bool.or_eq_false_iff, Bool.and_eq_false_iff, bne_iff_ne, beq_iff_eq, beq_eq_false_iff_ne, bne_eq_false_iff_eq, ne_eq, Bool.not_eq_true', Bool.not_eq_false', Int.not_lt, Int.not_le, Decidable.not_not, List.length_map, List.length_cons, List.length_nil] at hq4)
      refine WpG.skip ?_
      change WpG _ _ _ _ _
      refine WpG.seq ?_
      refine WpG.reg ?_
      refine G.mv rfl ?_
      refine G.mv rfl ?_
      refine G.mv rfl ?_
      refine WpOpsG.nil ?_
      change WpG _ _ _ _ _
      refine WpG.ret ?_
      refine ⟨_, [(1, .box [.fsl 6 (C.map encC), .msl 2]), (2, .mat 1 (encHas S))], rfl, (hasP_le (by repeat (first | exact trivial | refine ⟨rfl, ?_⟩))), rfl, rfl, rfl, ?_⟩
      have e := recv_1 (C := C) (S := S) hql (by omega)
      rw [e.1, e.2.1, e.2.2]; first
        | (rw [if_pos hq4]; exact ⟨rfl, rfl⟩)
        | (rw [if_neg (by rw [hq4]; decide)]; exact ⟨rfl, rfl⟩)
end Go.AM.L17
