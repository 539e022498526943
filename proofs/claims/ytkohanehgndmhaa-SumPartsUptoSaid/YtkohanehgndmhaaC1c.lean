/- Contracts of the functions that the statement reaches. No condition. -/
import Derived.Test.YtkohanehgndmhaaC1b
import Derived.Test.YtkohanehgndmhaaPL1b
set_option linter.all false
set_option maxRecDepth 10000
namespace Go.AM.L1
open Go.AM.PL
theorem sumTells_ok (l : List UInt8) (c : BitVec 32) (x : UInt8) (n : Int) (y : UInt8) (hl : l.length + 8 ≤ 2 ^ 47) (hn : i64 n) : WpCallG A 4 [.fsl 1 (l.map encB), .v (.int .u32 (I32 (c))), .v (.int .u8 (x.toNat : Int)), .v (.int .i64 n), .v (.int .u8 (y.toNat : Int))] [] (fun v H => v = .v (.bool true) ∧ H = []) := by
  have hsl := sealB_len l
  refine WpCallG.intro g4 rfl rfl ?_
  unfold af4
  change WpG _ _ _ _ _
  refine WpG.seq ?_
  refine WpG.reg ?_
  refine G.mv rfl ?_
  refine WpOpsG.nil ?_
  change WpG _ _ _ _ _
  refine WpG.seq ?_
  refine WpG.reg ?_
  refine G.mv rfl ?_
  refine G.call0 rfl rfl ((rseal_ok l (by omega)).ren [(0, 20)]) ?_
  rintro _ _ ⟨_, _, ⟨rfl, rfl⟩, rfl, rfl⟩
  change newOk _ _ [(20, _)] = true ∧ _
  refine ⟨rfl, ?_⟩
  change WpOpsG _ _ ((13, .osl 20) :: _) ([(20, .arr .yes 1 ((sealB l).map encB))] ++ _) _
  refine G.mv rfl ?_
  refine WpOpsG.nil ?_
  change WpG _ _ _ _ _
  refine WpG.seq ?_
  refine WpG.reg ?_
  refine G.mv rfl ?_
  refine G.mv rfl ?_
  refine G.mv rfl ?_
  first | refine G.lenM rfl ?_ | refine G.lenOM rfl rfl ?_ | refine G.lenF rfl ?_ | refine G.lenO rfl rfl ?_ | refine G.lenNil rfl ?_
  rw [hsl]
  first | refine G.subI rfl rfl (by omega) ?_ | refine G.bin rfl rfl rfl ?_
  rw [show ((l.length + 4 : Nat) : Int) - 1 = ((l.length + 3 : Nat) : Int) by omega]
  refine G.call0 rfl rfl (within_ok n 0 ((l.length + 3 : Nat) : Int) hn (by decide) (by omega) (by omega)) ?_
  rintro _ _ ⟨rfl, rfl⟩
  refine ⟨rfl, ?_⟩
  change WpOpsG _ _ ((19, _) :: _) _ _
  obtain ⟨p, hp, hp2⟩ := within_nat1 n (l.length + 3)
  rw [hp]
  have hk : p < (sealB l).length := by omega
  first | refine G.iaddrN rfl rfl (List.getElem?_eq_getElem (by first | omega | (simp only [List.length_map, List.length_append, List.length_cons, List.length_nil, List.length_replicate, List.length_take, List.length_drop, List.length_set]; omega))) ?_ | refine G.iaddrM rfl rfl (by omega) (List.getElem?_eq_getElem (by first | omega | (simp only [List.length_map, List.length_append, List.length_cons, List.length_nil, List.length_replicate, List.length_take, List.length_drop, List.length_set]; omega))) ?_ | refine G.iaddrF rfl rfl (by omega) rfl ?_ | refine G.iaddrO rfl rfl rfl (by omega) (by first | omega | (simp only [List.length_map, List.length_append, List.length_cons, List.length_nil, List.length_replicate, List.length_take, List.length_drop, List.length_set]; omega)) ?_ | refine G.iaddrF rfl rfl (by omega) (List.getElem?_eq_getElem (by first | omega | (simp only [List.length_map, List.length_append, List.length_cons, List.length_nil, List.length_replicate, List.length_take, List.length_drop, List.length_set]; omega))) ?_
  first | refine G.load1B rfl rfl rfl ?_ | refine G.load1F rfl rfl ?_ | refine G.load1E rfl rfl (List.getElem?_eq_getElem (by first | omega | (simp only [List.length_map, List.length_append, List.length_cons, List.length_nil, List.length_replicate, List.length_take, List.length_drop, List.length_set]; omega))) rfl ?_ | refine G.load1EM rfl rfl (List.getElem?_eq_getElem (by first | omega | (simp only [List.length_map, List.length_append, List.length_cons, List.length_nil, List.length_replicate, List.length_take, List.length_drop, List.length_set]; omega))) rfl ?_
  refine G.mv rfl ?_
  refine G.xorK rfl rfl ?_
  rw [xor8]
  first | refine G.iaddrN rfl rfl (List.getElem?_eq_getElem (by first | omega | (simp only [List.length_map, List.length_append, List.length_cons, List.length_nil, List.length_replicate, List.length_take, List.length_drop, List.length_set]; omega))) ?_ | refine G.iaddrM rfl rfl (by omega) (List.getElem?_eq_getElem (by first | omega | (simp only [List.length_map, List.length_append, List.length_cons, List.length_nil, List.length_replicate, List.length_take, List.length_drop, List.length_set]; omega))) ?_ | refine G.iaddrF rfl rfl (by omega) rfl ?_ | refine G.iaddrO rfl rfl rfl (by omega) (by first | omega | (simp only [List.length_map, List.length_append, List.length_cons, List.length_nil, List.length_replicate, List.length_take, List.length_drop, List.length_set]; omega)) ?_ | refine G.iaddrF rfl rfl (by omega) (List.getElem?_eq_getElem (by first | omega | (simp only [List.length_map, List.length_append, List.length_cons, List.length_nil, List.length_replicate, List.length_take, List.length_drop, List.length_set]; omega))) ?_
  refine G.storeEM ((sealB l)[p] ^^^ y) rfl rfl rfl (List.getElem?_eq_getElem hk) rfl rfl rfl rfl ?_
  refine WpOpsG.nil ?_
  change WpG _ _ _ _ _
  refine WpG.seq ?_
  refine WpG.reg ?_
  refine G.mv rfl ?_
  refine G.mv rfl ?_
  refine G.mv rfl ?_
  refine G.call0 rfl rfl (same_ok l c x (by omega)) ?_
  rintro _ _ ⟨rfl, rfl⟩
  refine ⟨rfl, ?_⟩
  change WpOpsG _ _ ((28, _) :: _) _ _
  refine G.mv rfl ?_
  refine G.yes rfl ?_
  refine G.mv rfl ?_
  refine G.yes rfl ?_
  refine G.mv rfl ?_
  refine G.yes rfl ?_
  refine G.andK rfl rfl ?_
  rw [and32I]
  refine G.yes rfl ?_
  refine G.mv rfl ?_
  refine G.yes rfl ?_
  refine G.lend rfl rfl (same_ok ((sealB l).set p ((sealB l)[p] ^^^ y)) _ x (by rw [List.length_set]; omega)) ?_
  rintro _ _ ⟨rfl, rfl⟩
  refine ⟨rfl, trivial, rfl, ?_⟩
  change WpOpsG _ _ ((34, _) :: _) _ _
  first | refine G.pickT rfl rfl ?_ | refine G.pickF rfl rfl ?_ | refine G.pick rfl rfl rfl ?_
  refine G.mv rfl ?_
  refine G.yes rfl ?_
  refine G.mv rfl ?_
  refine G.yes rfl ?_
  refine G.call0 rfl rfl ((rseal_ok l (by omega)).ren [(0, 21)]) ?_
  rintro _ _ ⟨_, _, ⟨rfl, rfl⟩, rfl, rfl⟩
  change newOk _ _ [(21, _)] = true ∧ _
  refine ⟨rfl, ?_⟩
  change WpOpsG _ _ ((38, .osl 21) :: _) ([(21, .arr .yes 1 ((sealB l).map encB))] ++ _) _
  refine G.yes rfl ?_
  refine G.mv rfl ?_
  refine G.yes rfl ?_
  refine G.mv rfl ?_
  refine G.yes rfl ?_
  refine G.lend rfl rfl (same_ok (sealB l) c x (by omega)) ?_
  rintro _ _ ⟨rfl, rfl⟩
  refine ⟨rfl, trivial, rfl, ?_⟩
  change WpOpsG _ _ ((41, _) :: _) _ _
  first | refine G.pickT rfl rfl ?_ | refine G.pickF rfl rfl ?_ | refine G.pick rfl rfl rfl ?_
  refine G.mv rfl ?_
  refine G.yes rfl ?_
  refine G.call0 rfl rfl (known_ok) ?_
  rintro _ _ ⟨rfl, rfl⟩
  refine ⟨rfl, ?_⟩
  change WpOpsG _ _ ((44, _) :: _) _ _
  first | refine G.pickT rfl rfl ?_ | refine G.pickF rfl rfl ?_ | refine G.pick rfl rfl rfl ?_
  refine G.mv rfl ?_
  refine WpOpsG.nil ?_
  change WpG _ _ _ _ _
  refine WpG.ret ?_
  refine ⟨_, [], rfl, (hasP_le (by repeat (first | exact trivial | refine ⟨rfl, ?_⟩))), rfl, rfl, rfl, ?_⟩
  exact ⟨rfl, rfl⟩
theorem sumTurns_ok (l : List UInt8) (n m : Int) (hl : l.length + 8 ≤ 2 ^ 47) (hn : i64 n) : WpCallG A 5 [.fsl 1 (l.map encB), .v (.int .i64 n), .v (.int .i64 m)] [] (fun v H => v = .v (.bool true) ∧ H = []) := by
  have hsl := sealB_len l
  obtain ⟨q, hq, hq2⟩ := and_rng1 m 7 (by decide)
  refine WpCallG.intro g5 rfl rfl ?_
  unfold af5
  change WpG _ _ _ _ _
  refine WpG.seq ?_
  refine WpG.reg ?_
  refine G.mv rfl ?_
  refine WpOpsG.nil ?_
  change WpG _ _ _ _ _
  refine WpG.seq ?_
  refine WpG.reg ?_
  refine G.mv rfl ?_
  refine G.call0 rfl rfl ((seal_ok l (by omega)).ren [(0, 20)]) ?_
  rintro _ _ ⟨_, _, ⟨rfl, rfl⟩, rfl, rfl⟩
  change newOk _ _ [(20, _)] = true ∧ _
  refine ⟨rfl, ?_⟩
  change WpOpsG _ _ ((13, .osl 20) :: _) ([(20, .arr .yes 1 ((sealB l).map encB))] ++ _) _
  refine G.mv rfl ?_
  refine WpOpsG.nil ?_
  change WpG _ _ _ _ _
  refine WpG.seq ?_
  refine WpG.seq ?_
  refine WpG.reg ?_
  refine G.mv rfl ?_
  first | refine G.lenM rfl ?_ | refine G.lenOM rfl rfl ?_ | refine G.lenF rfl ?_ | refine G.lenO rfl rfl ?_ | refine G.lenNil rfl ?_
  rw [hsl]
  refine G.mv rfl ?_
  first | refine G.lenM rfl ?_ | refine G.lenOM rfl rfl ?_ | refine G.lenF rfl ?_ | refine G.lenO rfl rfl ?_ | refine G.lenNil rfl ?_
  first | refine G.addI rfl rfl (by omega) ?_ | refine G.bin rfl rfl rfl ?_
  refine G.bin rfl rfl rfl ?_
  refine WpOpsG.nil ?_
  change WpG _ _ _ _ _
  refine WpG.cond rfl (fun hq1 => ?_) (fun hq1 => ?_)
  · (try simp only [decide_eq_true_eq, decide_eq_false_iff_not, Bool.or_eq_true, Bool.and_eq_true, Bool.or_eq_false_iff, Bool.and_eq_false_iff, bne_iff_ne, beq_iff_eq, beq_eq_false_iff_ne, bne_eq_false_iff_eq, ne_eq, Bool.not_eq_true', Bool.not_eq_false', Int.not_lt, Int.not_le, Decidable.not_not, List.length_map, List.length_cons, List.length_nil] at hq1)
    exfalso; omega
  · (try simp only [decide_eq_true_eq, decide_eq_false_iff_not, Bool.or_eq_true, Bool.and_eq_true, Bool.or_eq_false_iff, Bool.and_eq_false_iff, bne_iff_ne, beq_iff_eq, beq_eq_false_iff_ne, bne_eq_false_iff_eq, ne_eq, Bool.not_eq_true', Bool.not_eq_false', Int.not_lt, Int.not_le, Decidable.not_not, List.length_map, List.length_cons, List.length_nil] at hq1)
    refine WpG.skip ?_
    change WpG _ _ _ _ _
    refine WpG.seq ?_
    refine WpG.reg ?_
    refine G.mv rfl ?_
    refine G.lend rfl rfl ((open_ok (sealB l) (by omega)).ren [(0, 21)]) ?_
    rintro _ _ ⟨_, _, ⟨rfl, rfl⟩, rfl, rfl⟩
    refine ⟨rfl, ⟨flat_map (fun _ => rfl), trivial⟩, rfl, ?_⟩
    change WpOpsG _ _ ((22, .tup [.osl 21, .v (.bool (openB (sealB l)))]) :: _) ([(21, .arr .yes 1 ((bodyB (sealB l)).map encB))] ++ _) _
    rw [open_seal, body_seal]
    refine G.mv rfl ?_
    refine G.ext rfl rfl ?_
    refine G.ext rfl rfl ?_
    refine G.mv rfl ?_
    refine G.mv rfl ?_
    refine WpOpsG.nil ?_
    change WpG _ _ _ _ _
    refine WpG.seq ?_
    refine WpG.reg ?_
    refine G.mv rfl ?_
    refine G.mv rfl ?_
    refine G.mv rfl ?_
    first | refine G.lenM rfl ?_ | refine G.lenOM rfl rfl ?_ | refine G.lenF rfl ?_ | refine G.lenO rfl rfl ?_ | refine G.lenNil rfl ?_
    rw [hsl]
    first | refine G.subI rfl rfl (by omega) ?_ | refine G.bin rfl rfl rfl ?_
    rw [show ((l.length + 4 : Nat) : Int) - 1 = ((l.length + 3 : Nat) : Int) by omega]
    refine G.call0 rfl rfl (within_ok n 0 ((l.length + 3 : Nat) : Int) hn (by decide) (by omega) (by omega)) ?_
    rintro _ _ ⟨rfl, rfl⟩
    refine ⟨rfl, ?_⟩
    change WpOpsG _ _ ((30, _) :: _) _ _
    obtain ⟨p, hp, hp2⟩ := within_nat1 n (l.length + 3)
    rw [hp]
    have hk : p < (sealB l).length := by omega
    first | refine G.iaddrN rfl rfl (List.getElem?_eq_getElem (by first | omega | (simp only [List.length_map, List.length_append, List.length_cons, List.length_nil, List.length_replicate, List.length_take, List.length_drop, List.length_set]; omega))) ?_ | refine G.iaddrM rfl rfl (by omega) (List.getElem?_eq_getElem (by first | omega | (simp only [List.length_map, List.length_append, List.length_cons, List.length_nil, List.length_replicate, List.length_take, List.length_drop, List.length_set]; omega))) ?_ | refine G.iaddrF rfl rfl (by omega) rfl ?_ | refine G.iaddrO rfl rfl rfl (by omega) (by first | omega | (simp only [List.length_map, List.length_append, List.length_cons, List.length_nil, List.length_replicate, List.length_take, List.length_drop, List.length_set]; omega)) ?_ | refine G.iaddrF rfl rfl (by omega) (List.getElem?_eq_getElem (by first | omega | (simp only [List.length_map, List.length_append, List.length_cons, List.length_nil, List.length_replicate, List.length_take, List.length_drop, List.length_set]; omega))) ?_
    first | refine G.load1B rfl rfl rfl ?_ | refine G.load1F rfl rfl ?_ | refine G.load1E rfl rfl (List.getElem?_eq_getElem (by first | omega | (simp only [List.length_map, List.length_append, List.length_cons, List.length_nil, List.length_replicate, List.length_take, List.length_drop, List.length_set]; omega))) rfl ?_ | refine G.load1EM rfl rfl (List.getElem?_eq_getElem (by first | omega | (simp only [List.length_map, List.length_append, List.length_cons, List.length_nil, List.length_replicate, List.length_take, List.length_drop, List.length_set]; omega))) rfl ?_
    refine G.mv rfl ?_
    refine G.andK rfl rfl ?_
    rw [show andI .i64 m 7 = (q : Int) from hq]
    first | refine G.convU64B rfl ?_ | refine G.convU .u64 rfl (by rw [wrap_u64]; omega) ?_ | refine G.convi rfl ?_
    refine G.bin rfl rfl rfl ?_
    rw [show IntKind.u8.wrap (1 * 2 ^ (min (q : Int).toNat IntKind.u8.bits)) = ((b8 (1 * 2 ^ (min (q : Int).toNat 8))).toNat : Int) from b8w _]
    refine G.xorK rfl rfl ?_
    rw [xor8]
    first | refine G.iaddrN rfl rfl (List.getElem?_eq_getElem (by first | omega | (simp only [List.length_map, List.length_append, List.length_cons, List.length_nil, List.length_replicate, List.length_take, List.length_drop, List.length_set]; omega))) ?_ | refine G.iaddrM rfl rfl (by omega) (List.getElem?_eq_getElem (by first | omega | (simp only [List.length_map, List.length_append, List.length_cons, List.length_nil, List.length_replicate, List.length_take, List.length_drop, List.length_set]; omega))) ?_ | refine G.iaddrF rfl rfl (by omega) rfl ?_ | refine G.iaddrO rfl rfl rfl (by omega) (by first | omega | (simp only [List.length_map, List.length_append, List.length_cons, List.length_nil, List.length_replicate, List.length_take, List.length_drop, List.length_set]; omega)) ?_ | refine G.iaddrF rfl rfl (by omega) (List.getElem?_eq_getElem (by first | omega | (simp only [List.length_map, List.length_append, List.length_cons, List.length_nil, List.length_replicate, List.length_take, List.length_drop, List.length_set]; omega))) ?_
    refine G.storeEM ((sealB l)[p] ^^^ b8 (1 * 2 ^ (min (q : Int).toNat 8))) rfl rfl rfl (List.getElem?_eq_getElem hk) rfl rfl rfl rfl ?_
    refine WpOpsG.nil ?_
    change WpG _ _ _ _ _
    refine WpG.seq ?_
    refine WpG.reg ?_
    refine G.mv rfl ?_
    refine G.lend rfl rfl ((open_ok ((sealB l).set p ((sealB l)[p] ^^^ b8 (1 * 2 ^ (min (q : Int).toNat 8)))) (by rw [List.length_set]; omega)).ren [(0, 22)]) ?_
    rintro _ _ ⟨_, _, ⟨rfl, rfl⟩, rfl, rfl⟩
    refine ⟨rfl, ⟨flat_map (fun _ => rfl), trivial⟩, rfl, ?_⟩
    change WpOpsG _ _ ((41, .tup [.osl 22, .v (.bool (openB ((sealB l).set p ((sealB l)[p] ^^^ b8 (1 * 2 ^ (min (q : Int).toNat 8))))))]) :: _) ([(22, .arr .yes 1 ((bodyB ((sealB l).set p ((sealB l)[p] ^^^ b8 (1 * 2 ^ (min (q : Int).toNat 8))))).map encB))] ++ _) _
    rw [open_turned2 hk hq2]
    refine G.mv rfl ?_
    refine G.ext rfl rfl ?_
    refine G.ext rfl rfl ?_
    refine G.mv rfl ?_
    refine G.mv rfl ?_
    refine WpOpsG.nil ?_
    change WpG _ _ _ _ _
    refine WpG.seq ?_
    refine WpG.reg ?_
    refine G.mv rfl ?_
    refine G.mv rfl ?_
    refine G.yes rfl ?_
    refine G.mv rfl ?_
    refine G.yes rfl ?_
    first | refine G.convbs rfl rfl (bytesG_map _) (fun _ h => by cases h) ?_ | refine G.convbs rfl rfl rfl (fun _ h => by cases h) ?_
    refine G.yes rfl ?_
    refine G.mv rfl ?_
    refine G.yes rfl ?_
    first | refine G.convbs rfl rfl (bytesG_map _) (fun _ h => by cases h) ?_ | refine G.convbs rfl rfl rfl (fun _ h => by cases h) ?_
    refine G.yes rfl ?_
    refine G.bin rfl rfl rfl ?_
    rw [show ((⟨(l).toArray⟩ : ByteArray).toList == (⟨(l).toArray⟩ : ByteArray).toList) = true by simp]
    first | refine G.pickT rfl rfl ?_ | refine G.pickF rfl rfl ?_ | refine G.pick rfl rfl rfl ?_
    refine G.mv rfl ?_
    refine G.yes rfl ?_
    refine G.mv rfl ?_
    refine G.yes rfl ?_
    refine G.un rfl rfl ?_
    first | refine G.pickT rfl rfl ?_ | refine G.pickF rfl rfl ?_ | refine G.pick rfl rfl rfl ?_
    refine G.mv rfl ?_
    refine G.yes rfl ?_
    refine G.call0 rfl rfl (known_ok) ?_
    rintro _ _ ⟨rfl, rfl⟩
    refine ⟨rfl, ?_⟩
    change WpOpsG _ _ ((57, _) :: _) _ _
    first | refine G.pickT rfl rfl ?_ | refine G.pickF rfl rfl ?_ | refine G.pick rfl rfl rfl ?_
    refine G.mv rfl ?_
    refine WpOpsG.nil ?_
    change WpG _ _ _ _ _
    refine WpG.ret ?_
    refine ⟨_, [], rfl, (hasP_le (by repeat (first | exact trivial | refine ⟨rfl, ?_⟩))), rfl, rfl, rfl, ?_⟩
    exact ⟨rfl, rfl⟩
theorem sumParts_ok (a b : List UInt8) (hl : a.length + b.length ≤ 2 ^ 47) : WpCallG A 6 [.fsl 1 (a.map encB), .fsl 1 (b.map encB)] [] (fun v H => v = .v (.bool true) ∧ H = []) := by
  obtain ⟨m, hm⟩ : ∃ m, m = min a.length b.length := ⟨_, rfl⟩
  refine WpCallG.intro g6 rfl rfl ?_
  unfold af6
  change WpG _ _ _ _ _
  refine WpG.seq ?_
  refine WpG.reg ?_
  refine G.mv rfl ?_
  refine WpOpsG.nil ?_
  change WpG _ _ _ _ _
  refine WpG.seq ?_
  refine WpG.reg ?_
  refine G.mv rfl ?_
  refine G.call0 rfl rfl (of_ok a (by omega)) ?_
  rintro _ _ ⟨rfl, rfl⟩
  refine ⟨rfl, ?_⟩
  change WpOpsG _ _ ((12, _) :: _) _ _
  refine G.un (r := .int .u32 (I32 (~~~ sumB a))) rfl (congrArg some (congrArg (Value.int .u32) (not32 _))) ?_
  rw [show ~~~ sumB a = crc 4294967295#32 (a ++ b.take 0) by unfold sumB; rw [BitVec.not_not, List.take_zero, List.append_nil]]
  refine G.mv rfl ?_
  refine WpOpsG.nil ?_
  change WpG _ _ _ _ _
  refine WpG.seq ?_
  refine WpG.seq ?_
  refine WpG.reg ?_
  refine G.mv rfl ?_
  first | refine G.lenM rfl ?_ | refine G.lenOM rfl rfl ?_ | refine G.lenF rfl ?_ | refine G.lenO rfl rfl ?_ | refine G.lenNil rfl ?_
  refine G.mv rfl ?_
  refine WpOpsG.nil ?_
  change WpG _ _ _ _ _
  refine WpG.block ?_
  refine WpG.loop (S := Nat) (fun i => [(0, .fsl 1 (a.map encB)), (1, .fsl 1 (b.map encB)), (5, .v (.int .u32 (I32 (crc 4294967295#32 (a ++ b.take i))))), (14, .fsl 1 (b.map encB)), (15, .v (.int .i64 (b.length))), (16, .v (.int .i64 i))]) (fun _ => []) (fun i => i ≤ b.length) (fun i => b.length - i) (fun s => ⟨rfl, rfl⟩) ?_ 0 ?_ (by repeat (first | exact trivial | refine ⟨rfl, ?_⟩)) (by repeat (first | exact trivial | refine ⟨rfl, ?_⟩)) rfl
  · rintro i hI
    refine WpG.seq ?_
    refine WpG.reg ?_
    refine G.bin rfl rfl rfl ?_
    refine WpOpsG.nil ?_
    change WpG _ _ _ _ _
    refine WpG.seq ?_
    refine WpG.cond rfl (fun hq1 => ?_) (fun hq1 => ?_)
    · (try simp only [decide_eq_true_eq, decide_eq_false_iff_not, Bool.or_eq_true, Bool.and_eq_true, Bool.or_eq_false_iff, Bool.and_eq_false_iff, bne_iff_ne, beq_iff_eq, beq_eq_false_iff_ne, bne_eq_false_iff_eq, ne_eq, Bool.not_eq_true', Bool.not_eq_false', Int.not_lt, Int.not_le, Decidable.not_not, List.length_map, List.length_cons, List.length_nil] at hq1)
      refine WpG.skip ?_
      change WpG _ _ _ _ _
      refine WpG.seq ?_
      refine WpG.block ?_
      refine WpG.seq ?_
      refine WpG.reg ?_
      first | refine G.iaddrN rfl rfl (List.getElem?_eq_getElem (by first | omega | (simp only [List.length_map, List.length_append, List.length_cons, List.length_nil, List.length_replicate, List.length_take, List.length_drop, List.length_set]; omega))) ?_ | refine G.iaddrM rfl rfl (by omega) (List.getElem?_eq_getElem (by first | omega | (simp only [List.length_map, List.length_append, List.length_cons, List.length_nil, List.length_replicate, List.length_take, List.length_drop, List.length_set]; omega))) ?_ | refine G.iaddrF rfl rfl (by omega) rfl ?_ | refine G.iaddrO rfl rfl rfl (by omega) (by first | omega | (simp only [List.length_map, List.length_append, List.length_cons, List.length_nil, List.length_replicate, List.length_take, List.length_drop, List.length_set]; omega)) ?_ | refine G.iaddrF rfl rfl (by omega) (List.getElem?_eq_getElem (by first | omega | (simp only [List.length_map, List.length_append, List.length_cons, List.length_nil, List.length_replicate, List.length_take, List.length_drop, List.length_set]; omega))) ?_
      first | refine G.load1B rfl rfl rfl ?_ | refine G.load1F rfl rfl ?_ | refine G.load1E rfl rfl (List.getElem?_eq_getElem (by first | omega | (simp only [List.length_map, List.length_append, List.length_cons, List.length_nil, List.length_replicate, List.length_take, List.length_drop, List.length_set]; omega))) rfl ?_ | refine G.load1EM rfl rfl (List.getElem?_eq_getElem (by first | omega | (simp only [List.length_map, List.length_append, List.length_cons, List.length_nil, List.length_replicate, List.length_take, List.length_drop, List.length_set]; omega))) rfl ?_
      refine G.mv rfl ?_
      refine WpOpsG.nil ?_
      change WpG _ _ _ _ _
      refine WpG.reg ?_
      refine G.mv rfl ?_
      refine G.mv rfl ?_
      refine G.call0 rfl rfl (next_ok1 (crc 4294967295#32 (a ++ b.take i)) b[i]) ?_
      rintro _ _ ⟨rfl, rfl⟩
      refine ⟨rfl, ?_⟩
      change WpOpsG _ _ ((22, _) :: _) _ _
      refine G.mv rfl ?_
      refine WpOpsG.nil ?_
      change WpG _ _ _ _ _
      refine WpG.reg ?_
      first | refine G.addI rfl rfl (by omega) ?_ | refine G.bin rfl rfl rfl ?_
      refine G.mv rfl ?_
      refine WpOpsG.nil ?_
      refine ⟨i + 1, by omega, by omega, ⟨rfl, rfl, ?_, rfl, rfl, rfl, trivial⟩, (by repeat (first | exact trivial | refine ⟨rfl, ?_⟩)), rfl⟩
      · rw [show crc 4294967295#32 (a ++ b.take (i + 1)) = nxt (crc 4294967295#32 (a ++ b.take i)) b[i] by unfold crc; rw [List.take_succ_eq_append_getElem (by omega : i < b.length), ← List.append_assoc, List.foldl_append]; rfl]; rfl
    · (try simp only [decide_eq_true_eq, decide_eq_false_iff_not, Bool.or_eq_true, Bool.and_eq_true, Bool.or_eq_false_iff, Bool.and_eq_false_iff, bne_iff_ne, beq_iff_eq, beq_eq_false_iff_ne, bne_eq_false_iff_eq, ne_eq, Bool.not_eq_true', Bool.not_eq_false', Int.not_lt, Int.not_le, Decidable.not_not, List.length_map, List.length_cons, List.length_nil] at hq1)
      refine WpG.exit ?_
      change WpG _ _ _ _ _
      refine WpG.seq ?_
      refine WpG.reg ?_
      refine G.mv rfl ?_
      first | refine G.lenM rfl ?_ | refine G.lenOM rfl rfl ?_ | refine G.lenF rfl ?_ | refine G.lenO rfl rfl ?_ | refine G.lenNil rfl ?_
      refine G.mv rfl ?_
      first | refine G.lenM rfl ?_ | refine G.lenOM rfl rfl ?_ | refine G.lenF rfl ?_ | refine G.lenO rfl rfl ?_ | refine G.lenNil rfl ?_
      refine G.mn rfl rfl ?_
      rw [show min (a.length : Int) (b.length : Int) = (m : Int) by omega]
      refine G.mv rfl ?_
      refine WpOpsG.nil ?_
      change WpG _ _ _ _ _
      refine WpG.seq ?_
      refine WpG.reg ?_
      refine G.mv rfl ?_
      refine G.mkslice (g := 20) rfl rfl (by omega) (by omega) (by omega) (by omega) rfl rfl rfl rfl ?_
      change WpOpsG _ _ ((30, .osl 20) :: _) ((20, .arr .yes 1 (List.replicate m (encB 0))) :: _) _
      rw [show List.replicate m (encB 0) = (zx a b 0).map encB by unfold zx; rw [List.map_append, List.map_replicate, ← hm]; rfl]
      refine G.mv rfl ?_
      refine WpOpsG.nil ?_
      change WpG _ _ _ _ _
      refine WpG.seq ?_
      refine WpG.seq ?_
      refine WpG.reg ?_
      refine G.mv rfl ?_
      refine WpOpsG.nil ?_
      change WpG _ _ _ _ _
      refine WpG.block ?_
      refine WpG.loop (S := Nat) (fun j => [(0, .fsl 1 (a.map encB)), (1, .fsl 1 (b.map encB)), (5, .v (.int .u32 (I32 (crc 4294967295#32 (a ++ b.take i))))), (8, .v (.int .i64 (m : Int))), (9, .osl 20), (10, .v (.int .i64 j))]) (fun j => [(20, .arr .yes 1 ((zx a b j).map encB))]) (fun j => j ≤ m) (fun j => m - j) (fun s => ⟨rfl, rfl⟩) ?_ 0 ?_ (by repeat (first | exact trivial | refine ⟨rfl, ?_⟩)) (by repeat (first | exact trivial | refine ⟨rfl, ?_⟩)) rfl
      · intro j hJ
        have hzl := zx_len a b j (by omega)
        refine WpG.seq ?_
        refine WpG.seq ?_
        refine WpG.reg ?_
        refine G.mv rfl ?_
        refine G.mv rfl ?_
        refine G.bin rfl rfl rfl ?_
        refine WpOpsG.nil ?_
        change WpG _ _ _ _ _
        refine WpG.cond rfl (fun hq2 => ?_) (fun hq2 => ?_)
        · (try simp only [decide_eq_true_eq, decide_eq_false_iff_not, Bool.or_eq_true, Bool.and_eq_true, Bool.or_eq_false_iff, Bool.and_eq_false_iff, bne_iff_ne, beq_iff_eq, beq_eq_false_iff_ne, bne_eq_false_iff_eq, ne_eq, Bool.not_eq_true', Bool.not_eq_false', Int.not_lt, Int.not_le, Decidable.not_not, List.length_map, List.length_cons, List.length_nil] at hq2)
          refine WpG.skip ?_
          change WpG _ _ _ _ _
          refine WpG.seq ?_
          refine WpG.block ?_
          refine WpG.reg ?_
          refine G.mv rfl ?_
          refine G.mv rfl ?_
          refine G.mv rfl ?_
          refine G.mv rfl ?_
          first | refine G.iaddrN rfl rfl (List.getElem?_eq_getElem (by first | omega | (simp only [List.length_map, List.length_append, List.length_cons, List.length_nil, List.length_replicate, List.length_take, List.length_drop, List.length_set]; omega))) ?_ | refine G.iaddrM rfl rfl (by omega) (List.getElem?_eq_getElem (by first | omega | (simp only [List.length_map, List.length_append, List.length_cons, List.length_nil, List.length_replicate, List.length_take, List.length_drop, List.length_set]; omega))) ?_ | refine G.iaddrF rfl rfl (by omega) rfl ?_ | refine G.iaddrO rfl rfl rfl (by omega) (by first | omega | (simp only [List.length_map, List.length_append, List.length_cons, List.length_nil, List.length_replicate, List.length_take, List.length_drop, List.length_set]; omega)) ?_ | refine G.iaddrF rfl rfl (by omega) (List.getElem?_eq_getElem (by first | omega | (simp only [List.length_map, List.length_append, List.length_cons, List.length_nil, List.length_replicate, List.length_take, List.length_drop, List.length_set]; omega))) ?_
          first | refine G.load1B rfl rfl rfl ?_ | refine G.load1F rfl rfl ?_ | refine G.load1E rfl rfl (List.getElem?_eq_getElem (by first | omega | (simp only [List.length_map, List.length_append, List.length_cons, List.length_nil, List.length_replicate, List.length_take, List.length_drop, List.length_set]; omega))) rfl ?_ | refine G.load1EM rfl rfl (List.getElem?_eq_getElem (by first | omega | (simp only [List.length_map, List.length_append, List.length_cons, List.length_nil, List.length_replicate, List.length_take, List.length_drop, List.length_set]; omega))) rfl ?_
          refine G.mv rfl ?_
          refine G.mv rfl ?_
          first | refine G.iaddrN rfl rfl (List.getElem?_eq_getElem (by first | omega | (simp only [List.length_map, List.length_append, List.length_cons, List.length_nil, List.length_replicate, List.length_take, List.length_drop, List.length_set]; omega))) ?_ | refine G.iaddrM rfl rfl (by omega) (List.getElem?_eq_getElem (by first | omega | (simp only [List.length_map, List.length_append, List.length_cons, List.length_nil, List.length_replicate, List.length_take, List.length_drop, List.length_set]; omega))) ?_ | refine G.iaddrF rfl rfl (by omega) rfl ?_ | refine G.iaddrO rfl rfl rfl (by omega) (by first | omega | (simp only [List.length_map, List.length_append, List.length_cons, List.length_nil, List.length_replicate, List.length_take, List.length_drop, List.length_set]; omega)) ?_ | refine G.iaddrF rfl rfl (by omega) (List.getElem?_eq_getElem (by first | omega | (simp only [List.length_map, List.length_append, List.length_cons, List.length_nil, List.length_replicate, List.length_take, List.length_drop, List.length_set]; omega))) ?_
          first | refine G.load1B rfl rfl rfl ?_ | refine G.load1F rfl rfl ?_ | refine G.load1E rfl rfl (List.getElem?_eq_getElem (by first | omega | (simp only [List.length_map, List.length_append, List.length_cons, List.length_nil, List.length_replicate, List.length_take, List.length_drop, List.length_set]; omega))) rfl ?_ | refine G.load1EM rfl rfl (List.getElem?_eq_getElem (by first | omega | (simp only [List.length_map, List.length_append, List.length_cons, List.length_nil, List.length_replicate, List.length_take, List.length_drop, List.length_set]; omega))) rfl ?_
          refine G.xorK rfl rfl ?_
          rw [xor8]
          first | refine G.iaddrN rfl rfl (List.getElem?_eq_getElem (by first | omega | (simp only [List.length_map, List.length_append, List.length_cons, List.length_nil, List.length_replicate, List.length_take, List.length_drop, List.length_set]; omega))) ?_ | refine G.iaddrM rfl rfl (by omega) (List.getElem?_eq_getElem (by first | omega | (simp only [List.length_map, List.length_append, List.length_cons, List.length_nil, List.length_replicate, List.length_take, List.length_drop, List.length_set]; omega))) ?_ | refine G.iaddrF rfl rfl (by omega) rfl ?_ | refine G.iaddrO rfl rfl rfl (by omega) (by first | omega | (simp only [List.length_map, List.length_append, List.length_cons, List.length_nil, List.length_replicate, List.length_take, List.length_drop, List.length_set]; omega)) ?_ | refine G.iaddrF rfl rfl (by omega) (List.getElem?_eq_getElem (by first | omega | (simp only [List.length_map, List.length_append, List.length_cons, List.length_nil, List.length_replicate, List.length_take, List.length_drop, List.length_set]; omega))) ?_
          refine G.storeEM (a[j] ^^^ b[j]) rfl rfl rfl (List.getElem?_eq_getElem (by omega)) rfl rfl rfl rfl ?_
          refine WpOpsG.nil ?_
          change WpG _ _ _ _ _
          refine WpG.reg ?_
          refine G.mv rfl ?_
          first | refine G.addI rfl rfl (by omega) ?_ | refine G.bin rfl rfl rfl ?_
          refine G.mv rfl ?_
          refine WpOpsG.nil ?_
          exact ⟨j + 1, by omega, by omega, ⟨rfl, rfl, rfl, rfl, rfl, rfl, trivial⟩, ⟨by rw [zx_succ a b j (by omega) (by omega)]; rfl, trivial⟩, rfl⟩
        · (try simp only [decide_eq_true_eq, decide_eq_false_iff_not, Bool.or_eq_true, Bool.and_eq_true, Bool.or_eq_false_iff, Bool.and_eq_false_iff, bne_iff_ne, beq_iff_eq, beq_eq_false_iff_ne, bne_eq_false_iff_eq, ne_eq, Bool.not_eq_true', Bool.not_eq_false', Int.not_lt, Int.not_le, Decidable.not_not, List.length_map, List.length_cons, List.length_nil] at hq2)
          refine WpG.exit ?_
          change WpG _ _ _ _ _
          refine WpG.seq ?_
          obtain rfl : m = j := by omega
          refine WpG.reg ?_
          refine G.mv rfl ?_
          refine G.un (r := .int .u32 (I32 (sumB (a ++ b)))) rfl (congrArg some (congrArg (Value.int .u32) ((not32 _).trans (by rw [take_all (by omega : b.length ≤ i)]; rfl)))) ?_
          refine G.bslice (g := 21) rfl rfl rfl rfl ?_
          refine G.mv rfl ?_
          first | refine G.app rfl rfl rfl rfl trivial (by first | omega | (simp only [List.length_map, List.length_append, List.length_cons, List.length_nil, List.length_replicate, List.length_take, List.length_drop, List.length_set]; omega)) ?_ | refine G.app rfl rfl rfl rfl (by first | decide | exact Nat.le_refl _) (by first | omega | (simp only [List.length_map, List.length_append, List.length_cons, List.length_nil, List.length_replicate, List.length_take, List.length_drop, List.length_set]; omega)) ?_ | refine G.appNil (g := 10) rfl rfl rfl rfl (by first | omega | (simp only [List.length_map, List.length_append, List.length_cons, List.length_nil, List.length_replicate, List.length_take, List.length_drop, List.length_set]; omega)) ?_
          refine G.mv rfl ?_
          first | refine G.app rfl rfl rfl rfl trivial (by first | omega | (simp only [List.length_map, List.length_append, List.length_cons, List.length_nil, List.length_replicate, List.length_take, List.length_drop, List.length_set]; omega)) ?_ | refine G.app rfl rfl rfl rfl (by first | decide | exact Nat.le_refl _) (by first | omega | (simp only [List.length_map, List.length_append, List.length_cons, List.length_nil, List.length_replicate, List.length_take, List.length_drop, List.length_set]; omega)) ?_ | refine G.appNil (g := 11) rfl rfl rfl rfl (by first | omega | (simp only [List.length_map, List.length_append, List.length_cons, List.length_nil, List.length_replicate, List.length_take, List.length_drop, List.length_set]; omega)) ?_
          rw [List.nil_append, ← List.map_append]
          refine G.lend rfl rfl (of_ok (a ++ b) (by rw [List.length_append]; omega)) ?_
          rintro _ _ ⟨rfl, rfl⟩
          refine ⟨rfl, trivial, rfl, ?_⟩
          change WpOpsG _ _ ((55, _) :: _) _ _
          refine G.bin rfl rfl rfl ?_
          rw [show (I32 (sumB (a ++ b)) == I32 (sumB (a ++ b))) = true by simp]
          refine G.mv rfl ?_
          refine G.yes rfl ?_
          refine G.mv rfl ?_
          refine G.yes rfl ?_
          refine G.mv rfl ?_
          refine G.yes rfl ?_
          refine G.slTake (n := m) rfl rfl (by first | omega | (simp only [List.length_map, List.length_append, List.length_cons, List.length_nil, List.length_replicate, List.length_take, List.length_drop, List.length_set]; omega)) ?_
          refine G.yes rfl ?_
          refine G.mv rfl ?_
          refine G.yes rfl ?_
          refine G.mv rfl ?_
          refine G.yes rfl ?_
          refine G.slTake (n := m) rfl rfl (by first | omega | (simp only [List.length_map, List.length_append, List.length_cons, List.length_nil, List.length_replicate, List.length_take, List.length_drop, List.length_set]; omega)) ?_
          refine G.yes rfl ?_
          refine G.mv rfl ?_
          refine G.yes rfl ?_
          refine G.mkslice (g := 22) rfl rfl (by omega) (by omega) (by omega) (by omega) rfl rfl rfl rfl ?_
          change WpOpsG _ _ ((70, .osl 22) :: _) ((22, .arr .yes 1 (List.replicate m (encB 0))) :: _) _
          rw [show List.replicate m (encB 0) = (List.replicate m (0 : UInt8)).map encB by rw [List.map_replicate]]
          refine G.yes rfl ?_
          refine G.ckcall0 rfl rfl rfl (of_ok (a.take m) (by rw [List.length_take]; omega)) ?_
          rintro _ _ ⟨rfl, rfl⟩
          refine ⟨rfl, ?_⟩
          change WpOpsG _ _ ((61, _) :: _) _ _
          refine G.yes rfl ?_
          refine G.ckcall0 rfl rfl rfl (of_ok (b.take m) (by rw [List.length_take]; omega)) ?_
          rintro _ _ ⟨rfl, rfl⟩
          refine ⟨rfl, ?_⟩
          change WpOpsG _ _ ((65, _) :: _) _ _
          refine G.yes rfl ?_
          refine G.xorK rfl rfl ?_
          rw [xor32I]
          refine G.yes rfl ?_
          refine G.mv rfl ?_
          refine G.yes rfl ?_
          refine G.cklend rfl rfl rfl (of_ok (zx a b m) (by rw [hm, zx_len _ _ _ (Nat.le_refl _)]; omega)) ?_
          rintro _ _ ⟨rfl, rfl⟩
          refine ⟨rfl, trivial, rfl, ?_⟩
          change WpOpsG _ _ ((68, _) :: _) _ _
          refine G.yes rfl ?_
          refine G.lend rfl rfl (of_ok (List.replicate m 0) (by rw [List.length_replicate]; omega)) ?_
          rintro _ _ ⟨rfl, rfl⟩
          refine ⟨rfl, trivial, rfl, ?_⟩
          change WpOpsG _ _ ((71, _) :: _) _ _
          refine G.yes rfl ?_
          refine G.xorK rfl rfl ?_
          rw [xor32I]
          refine G.yes rfl ?_
          refine G.bin rfl rfl rfl ?_
          rw [show (I32 (sumB (a.take m) ^^^ sumB (b.take m)) == I32 (sumB (zx a b m) ^^^ sumB (List.replicate m 0))) = true by rw [hm, parts_sum]; simp]
          first | refine G.pickT rfl rfl ?_ | refine G.pickF rfl rfl ?_ | refine G.pick rfl rfl rfl ?_
          refine G.mv rfl ?_
          refine G.yes rfl ?_
          refine G.call0 rfl rfl (known_ok) ?_
          rintro _ _ ⟨rfl, rfl⟩
          refine ⟨rfl, ?_⟩
          change WpOpsG _ _ ((76, _) :: _) _ _
          first | refine G.pickT rfl rfl ?_ | refine G.pickF rfl rfl ?_ | refine G.pick rfl rfl rfl ?_
          refine G.mv rfl ?_
          refine WpOpsG.nil ?_
          change WpG _ _ _ _ _
          refine WpG.ret ?_
          refine ⟨_, [], rfl, (hasP_le (by repeat (first | exact trivial | refine ⟨rfl, ?_⟩))), rfl, rfl, rfl, ?_⟩
          exact ⟨rfl, rfl⟩
      · exact Nat.zero_le _
  · exact Nat.zero_le _
theorem sumApart_ok (l : List UInt8) (n : Int) (T : BitVec 32) (hl : l.length + 16 ≤ 2 ^ 47) (hn : i64 n) : WpCallG A 7 [.fsl 1 (l.map encB), .v (.int .i64 n), .v (.int .u32 (I32 (T)))] [] (fun v H => v = .v (.bool true) ∧ H = []) := by
  obtain ⟨x, hx⟩ : ∃ x, x = l ++ [1, 2, 3, 4] := ⟨_, rfl⟩
  have hxl : x.length = l.length + 4 := by rw [hx, List.length_append]; rfl
  refine WpCallG.intro g7 rfl rfl ?_
  unfold af7
  change WpG _ _ _ _ _
  refine WpG.seq ?_
  refine WpG.reg ?_
  refine G.mv rfl ?_
  refine WpOpsG.nil ?_
  change WpG _ _ _ _ _
  refine WpG.seq ?_
  refine WpG.reg ?_
  refine G.bslice (g := 20) rfl rfl rfl rfl ?_
  refine G.mv rfl ?_
  first | refine G.app rfl rfl rfl rfl trivial (by first | omega | (simp only [List.length_map, List.length_append, List.length_cons, List.length_nil, List.length_replicate, List.length_take, List.length_drop, List.length_set]; omega)) ?_ | refine G.app rfl rfl rfl rfl (by first | decide | exact Nat.le_refl _) (by first | omega | (simp only [List.length_map, List.length_append, List.length_cons, List.length_nil, List.length_replicate, List.length_take, List.length_drop, List.length_set]; omega)) ?_ | refine G.appNil (g := 10) rfl rfl rfl rfl (by first | omega | (simp only [List.length_map, List.length_append, List.length_cons, List.length_nil, List.length_replicate, List.length_take, List.length_drop, List.length_set]; omega)) ?_
  refine G.bsliceF (cs := ([1, 2, 3, 4] : List UInt8).map encB) rfl rfl rfl ?_
  refine G.app rfl rfl rfl rfl trivial (by simp only [List.length_append, List.length_map, List.length_cons, List.length_nil]; omega) ?_
  rw [List.nil_append, ← List.map_append, ← hx]
  refine G.mv rfl ?_
  refine WpOpsG.nil ?_
  change WpG _ _ _ _ _
  refine WpG.seq ?_
  refine WpG.reg ?_
  refine G.mv rfl ?_
  refine G.mv rfl ?_
  first | refine G.lenM rfl ?_ | refine G.lenOM rfl rfl ?_ | refine G.lenF rfl ?_ | refine G.lenO rfl rfl ?_ | refine G.lenNil rfl ?_
  rw [hxl]
  first | refine G.subI rfl rfl (by omega) ?_ | refine G.bin rfl rfl rfl ?_
  rw [show ((l.length + 4 : Nat) : Int) - 4 = (l.length : Int) by omega]
  refine G.call0 rfl rfl (within_ok n 0 (l.length : Int) hn (by decide) (by omega) (by omega)) ?_
  rintro _ _ ⟨rfl, rfl⟩
  refine ⟨rfl, ?_⟩
  change WpOpsG _ _ ((20, _) :: _) _ _
  obtain ⟨k, hk, hk2⟩ := within_nat1 n l.length
  rw [hk]
  refine G.mv rfl ?_
  refine WpOpsG.nil ?_
  change WpG _ _ _ _ _
  refine WpG.seq ?_
  refine WpG.reg ?_
  refine G.bslice (g := 21) rfl rfl rfl rfl ?_
  refine G.mv rfl ?_
  refine G.app rfl rfl rfl rfl trivial (by simp only [List.length_append, List.length_map, List.length_cons, List.length_nil]; omega) ?_
  rw [List.nil_append]
  refine G.mv rfl ?_
  refine WpOpsG.nil ?_
  change WpG _ _ _ _ _
  refine WpG.seq ?_
  refine WpG.seq ?_
  refine WpG.reg ?_
  refine G.mv rfl ?_
  refine WpOpsG.nil ?_
  change WpG _ _ _ _ _
  refine WpG.block ?_
  refine WpG.loop (S := Nat) (fun i => [(2, .v (.int .u32 (I32 (T)))), (7, .osl 20), (8, .v (.int .i64 (k : Int))), (9, .osl 21), (10, .v (.int .i64 i))]) (fun i => [(21, .arr .yes 1 ((yv x T k i).map encB)), (20, .arr .yes 1 (x.map encB))]) (fun i => i ≤ 4) (fun i => 4 - i) (fun s => ⟨rfl, rfl⟩) ?_ 0 ?_ (by repeat (first | exact trivial | refine ⟨rfl, ?_⟩)) (by repeat (first | exact trivial | refine ⟨rfl, ?_⟩)) rfl
  · intro i hI
    have hyl := yv_len x T k i
    refine WpG.seq ?_
    refine WpG.seq ?_
    refine WpG.reg ?_
    refine G.mv rfl ?_
    refine G.bin rfl rfl rfl ?_
    refine WpOpsG.nil ?_
    change WpG _ _ _ _ _
    refine WpG.cond rfl (fun hq1 => ?_) (fun hq1 => ?_)
    · (try simp only [decide_eq_true_eq, decide_eq_false_iff_not, Bool.or_eq_true, Bool.and_eq_true, Bool.or_eq_false_iff, Bool.and_eq_false_iff, bne_iff_ne, beq_iff_eq, beq_eq_false_iff_ne, bne_eq_false_iff_eq, ne_eq, Bool.not_eq_true', Bool.not_eq_false', Int.not_lt, Int.not_le, Decidable.not_not, List.length_map, List.length_cons, List.length_nil] at hq1)
      refine WpG.skip ?_
      change WpG _ _ _ _ _
      refine WpG.seq ?_
      refine WpG.block ?_
      refine WpG.reg ?_
      refine G.mv rfl ?_
      refine G.mv rfl ?_
      refine G.mv rfl ?_
      first | refine G.addI rfl rfl (by omega) ?_ | refine G.bin rfl rfl rfl ?_
      rw [show (k : Int) + (i : Int) = ((k + i : Nat) : Int) by omega]
      first | refine G.iaddrN rfl rfl (List.getElem?_eq_getElem (by first | omega | (simp only [List.length_map, List.length_append, List.length_cons, List.length_nil, List.length_replicate, List.length_take, List.length_drop, List.length_set]; omega))) ?_ | refine G.iaddrM rfl rfl (by omega) (List.getElem?_eq_getElem (by first | omega | (simp only [List.length_map, List.length_append, List.length_cons, List.length_nil, List.length_replicate, List.length_take, List.length_drop, List.length_set]; omega))) ?_ | refine G.iaddrF rfl rfl (by omega) rfl ?_ | refine G.iaddrO rfl rfl rfl (by omega) (by first | omega | (simp only [List.length_map, List.length_append, List.length_cons, List.length_nil, List.length_replicate, List.length_take, List.length_drop, List.length_set]; omega)) ?_ | refine G.iaddrF rfl rfl (by omega) (List.getElem?_eq_getElem (by first | omega | (simp only [List.length_map, List.length_append, List.length_cons, List.length_nil, List.length_replicate, List.length_take, List.length_drop, List.length_set]; omega))) ?_
      first | refine G.load1B rfl rfl rfl ?_ | refine G.load1F rfl rfl ?_ | refine G.load1E rfl rfl (List.getElem?_eq_getElem (by first | omega | (simp only [List.length_map, List.length_append, List.length_cons, List.length_nil, List.length_replicate, List.length_take, List.length_drop, List.length_set]; omega))) rfl ?_ | refine G.load1EM rfl rfl (List.getElem?_eq_getElem (by first | omega | (simp only [List.length_map, List.length_append, List.length_cons, List.length_nil, List.length_replicate, List.length_take, List.length_drop, List.length_set]; omega))) rfl ?_
      refine G.mv rfl ?_
      refine G.mv rfl ?_
      first | refine G.mulI rfl rfl (by omega) ?_ | refine G.bin rfl rfl rfl ?_
      first | refine G.convU64B rfl ?_ | refine G.convU .u64 rfl (by rw [wrap_u64]; omega) ?_ | refine G.convi rfl ?_
      refine G.bin rfl rfl rfl ?_
      first | refine G.convU .u8 rfl (by rw [wrap_u8]; omega) ?_ | refine G.convi rfl ?_
      rw [b8w]
      refine G.xorK rfl rfl ?_
      rw [xor8]
      first | refine G.iaddrN rfl rfl (List.getElem?_eq_getElem (by first | omega | (simp only [List.length_map, List.length_append, List.length_cons, List.length_nil, List.length_replicate, List.length_take, List.length_drop, List.length_set]; omega))) ?_ | refine G.iaddrM rfl rfl (by omega) (List.getElem?_eq_getElem (by first | omega | (simp only [List.length_map, List.length_append, List.length_cons, List.length_nil, List.length_replicate, List.length_take, List.length_drop, List.length_set]; omega))) ?_ | refine G.iaddrF rfl rfl (by omega) rfl ?_ | refine G.iaddrO rfl rfl rfl (by omega) (by first | omega | (simp only [List.length_map, List.length_append, List.length_cons, List.length_nil, List.length_replicate, List.length_take, List.length_drop, List.length_set]; omega)) ?_ | refine G.iaddrF rfl rfl (by omega) (List.getElem?_eq_getElem (by first | omega | (simp only [List.length_map, List.length_append, List.length_cons, List.length_nil, List.length_replicate, List.length_take, List.length_drop, List.length_set]; omega))) ?_
      refine G.storeEM ((yv x T k i)[k + i] ^^^ ts T i) rfl rfl rfl (List.getElem?_eq_getElem (by omega)) rfl rfl rfl rfl ?_
      refine WpOpsG.nil ?_
      change WpG _ _ _ _ _
      refine WpG.reg ?_
      refine G.mv rfl ?_
      first | refine G.addI rfl rfl (by omega) ?_ | refine G.bin rfl rfl rfl ?_
      refine G.mv rfl ?_
      refine WpOpsG.nil ?_
      exact ⟨i + 1, by omega, by omega, ⟨rfl, rfl, rfl, rfl, rfl, trivial⟩, ⟨by rw [yv, getD_get (by omega : k + i < _)]; rfl, rfl, trivial⟩, rfl⟩
    · (try simp only [decide_eq_true_eq, decide_eq_false_iff_not, Bool.or_eq_true, Bool.and_eq_true, Bool.or_eq_false_iff, Bool.and_eq_false_iff, bne_iff_ne, beq_iff_eq, beq_eq_false_iff_ne, bne_eq_false_iff_eq, ne_eq, Bool.not_eq_true', Bool.not_eq_false', Int.not_lt, Int.not_le, Decidable.not_not, List.length_map, List.length_cons, List.length_nil] at hq1)
      refine WpG.exit ?_
      change WpG _ _ _ _ _
      refine WpG.seq ?_
      obtain rfl : i = 4 := by omega
      refine WpG.reg ?_
      refine G.mv rfl ?_
      refine G.lend rfl rfl (of_ok x (by omega)) ?_
      rintro _ _ ⟨rfl, rfl⟩
      refine ⟨rfl, trivial, rfl, ?_⟩
      change WpOpsG _ _ ((43, _) :: _) _ _
      refine G.mv rfl ?_
      refine G.lend rfl rfl (of_ok (yv x T k 4) (by rw [yv_len]; omega)) ?_
      rintro _ _ ⟨rfl, rfl⟩
      refine ⟨rfl, trivial, rfl, ?_⟩
      change WpOpsG _ _ ((45, _) :: _) _ _
      refine G.bin rfl rfl rfl ?_
      rw [sum_yv x T k (by omega)]
      refine G.mv rfl ?_
      refine G.bin rfl rfl rfl ?_
      refine G.beq rfl rfl rfl ?_
      rw [show (false ^^ ((I32 T == 0) == (I32 T == 0))) = true by cases (I32 T == 0) <;> rfl]
      refine G.mv rfl ?_
      refine G.yes rfl ?_
      refine G.mv rfl ?_
      refine G.yes rfl ?_
      refine G.bsliceF (cs := ([0] : List UInt8).map encB) rfl rfl rfl ?_
      refine G.yes rfl ?_
      refine G.cklend rfl rfl rfl ((seal_ok x (by omega)).ren [(0, 22)]) ?_
      rintro _ _ ⟨_, _, ⟨rfl, rfl⟩, rfl, rfl⟩
      refine ⟨rfl, ⟨flat_map (fun _ => rfl), trivial⟩, rfl, ?_⟩
      change WpOpsG _ _ ((52, .osl 22) :: _) ([(22, .arr .yes 1 ((sealB x).map encB))] ++ _) _
      refine WpOpsG.freeze 22 rfl ?_
      change WpOpsG _ _ ((52, .fsl 1 ((sealB x).map encB)) :: _) _ _
      refine G.yes rfl ?_
      first | refine G.convbs rfl rfl (bytesG_map _) (fun _ h => by cases h) ?_ | refine G.convbs rfl rfl rfl (fun _ h => by cases h) ?_
      refine G.yes rfl ?_
      refine G.mv rfl ?_
      refine G.yes rfl ?_
      refine G.ck1 rfl rfl ?_
      first | refine G.app rfl rfl rfl rfl trivial (by first | omega | (simp only [List.length_map, List.length_append, List.length_cons, List.length_nil, List.length_replicate, List.length_take, List.length_drop, List.length_set]; omega)) ?_ | refine G.app rfl rfl rfl rfl (by first | decide | exact Nat.le_refl _) (by first | omega | (simp only [List.length_map, List.length_append, List.length_cons, List.length_nil, List.length_replicate, List.length_take, List.length_drop, List.length_set]; omega)) ?_ | refine G.appNil (g := 11) rfl rfl rfl rfl (by first | omega | (simp only [List.length_map, List.length_append, List.length_cons, List.length_nil, List.length_replicate, List.length_take, List.length_drop, List.length_set]; omega)) ?_
      refine WpOpsG.nil ?_
      change WpOpsG _ _ _ _ _
      rw [← List.map_append]
      refine G.yes rfl ?_
      refine G.cklend rfl rfl rfl ((seal_ok (x ++ [0]) (by rw [List.length_append]; simp; omega)).ren [(0, 23)]) ?_
      rintro _ _ ⟨_, _, ⟨rfl, rfl⟩, rfl, rfl⟩
      refine ⟨rfl, ⟨flat_map (fun _ => rfl), trivial⟩, rfl, ?_⟩
      change WpOpsG _ _ ((57, .osl 23) :: _) ([(23, .arr .yes 1 ((sealB (x ++ [0])).map encB))] ++ _) _
      refine G.yes rfl ?_
      first | refine G.convbs rfl rfl (bytesG_map _) (fun _ h => by cases h) ?_ | refine G.convbs rfl rfl rfl (fun _ h => by cases h) ?_
      refine G.yes rfl ?_
      refine G.bin rfl rfl rfl ?_
      rw [seal_ne x]
      first | refine G.pickT rfl rfl ?_ | refine G.pickF rfl rfl ?_ | refine G.pick rfl rfl rfl ?_
      refine G.mv rfl ?_
      refine G.yes rfl ?_
      refine G.call0 rfl rfl (known_ok) ?_
      rintro _ _ ⟨rfl, rfl⟩
      refine ⟨rfl, ?_⟩
      change WpOpsG _ _ ((62, _) :: _) _ _
      first | refine G.pickT rfl rfl ?_ | refine G.pickF rfl rfl ?_ | refine G.pick rfl rfl rfl ?_
      refine G.mv rfl ?_
      refine WpOpsG.nil ?_
      change WpG _ _ _ _ _
      refine WpG.ret ?_
      refine ⟨_, [], rfl, (hasP_le (by repeat (first | exact trivial | refine ⟨rfl, ?_⟩))), rfl, rfl, rfl, ?_⟩
      exact ⟨rfl, rfl⟩
  · exact Nat.zero_le _
set_option maxHeartbeats 1000000 in
theorem sumNumbers_ok  : WpCallG A 3 [] [] (fun v H => v = .v (.bool true) ∧ H = []) := by
  refine WpCallG.intro g3 rfl rfl ?_
  unfold af3
  change WpG _ _ _ _ _
  refine WpG.seq ?_
  refine WpG.reg ?_
  refine G.mv rfl ?_
  refine WpOpsG.nil ?_
  change WpG _ _ _ _ _
  refine WpG.seq ?_
  refine WpG.reg ?_
  refine G.mv rfl ?_
  refine WpOpsG.nil ?_
  change WpG _ _ _ _ _
  refine WpG.seq ?_
  refine WpG.seq ?_
  refine WpG.reg ?_
  refine G.mv rfl ?_
  refine WpOpsG.nil ?_
  change WpG _ _ _ _ _
  refine WpG.block ?_
  refine WpG.ownNil (g := 30) (k := 1) (w := 1) rfl rfl ?_
  refine WpG.loop (S := Nat) (fun i => [(1, .osl 30), (2, .v (.int .i64 i))]) (fun i => [(30, .arr .yes 1 ((rowN i).map encB))]) (fun i => i ≤ 200) (fun i => 200 - i) (fun s => ⟨rfl, rfl⟩) ?_ 0 ?_ (by repeat (first | exact trivial | refine ⟨rfl, ?_⟩)) (by repeat (first | exact trivial | refine ⟨rfl, ?_⟩)) rfl
  · intro i hI
    have hrl := rowN_len i
    have hsl := sealB_len (rowN i)
    refine WpG.seq ?_
    refine WpG.seq ?_
    refine WpG.reg ?_
    refine G.mv rfl ?_
    refine G.bin rfl rfl rfl ?_
    refine WpOpsG.nil ?_
    change WpG _ _ _ _ _
    refine WpG.cond rfl (fun hq1 => ?_) (fun hq1 => ?_)
    · (try simp only [decide_eq_true_eq, decide_eq_false_iff_not, Bool.or_eq_true, Bool.and_eq_true, Bool.or_eq_false_iff, Bool.and_eq_false_iff, bne_iff_ne, beq_iff_eq, beq_eq_false_iff_ne, bne_eq_false_iff_eq, ne_eq, Bool.not_eq_true', Bool.not_eq_false', Int.not_lt, Int.not_le, Decidable.not_not, List.length_map, List.length_cons, List.length_nil] at hq1)
      refine WpG.skip ?_
      change WpG _ _ _ _ _
      refine WpG.seq ?_
      refine WpG.block ?_
      refine WpG.seq ?_
      refine WpG.reg ?_
      refine G.mv rfl ?_
      refine G.lend rfl rfl ((rseal_ok (rowN i) (by rw [rowN_len]; omega)).ren [(0, 20)]) ?_
      rintro _ _ ⟨_, _, ⟨rfl, rfl⟩, rfl, rfl⟩
      refine ⟨rfl, ⟨flat_map (fun _ => rfl), trivial⟩, rfl, ?_⟩
      change WpOpsG _ _ ((10, .osl 20) :: _) ([(20, .arr .yes 1 ((sealB (rowN i)).map encB))] ++ _) _
      refine WpOpsG.freeze 20 rfl ?_
      change WpOpsG _ _ ((10, .fsl 1 ((sealB (rowN i)).map encB)) :: _) _ _
      refine G.mv rfl ?_
      refine WpOpsG.nil ?_
      change WpG _ _ _ _ _
      refine WpG.seq ?_
      refine WpG.reg ?_
      refine G.bslice (g := 21) rfl rfl rfl rfl ?_
      refine G.mv rfl ?_
      refine G.app rfl rfl rfl rfl trivial (by simp only [List.length_append, List.length_map, List.length_cons, List.length_nil]; omega) ?_
      rw [List.nil_append]
      refine G.mv rfl ?_
      refine WpOpsG.nil ?_
      change WpG _ _ _ _ _
      refine WpG.seq ?_
      refine WpG.reg ?_
      refine G.mv rfl ?_
      refine G.mv rfl ?_
      refine G.mv rfl ?_
      first | refine G.lenM rfl ?_ | refine G.lenOM rfl rfl ?_ | refine G.lenF rfl ?_ | refine G.lenO rfl rfl ?_ | refine G.lenNil rfl ?_
      rw [show (((sealB (rowN i)).length : Nat) : Int) = (i : Int) + 4 by omega]
      first | refine G.remN rfl rfl (by omega) (by omega) ?_ | refine G.remP rfl rfl (by omega) ?_
      rw [show (i : Int) % ((i : Int) + 4) = (i : Int) from Int.emod_eq_of_lt (by omega) (by omega)]
      first | refine G.iaddrN rfl rfl (List.getElem?_eq_getElem (by first | omega | (simp only [List.length_map, List.length_append, List.length_cons, List.length_nil, List.length_replicate, List.length_take, List.length_drop, List.length_set]; omega))) ?_ | refine G.iaddrM rfl rfl (by omega) (List.getElem?_eq_getElem (by first | omega | (simp only [List.length_map, List.length_append, List.length_cons, List.length_nil, List.length_replicate, List.length_take, List.length_drop, List.length_set]; omega))) ?_ | refine G.iaddrF rfl rfl (by omega) rfl ?_ | refine G.iaddrO rfl rfl rfl (by omega) (by first | omega | (simp only [List.length_map, List.length_append, List.length_cons, List.length_nil, List.length_replicate, List.length_take, List.length_drop, List.length_set]; omega)) ?_ | refine G.iaddrF rfl rfl (by omega) (List.getElem?_eq_getElem (by first | omega | (simp only [List.length_map, List.length_append, List.length_cons, List.length_nil, List.length_replicate, List.length_take, List.length_drop, List.length_set]; omega))) ?_
      first | refine G.load1B rfl rfl rfl ?_ | refine G.load1F rfl rfl ?_ | refine G.load1E rfl rfl (List.getElem?_eq_getElem (by first | omega | (simp only [List.length_map, List.length_append, List.length_cons, List.length_nil, List.length_replicate, List.length_take, List.length_drop, List.length_set]; omega))) rfl ?_ | refine G.load1EM rfl rfl (List.getElem?_eq_getElem (by first | omega | (simp only [List.length_map, List.length_append, List.length_cons, List.length_nil, List.length_replicate, List.length_take, List.length_drop, List.length_set]; omega))) rfl ?_
      refine G.mv rfl ?_
      first | refine G.remN rfl rfl (by omega) (by omega) ?_ | refine G.remP rfl rfl (by omega) ?_
      first | refine G.convU64B rfl ?_ | refine G.convU .u64 rfl (by rw [wrap_u64]; omega) ?_ | refine G.convi rfl ?_
      refine G.bin rfl rfl rfl ?_
      rw [show IntKind.u8.wrap (1 * 2 ^ (min ((i : Int) % 8).toNat IntKind.u8.bits)) = ((b8 (1 * 2 ^ (min ((i : Int) % 8).toNat 8))).toNat : Int) from b8w _]
      refine G.xorK rfl rfl ?_
      rw [xor8]
      first | refine G.iaddrN rfl rfl (List.getElem?_eq_getElem (by first | omega | (simp only [List.length_map, List.length_append, List.length_cons, List.length_nil, List.length_replicate, List.length_take, List.length_drop, List.length_set]; omega))) ?_ | refine G.iaddrM rfl rfl (by omega) (List.getElem?_eq_getElem (by first | omega | (simp only [List.length_map, List.length_append, List.length_cons, List.length_nil, List.length_replicate, List.length_take, List.length_drop, List.length_set]; omega))) ?_ | refine G.iaddrF rfl rfl (by omega) rfl ?_ | refine G.iaddrO rfl rfl rfl (by omega) (by first | omega | (simp only [List.length_map, List.length_append, List.length_cons, List.length_nil, List.length_replicate, List.length_take, List.length_drop, List.length_set]; omega)) ?_ | refine G.iaddrF rfl rfl (by omega) (List.getElem?_eq_getElem (by first | omega | (simp only [List.length_map, List.length_append, List.length_cons, List.length_nil, List.length_replicate, List.length_take, List.length_drop, List.length_set]; omega))) ?_
      refine G.storeEM ((sealB (rowN i))[i] ^^^ b8 (1 * 2 ^ (min ((i : Int) % 8).toNat 8))) rfl rfl rfl (List.getElem?_eq_getElem (by omega)) rfl rfl rfl rfl ?_
      refine WpOpsG.nil ?_
      change WpG _ _ _ _ _
      refine WpG.seq ?_
      refine WpG.seq ?_
      refine WpG.reg ?_
      refine G.mv rfl ?_
      refine G.mv rfl ?_
      first | refine G.conv32B rfl ?_ | refine G.convU .u32 rfl (by rw [wrap_u32]; omega) ?_ | refine G.convi rfl ?_
      refine G.bin rfl rfl rfl ?_
      rw [wrapI]
      refine G.mv rfl ?_
      refine G.convi rfl ?_
      rw [b8w]
      refine G.lend rfl rfl (same_ok (rowN i) (BitVec.ofInt 32 ((i : Int) * 2 ^ (min (20 : Int).toNat IntKind.u32.bits))) (b8 (i : Int)) (by omega)) ?_
      rintro _ _ ⟨rfl, rfl⟩
      refine ⟨rfl, trivial, rfl, ?_⟩
      change WpOpsG _ _ ((33, _) :: _) _ _
      refine G.un rfl rfl ?_
      refine G.mv rfl ?_
      refine G.yes rfl ?_
      refine G.mv rfl ?_
      refine G.yes rfl ?_
      refine G.mv rfl ?_
      refine G.yes rfl ?_
      first | refine G.conv32B rfl ?_ | refine G.convU .u32 rfl (by rw [wrap_u32]; omega) ?_ | refine G.convi rfl ?_
      refine G.yes rfl ?_
      refine G.un (r := .int .u32 (IntKind.u32.wrap _)) rfl rfl ?_
      rw [wrapI]
      refine G.yes rfl ?_
      refine G.mv rfl ?_
      refine G.yes rfl ?_
      first | refine G.mulI rfl rfl (by omega) ?_ | refine G.bin rfl rfl rfl ?_
      refine G.yes rfl ?_
      refine G.convi rfl ?_
      rw [b8w]
      refine G.yes rfl ?_
      refine G.call0 rfl rfl (same_ok (sealB (rowN i)) _ _ (by omega)) ?_
      rintro _ _ ⟨rfl, rfl⟩
      refine ⟨rfl, ?_⟩
      change WpOpsG _ _ ((43, _) :: _) _ _
      refine G.yes rfl ?_
      refine G.un rfl rfl ?_
      first | refine G.pickT rfl rfl ?_ | refine G.pickF rfl rfl ?_ | refine G.pick rfl rfl rfl ?_
      refine G.mv rfl ?_
      refine G.yes rfl ?_
      refine G.mv rfl ?_
      refine G.yes rfl ?_
      refine G.lend rfl rfl (same_ok _ 0#32 0 (by rw [List.length_set]; omega)) ?_
      rintro _ _ ⟨rfl, rfl⟩
      refine ⟨rfl, trivial, rfl, ?_⟩
      change WpOpsG _ _ ((48, _) :: _) _ _
      refine G.yes rfl ?_
      refine G.un rfl rfl ?_
      first | refine G.pickT rfl rfl ?_ | refine G.pickF rfl rfl ?_ | refine G.pick rfl rfl rfl ?_
      refine G.mv rfl ?_
      refine G.yes rfl ?_
      refine G.mv rfl ?_
      refine G.yes rfl ?_
      refine G.mv rfl ?_
      refine G.yes rfl ?_
      first | refine G.lenM rfl ?_ | refine G.lenOM rfl rfl ?_ | refine G.lenF rfl ?_ | refine G.lenO rfl rfl ?_ | refine G.lenNil rfl ?_
      refine G.yes rfl ?_
      first | refine G.subI rfl rfl (by omega) ?_ | refine G.bin rfl rfl rfl ?_
      rw [show (((sealB (rowN i)).length : Nat) : Int) - 1 = ((i + 3 : Nat) : Int) by omega]
      refine G.yes rfl ?_
      refine G.slTake (n := i + 3) rfl rfl (by first | omega | (simp only [List.length_map, List.length_append, List.length_cons, List.length_nil, List.length_replicate, List.length_take, List.length_drop, List.length_set]; omega)) ?_
      refine G.yes rfl ?_
      refine G.call0 rfl rfl (same_ok ((sealB (rowN i)).take (i + 3)) 1#32 1 (by rw [List.length_take]; omega)) ?_
      rintro _ _ ⟨rfl, rfl⟩
      refine ⟨rfl, ?_⟩
      change WpOpsG _ _ ((57, _) :: _) _ _
      refine G.yes rfl ?_
      refine G.un rfl rfl ?_
      first | refine G.pickT rfl rfl ?_ | refine G.pickF rfl rfl ?_ | refine G.pick rfl rfl rfl ?_
      refine WpOpsG.nil ?_
      change WpG _ _ _ _ _
      refine WpG.cond rfl (fun hq2 => absurd hq2 (by first | decide | simp)) (fun hq2 => ?_)
      refine WpG.skip ?_
      change WpG _ _ _ _ _
      have hii := Nat.mul_le_mul hI hI
      have hij : ((i * i : Nat) : Int) = (i : Int) * (i : Int) := Int.natCast_mul i i
      refine WpG.reg ?_
      refine G.mv rfl ?_
      refine G.mv rfl ?_
      refine G.mv rfl ?_
      first | refine G.mulI rfl rfl (by omega) ?_ | refine G.bin rfl rfl rfl ?_
      first | refine G.addI rfl rfl (by omega) ?_ | refine G.bin rfl rfl rfl ?_
      refine G.convi rfl ?_
      rw [b8w]
      refine G.bsliceF (cs := ([b8 ((i : Int) * (i : Int) + 3)] : List UInt8).map encB) rfl rfl rfl ?_
      first | refine G.app rfl rfl rfl rfl trivial (by first | omega | (simp only [List.length_map, List.length_append, List.length_cons, List.length_nil, List.length_replicate, List.length_take, List.length_drop, List.length_set]; omega)) ?_ | refine G.app rfl rfl rfl rfl (by first | decide | exact Nat.le_refl _) (by first | omega | (simp only [List.length_map, List.length_append, List.length_cons, List.length_nil, List.length_replicate, List.length_take, List.length_drop, List.length_set]; omega)) ?_ | refine G.appNil (g := 10) rfl rfl rfl rfl (by first | omega | (simp only [List.length_map, List.length_append, List.length_cons, List.length_nil, List.length_replicate, List.length_take, List.length_drop, List.length_set]; omega)) ?_
      refine G.mv rfl ?_
      refine WpOpsG.nil ?_
      change WpG _ _ _ _ _
      refine WpG.reg ?_
      refine G.mv rfl ?_
      first | refine G.addI rfl rfl (by omega) ?_ | refine G.bin rfl rfl rfl ?_
      refine G.mv rfl ?_
      refine WpOpsG.nil ?_
      exact ⟨i + 1, by omega, by omega, ⟨rfl, rfl, trivial⟩, ⟨by rw [rowN, List.map_append]; rfl, trivial⟩, rfl⟩
    · (try simp only [decide_eq_true_eq, decide_eq_false_iff_not, Bool.or_eq_true, Bool.and_eq_true, Bool.or_eq_false_iff, Bool.and_eq_false_iff, bne_iff_ne, beq_iff_eq, beq_eq_false_iff_ne, bne_eq_false_iff_eq, ne_eq, Bool.not_eq_true', Bool.not_eq_false', Int.not_lt, Int.not_le, Decidable.not_not, List.length_map, List.length_cons, List.length_nil] at hq1)
      refine WpG.exit ?_
      change WpG _ _ _ _ _
      refine WpG.seq ?_
      refine WpG.reg ?_
      refine G.call0 rfl rfl (known_ok) ?_
      rintro _ _ ⟨rfl, rfl⟩
      refine ⟨rfl, ?_⟩
      change WpOpsG _ _ ((68, _) :: _) _ _
      refine G.mv rfl ?_
      refine WpOpsG.nil ?_
      change WpG _ _ _ _ _
      refine WpG.ret ?_
      refine ⟨_, [], rfl, (hasP_le (by repeat (first | exact trivial | refine ⟨rfl, ?_⟩))), rfl, rfl, rfl, ?_⟩
      exact ⟨rfl, rfl⟩
  · exact Nat.zero_le _
end Go.AM.L1
