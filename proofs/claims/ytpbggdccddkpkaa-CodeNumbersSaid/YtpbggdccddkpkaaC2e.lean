/- Contracts of the functions that the statement reaches. No condition. -/
import Derived.Test.YtpbggdccddkpkaaC2c
import Derived.Test.YtpbggdccddkpkaaPL1b
set_option linter.all false
set_option maxRecDepth 10000
namespace Go.AM.L2
open Go.AM.PL
set_option maxHeartbeats 1000000 in
theorem codeNumbers_ok  : WpCallG A 4 [] [] (fun v H => v = .v (.bool true) ∧ H = []) := by
  refine WpCallG.intro g4 rfl rfl ?_
  unfold af4
  change WpG _ _ _ _ _
  refine WpG.seq ?_
  refine WpG.reg ?_
  refine G.mv rfl ?_
  refine WpOpsG.nil ?_
  change WpG _ _ _ _ _
  refine WpG.seq ?_
  refine WpG.seq ?_
  refine WpG.reg ?_
  refine G.mv rfl ?_
  refine WpOpsG.nil ?_
  change WpG _ _ _ _ _
  refine WpG.block ?_
  refine WpG.loop (S := Nat) (fun i => [(1, .v (.int .u64 (i : Int)))]) (fun _ => []) (fun i => i ≤ 64) (fun i => 64 - i) (fun s => ⟨rfl, rfl⟩) ?_ 0 ?_ (by repeat (first | exact trivial | refine ⟨rfl, ?_⟩)) (by repeat (first | exact trivial | refine ⟨rfl, ?_⟩)) rfl
  · intro i hI
    refine WpG.seq ?_
    refine WpG.seq ?_
    refine WpG.reg ?_
    refine G.mv rfl ?_
    refine G.bin rfl rfl rfl ?_
    refine WpOpsG.nil ?_
    change WpG _ _ _ _ _
    refine WpG.cond rfl (fun hq1 => ?_) (fun hq1 => ?_)
    · (try simp only [decide_eq_true_eq, decide_eq_false_iff_not, Bool.or_eq_true, Bool.and_eq_true, Bool.or_eq_false_iff, Bool.and_eq_false_iff, bne_iff_ne, beq_iff_eq, beq_eq_false_iff_ne, bne_eq_false_iff_eq, ne_eq, Bool.not_eq_true', Bool.not_eq_false', Int.not_lt, Int.not_le, Decidable.not_not, List.length_map, List.length_cons, List.length_nil] at hq1)
      refine WpG.skip ?_
      change WpG _ _ _ _ _
      refine WpG.seq ?_
      refine WpG.block ?_
      refine WpG.seq ?_
      refine WpG.reg ?_
      refine G.mv rfl ?_
      refine WpOpsG.nil ?_
      change WpG _ _ _ _ _
      refine WpG.block ?_
      refine WpG.loop (S := Nat) (fun e => [(1, .v (.int .u64 (i : Int))), (2, .v (.int .i64 ((e : Int) - 1)))]) (fun _ => []) (fun e => e ≤ 3) (fun e => 3 - e) (fun s => ⟨rfl, rfl⟩) ?_ 0 ?_ (by repeat (first | exact trivial | refine ⟨rfl, ?_⟩)) (by repeat (first | exact trivial | refine ⟨rfl, ?_⟩)) rfl
      · intro e hE
        refine WpG.seq ?_
        refine WpG.seq ?_
        refine WpG.reg ?_
        refine G.mv rfl ?_
        refine G.bin rfl rfl rfl ?_
        refine WpOpsG.nil ?_
        change WpG _ _ _ _ _
        refine WpG.cond rfl (fun hq2 => ?_) (fun hq2 => ?_)
        · (try simp only [decide_eq_true_eq, decide_eq_false_iff_not, Bool.or_eq_true, Bool.and_eq_true, Bool.or_eq_false_iff, Bool.and_eq_false_iff, bne_iff_ne, beq_iff_eq, beq_eq_false_iff_ne, bne_eq_false_iff_eq, ne_eq, Bool.not_eq_true', Bool.not_eq_false', Int.not_lt, Int.not_le, Decidable.not_not, List.length_map, List.length_cons, List.length_nil] at hq2)
          refine WpG.skip ?_
          change WpG _ _ _ _ _
          refine WpG.seq ?_
          refine WpG.block ?_
          refine WpG.seq ?_
          refine WpG.reg ?_
          refine G.mv rfl ?_
          refine G.bin rfl rfl rfl ?_
          refine G.mv rfl ?_
          refine G.bin rfl rfl rfl ?_
          obtain ⟨n, hn, hn2⟩ : ∃ n, IntKind.i64.wrap (IntKind.i64.wrap (1 * 2 ^ (min (i : Int).toNat IntKind.i64.bits)) + ((e : Int) - 1)) = n ∧ i64 n := ⟨_, rfl, wrap64_rng _⟩
          rw [show (IntKind.i64.wrap (IntKind.i64.wrap (1 * 2 ^ (min (i : Int).toNat IntKind.i64.bits)) + ((e : Int) - 1))) = n from hn]
          have hpb := putB_le n
          refine G.mv rfl ?_
          refine WpOpsG.nil ?_
          change WpG _ _ _ _ _
          refine WpG.seq ?_
          refine WpG.reg ?_
          refine G.mv rfl ?_
          refine G.call0 rfl rfl ((nil1 (rput_ok [] n (by decide) hn2)).ren [(0, 20)]) ?_
          rintro _ _ ⟨_, _, ⟨rfl, rfl⟩, rfl, rfl⟩
          change newOk _ _ [(20, _)] = true ∧ _
          refine ⟨rfl, ?_⟩
          change WpOpsG _ _ ((21, .osl 20) :: _) ([(20, .arr .yes 1 ((putB n).map encB))] ++ _) _
          refine G.mv rfl ?_
          refine WpOpsG.nil ?_
          change WpG _ _ _ _ _
          refine WpG.seq ?_
          refine WpG.reg ?_
          refine G.bsliceF rfl rfl rfl ?_
          change WpOpsG _ _ ((22, .fsl 1 (([7] : List UInt8).map encB)) :: _) _ _
          refine G.mv rfl ?_
          refine G.mv rfl ?_
          first | refine G.remN rfl rfl (by omega) (by omega) ?_ | refine G.remP rfl rfl (by omega) ?_
          refine G.sstr rfl (bndG_some rfl ⟨by omega, by show (i : Int) % 5 ≤ 4; omega⟩) rfl ?_
          rw [show (ByteArray.mk (Array.mk [116, 101, 120, 116])).extract 0 ((i : Int) % 5).toNat = ⟨(([116, 101, 120, 116] : List UInt8).take ((i : Int) % 5).toNat).toArray⟩ from extract_take _ _]
          have hst : (([116, 101, 120, 116] : List UInt8).take ((i : Int) % 5).toNat).length ≤ 4 := by rw [List.length_take]; exact Nat.min_le_right _ _
          refine G.call0 rfl rfl (puts_ok [7] _ n (by simp only [List.length_cons, List.length_nil]; omega) hn2) ?_
          rintro _ _ ⟨rfl, rfl⟩
          refine ⟨rfl, ?_⟩
          change WpOpsG _ _ ((27, _) :: _) _ _
          refine G.un rfl rfl ?_
          refine G.mv rfl ?_
          refine G.yes rfl ?_
          refine G.mv rfl ?_
          refine G.yes rfl ?_
          refine G.un rfl rfl ?_
          refine G.yes rfl ?_
          refine G.call0 rfl rfl (nil1 (puts_ok [] [] _ (by decide) (wrap64_rng _))) ?_
          rintro _ _ ⟨rfl, rfl⟩
          refine ⟨rfl, ?_⟩
          change WpOpsG _ _ ((32, _) :: _) _ _
          refine G.yes rfl ?_
          refine G.un rfl rfl ?_
          first | refine G.pickT rfl rfl ?_ | refine G.pickF rfl rfl ?_ | refine G.pick rfl rfl rfl ?_
          refine G.mv rfl ?_
          refine G.yes rfl ?_
          refine G.mv rfl ?_
          refine G.yes rfl ?_
          refine G.lend rfl rfl (reads_ok (putB n) 9 (by omega) (by unfold i64; decide)) ?_
          rintro _ _ ⟨rfl, rfl⟩
          refine ⟨rfl, trivial, rfl, ?_⟩
          change WpOpsG _ _ ((37, _) :: _) _ _
          refine G.yes rfl ?_
          refine G.un rfl rfl ?_
          first | refine G.pickT rfl rfl ?_ | refine G.pickF rfl rfl ?_ | refine G.pick rfl rfl rfl ?_
          refine G.mv rfl ?_
          refine G.yes rfl ?_
          refine G.mv rfl ?_
          refine G.yes rfl ?_
          refine G.bsliceF rfl rfl rfl ?_
          change WpOpsG _ _ ((42, .fsl 1 (([0] : List UInt8).map encB)) :: _) _ _
          refine G.yes rfl ?_
          refine G.appF (ds := ([0] : List UInt8).map encB) rfl rfl rfl rfl trivial (by simp only [List.length_map, List.length_cons, List.length_nil]; omega) ?_
          rw [← List.map_append]
          refine G.yes rfl ?_
          refine G.call0 rfl rfl (reads_ok (putB n ++ [0]) 1 (by simp only [List.length_append, List.length_cons, List.length_nil]; omega) (by unfold i64; decide)) ?_
          rintro _ _ ⟨rfl, rfl⟩
          refine ⟨rfl, ?_⟩
          change WpOpsG _ _ ((44, _) :: _) _ _
          refine G.yes rfl ?_
          refine G.un rfl rfl ?_
          first | refine G.pickT rfl rfl ?_ | refine G.pickF rfl rfl ?_ | refine G.pick rfl rfl rfl ?_
          refine G.mv rfl ?_
          refine G.yes rfl ?_
          refine G.mv rfl ?_
          refine G.yes rfl ?_
          refine G.mv rfl ?_
          refine G.yes rfl ?_
          first | refine G.lenM rfl ?_ | refine G.lenOM rfl rfl ?_ | refine G.lenF rfl ?_ | refine G.lenO rfl rfl ?_ | refine G.lenNil rfl ?_
          refine G.yes rfl ?_
          first | refine G.subI rfl rfl (by omega) ?_ | refine G.bin rfl rfl rfl ?_
          rw [show ((putB n).length : Int) - 1 = (((putB n).length - 1 : Nat) : Int) by omega]
          refine G.yes rfl ?_
          refine G.slTake (n := (putB n).length - 1) rfl rfl (by first | omega | (simp only [List.length_map, List.length_append, List.length_cons, List.length_nil, List.length_replicate, List.length_take, List.length_drop, List.length_set]; omega)) ?_
          refine G.yes rfl ?_
          refine G.call0 rfl rfl (reads_ok ((putB n).take ((putB n).length - 1)) 0 (by rw [List.length_take]; omega) (by unfold i64; decide)) ?_
          rintro _ _ ⟨rfl, rfl⟩
          refine ⟨rfl, ?_⟩
          change WpOpsG _ _ ((53, _) :: _) _ _
          refine G.yes rfl ?_
          refine G.un rfl rfl ?_
          first | refine G.pickT rfl rfl ?_ | refine G.pickF rfl rfl ?_ | refine G.pick rfl rfl rfl ?_
          refine WpOpsG.nil ?_
          change WpG _ _ _ _ _
          refine WpG.cond rfl (fun hq3 => absurd hq3 (by first | decide | simp)) (fun hq3 => ?_)
          refine WpG.skip ?_
          change WpG _ _ _ _ _
          refine WpG.reg ?_
          refine G.mv rfl ?_
          first | refine G.addI rfl rfl (by omega) ?_ | refine G.bin rfl rfl rfl ?_
          refine G.mv rfl ?_
          refine WpOpsG.nil ?_
          refine ⟨e + 1, by omega, by omega, ⟨rfl, ?_, trivial⟩, trivial, rfl⟩
          show some (GV.v (.int .i64 ((e : Int) - 1 + 1))) = some (GV.v (.int .i64 (((e + 1 : Nat) : Int) - 1)))
          congr 3; omega
        · (try simp only [decide_eq_true_eq, decide_eq_false_iff_not, Bool.or_eq_true, Bool.and_eq_true, Bool.or_eq_false_iff, Bool.and_eq_false_iff, bne_iff_ne, beq_iff_eq, beq_eq_false_iff_ne, bne_eq_false_iff_eq, ne_eq, Bool.not_eq_true', Bool.not_eq_false', Int.not_lt, Int.not_le, Decidable.not_not, List.length_map, List.length_cons, List.length_nil] at hq2)
          refine WpG.exit ?_
          change WpG _ _ _ _ _
          refine WpG.reg ?_
          refine G.mv rfl ?_
          first | refine G.addI rfl rfl (by omega) ?_ | refine G.bin rfl rfl rfl ?_
          refine G.mv rfl ?_
          refine WpOpsG.nil ?_
          refine ⟨i + 1, by omega, by omega, ⟨?_, trivial⟩, trivial, rfl⟩
          show some (GV.v (.int .u64 (IntKind.u64.wrap ((i : Int) + 1)))) = _
          rw [wrap_u64]; congr 3; omega
      · exact Nat.zero_le _
    · (try simp only [decide_eq_true_eq, decide_eq_false_iff_not, Bool.or_eq_true, Bool.and_eq_true, Bool.or_eq_false_iff, Bool.and_eq_false_iff, bne_iff_ne, beq_iff_eq, beq_eq_false_iff_ne, bne_eq_false_iff_eq, ne_eq, Bool.not_eq_true', Bool.not_eq_false', Int.not_lt, Int.not_le, Decidable.not_not, List.length_map, List.length_cons, List.length_nil] at hq1)
      refine WpG.exit ?_
      change WpG _ _ _ _ _
      refine WpG.seq ?_
      refine WpG.seq ?_
      refine WpG.reg ?_
      refine G.mv rfl ?_
      refine WpOpsG.nil ?_
      change WpG _ _ _ _ _
      refine WpG.block ?_
      refine WpG.loop (S := Nat) (fun k => [(5, .v (.int .i64 k))]) (fun _ => []) (fun k => k ≤ 256) (fun k => 256 - k) (fun s => ⟨rfl, rfl⟩) ?_ 0 ?_ (by repeat (first | exact trivial | refine ⟨rfl, ?_⟩)) (by repeat (first | exact trivial | refine ⟨rfl, ?_⟩)) rfl
      · intro k hK
        refine WpG.seq ?_
        refine WpG.seq ?_
        refine WpG.reg ?_
        refine G.mv rfl ?_
        refine G.bin rfl rfl rfl ?_
        refine WpOpsG.nil ?_
        change WpG _ _ _ _ _
        refine WpG.cond rfl (fun hq4 => ?_) (fun hq4 => ?_)
        · (try simp only [decide_eq_true_eq, decide_eq_false_iff_not, Bool.or_eq_true, Bool.and_eq_true, Bool.or_eq_false_iff, Bool.and_eq_false_iff, bne_iff_ne, beq_iff_eq, beq_eq_false_iff_ne, bne_eq_false_iff_eq, ne_eq, Bool.not_eq_true', Bool.not_eq_false', Int.not_lt, Int.not_le, Decidable.not_not, List.length_map, List.length_cons, List.length_nil] at hq4)
          refine WpG.skip ?_
          change WpG _ _ _ _ _
          refine WpG.seq ?_
          refine WpG.block ?_
          refine WpG.seq ?_
          refine WpG.reg ?_
          refine G.bsliceF rfl rfl rfl ?_
          refine G.bsliceF rfl rfl rfl ?_
          refine G.bsliceF rfl rfl rfl ?_
          refine G.bsliceF rfl rfl rfl ?_
          refine G.bsliceF rfl rfl rfl ?_
          refine G.bsliceF rfl rfl rfl ?_
          refine G.bsliceF rfl rfl rfl ?_
          refine G.bsliceF rfl rfl rfl ?_
          refine WpOpsG.upF 67 1 rfl ?_
          change WpOpsG _ _ ((67, .fsl 1 (rows8.map encR1)) :: _) _ _
          first | refine G.lenM rfl ?_ | refine G.lenOM rfl rfl ?_ | refine G.lenF rfl ?_ | refine G.lenO rfl rfl ?_ | refine G.lenNil rfl ?_
          refine G.mv rfl ?_
          refine WpOpsG.nil ?_
          change WpG _ _ _ _ _
          refine WpG.block ?_
          refine WpG.loop (S := Nat) (fun j => [(5, .v (.int .i64 k)), (67, .fsl 1 (rows8.map encR1)), (68, .v (.int .i64 8)), (69, .v (.int .i64 j))]) (fun _ => []) (fun j => j ≤ 8) (fun j => 8 - j) (fun s => ⟨rfl, rfl⟩) ?_ 0 ?_ (by repeat (first | exact trivial | refine ⟨rfl, ?_⟩)) (by repeat (first | exact trivial | refine ⟨rfl, ?_⟩)) rfl
          · intro j hJ
            refine WpG.seq ?_
            refine WpG.reg ?_
            refine G.bin rfl rfl rfl ?_
            refine WpOpsG.nil ?_
            change WpG _ _ _ _ _
            refine WpG.seq ?_
            refine WpG.cond rfl (fun hq5 => ?_) (fun hq5 => ?_)
            · (try simp only [decide_eq_true_eq, decide_eq_false_iff_not, Bool.or_eq_true, Bool.and_eq_true, Bool.or_eq_false_iff, Bool.and_eq_false_iff, bne_iff_ne, beq_iff_eq, beq_eq_false_iff_ne, bne_eq_false_iff_eq, ne_eq, Bool.not_eq_true', Bool.not_eq_false', Int.not_lt, Int.not_le, Decidable.not_not, List.length_map, List.length_cons, List.length_nil] at hq5)
              refine WpG.skip ?_
              change WpG _ _ _ _ _
              refine WpG.seq ?_
              refine WpG.block ?_
              refine WpG.seq ?_
              have hrl8 : rows8.length = 8 := rfl
              have hj9 := rows8_le rows8[j] (List.getElem_mem _)
              refine WpG.reg ?_
              first | refine G.iaddrN rfl rfl (List.getElem?_eq_getElem (by first | omega | (simp only [List.length_map, List.length_append, List.length_cons, List.length_nil, List.length_replicate, List.length_take, List.length_drop, List.length_set]; omega))) ?_ | refine G.iaddrM rfl rfl (by omega) (List.getElem?_eq_getElem (by first | omega | (simp only [List.length_map, List.length_append, List.length_cons, List.length_nil, List.length_replicate, List.length_take, List.length_drop, List.length_set]; omega))) ?_ | refine G.iaddrF rfl rfl (by omega) rfl ?_ | refine G.iaddrO rfl rfl rfl (by omega) (by first | omega | (simp only [List.length_map, List.length_append, List.length_cons, List.length_nil, List.length_replicate, List.length_take, List.length_drop, List.length_set]; omega)) ?_ | refine G.iaddrF rfl rfl (by omega) (List.getElem?_eq_getElem (by first | omega | (simp only [List.length_map, List.length_append, List.length_cons, List.length_nil, List.length_replicate, List.length_take, List.length_drop, List.length_set]; omega))) ?_
              first | refine G.load1B rfl rfl rfl ?_ | refine G.load1F rfl rfl ?_ | refine G.load1E rfl rfl (List.getElem?_eq_getElem (by first | omega | (simp only [List.length_map, List.length_append, List.length_cons, List.length_nil, List.length_replicate, List.length_take, List.length_drop, List.length_set]; omega))) rfl ?_ | refine G.load1EM rfl rfl (List.getElem?_eq_getElem (by first | omega | (simp only [List.length_map, List.length_append, List.length_cons, List.length_nil, List.length_replicate, List.length_take, List.length_drop, List.length_set]; omega))) rfl ?_
              refine G.mv rfl ?_
              refine WpOpsG.nil ?_
              change WpG _ _ _ _ _
              refine WpG.seq ?_
              refine WpG.reg ?_
              refine G.mv rfl ?_
              refine G.convi rfl ?_
              rw [b8w2]
              refine G.bslice (g := 21) rfl rfl rfl rfl ?_
              refine G.mv rfl ?_
              refine G.app (ds := rows8[j].map encB) rfl rfl rfl rfl trivial (by simp only [List.length_map, List.length_cons, List.length_nil]; omega) ?_
              refine G.lend rfl rfl (reads_ok (b8 (k : Int) :: rows8[j]) 4611686018427387904 (by rw [List.length_cons]; omega) (by unfold i64; decide)) ?_
              rintro _ _ ⟨rfl, rfl⟩
              refine ⟨rfl, trivial, rfl, ?_⟩
              change WpOpsG _ _ ((78, _) :: _) _ _
              refine G.un rfl rfl ?_
              refine WpOpsG.nil ?_
              change WpG _ _ _ _ _
              refine WpG.cond rfl (fun hq6 => absurd hq6 (by first | decide | simp)) (fun hq6 => ?_)
              refine WpG.skip ?_
              change WpG _ _ _ _ _
              refine WpG.reg ?_
              first | refine G.addI rfl rfl (by omega) ?_ | refine G.bin rfl rfl rfl ?_
              refine G.mv rfl ?_
              refine WpOpsG.nil ?_
              exact ⟨j + 1, by omega, by omega, ⟨rfl, rfl, rfl, rfl, trivial⟩, trivial, rfl⟩
            · (try simp only [decide_eq_true_eq, decide_eq_false_iff_not, Bool.or_eq_true, Bool.and_eq_true, Bool.or_eq_false_iff, Bool.and_eq_false_iff, bne_iff_ne, beq_iff_eq, beq_eq_false_iff_ne, bne_eq_false_iff_eq, ne_eq, Bool.not_eq_true', Bool.not_eq_false', Int.not_lt, Int.not_le, Decidable.not_not, List.length_map, List.length_cons, List.length_nil] at hq5)
              refine WpG.exit ?_
              change WpG _ _ _ _ _
              refine WpG.reg ?_
              refine G.mv rfl ?_
              first | refine G.addI rfl rfl (by omega) ?_ | refine G.bin rfl rfl rfl ?_
              refine G.mv rfl ?_
              refine WpOpsG.nil ?_
              exact ⟨k + 1, by omega, by omega, ⟨rfl, trivial⟩, trivial, rfl⟩
          · exact Nat.zero_le _
        · (try simp only [decide_eq_true_eq, decide_eq_false_iff_not, Bool.or_eq_true, Bool.and_eq_true, Bool.or_eq_false_iff, Bool.and_eq_false_iff, bne_iff_ne, beq_iff_eq, beq_eq_false_iff_ne, bne_eq_false_iff_eq, ne_eq, Bool.not_eq_true', Bool.not_eq_false', Int.not_lt, Int.not_le, Decidable.not_not, List.length_map, List.length_cons, List.length_nil] at hq4)
          refine WpG.exit ?_
          change WpG _ _ _ _ _
          refine WpG.seq ?_
          refine WpG.reg ?_
          refine G.call0 rfl rfl ((nil1 (rtext_ok [] [119, 104, 111, 108, 101] (by decide))).ren [(0, 41)]) ?_
          rintro _ _ ⟨_, _, ⟨rfl, rfl⟩, rfl, rfl⟩
          change newOk _ _ [(41, _)] = true ∧ _
          refine ⟨rfl, ?_⟩
          change WpOpsG _ _ ((81, .osl 41) :: _) ([(41, .arr .yes 1 ((putB 5 ++ [119, 104, 111, 108, 101]).map encB))] ++ _) _
          refine WpOpsG.freeze 41 rfl ?_
          change WpOpsG _ _ ((81, .fsl 1 ((putB 5 ++ [119, 104, 111, 108, 101]).map encB)) :: _) _ _
          refine G.call0 rfl rfl (reads_ok (putB 5 ++ [119, 104, 111, 108, 101]) 5 (by decide) (by unfold i64; decide)) ?_
          rintro _ _ ⟨rfl, rfl⟩
          refine ⟨rfl, ?_⟩
          change WpOpsG _ _ ((82, _) :: _) _ _
          refine G.mv rfl ?_
          refine G.yes rfl ?_
          refine G.call0 rfl rfl ((nil1 (rtext_ok [] [119, 104, 111, 108, 101] (by decide))).ren [(0, 42)]) ?_
          rintro _ _ ⟨_, _, ⟨rfl, rfl⟩, rfl, rfl⟩
          change newOk _ _ [(42, _)] = true ∧ _
          refine ⟨rfl, ?_⟩
          change WpOpsG _ _ ((84, .osl 42) :: _) ([(42, .arr .yes 1 ((putB 5 ++ [119, 104, 111, 108, 101]).map encB))] ++ _) _
          refine WpOpsG.freeze 42 rfl ?_
          change WpOpsG _ _ ((84, .fsl 1 ((putB 5 ++ [119, 104, 111, 108, 101]).map encB)) :: _) _ _
          refine G.yes rfl ?_
          refine G.call0 rfl rfl (reads_ok (putB 5 ++ [119, 104, 111, 108, 101]) 4 (by decide) (by unfold i64; decide)) ?_
          rintro _ _ ⟨rfl, rfl⟩
          refine ⟨rfl, ?_⟩
          change WpOpsG _ _ ((85, _) :: _) _ _
          first | refine G.pickT rfl rfl ?_ | refine G.pickF rfl rfl ?_ | refine G.pick rfl rfl rfl ?_
          refine G.mv rfl ?_
          refine G.yes rfl ?_
          refine G.call0 rfl rfl ((nil1 (rtext_ok [] [119, 104, 111, 108, 101] (by decide))).ren [(0, 43)]) ?_
          rintro _ _ ⟨_, _, ⟨rfl, rfl⟩, rfl, rfl⟩
          change newOk _ _ [(43, _)] = true ∧ _
          refine ⟨rfl, ?_⟩
          change WpOpsG _ _ ((88, .osl 43) :: _) ([(43, .arr .yes 1 ((putB 5 ++ [119, 104, 111, 108, 101]).map encB))] ++ _) _
          refine WpOpsG.freeze 43 rfl ?_
          change WpOpsG _ _ ((88, .fsl 1 ((putB 5 ++ [119, 104, 111, 108, 101]).map encB)) :: _) _ _
          refine G.yes rfl ?_
          refine G.slTake (n := 3) rfl rfl (by first | omega | (simp only [List.length_map, List.length_append, List.length_cons, List.length_nil, List.length_replicate, List.length_take, List.length_drop, List.length_set]; omega)) ?_
          refine G.yes rfl ?_
          refine G.call0 rfl rfl (reads_ok ((putB 5 ++ [119, 104, 111, 108, 101]).take 3) 9 (by decide) (by unfold i64; decide)) ?_
          rintro _ _ ⟨rfl, rfl⟩
          refine ⟨rfl, ?_⟩
          change WpOpsG _ _ ((90, _) :: _) _ _
          first | refine G.pickT rfl rfl ?_ | refine G.pickF rfl rfl ?_ | refine G.pick rfl rfl rfl ?_
          refine G.mv rfl ?_
          refine G.yes rfl ?_
          refine G.call0 rfl rfl (known2_ok) ?_
          rintro _ _ ⟨rfl, rfl⟩
          refine ⟨rfl, ?_⟩
          change WpOpsG _ _ ((93, _) :: _) _ _
          first | refine G.pickT rfl rfl ?_ | refine G.pickF rfl rfl ?_ | refine G.pick rfl rfl rfl ?_
          refine G.mv rfl ?_
          refine WpOpsG.nil ?_
          change WpG _ _ _ _ _
          refine WpG.ret ?_
          refine ⟨_, [], rfl, (hasP_le (by repeat (first | exact trivial | refine ⟨rfl, ?_⟩))), rfl, rfl, rfl, ?_⟩
          exact ⟨rfl, rfl⟩
      · exact Nat.zero_le _
  · exact Nat.zero_le _
end Go.AM.L2
