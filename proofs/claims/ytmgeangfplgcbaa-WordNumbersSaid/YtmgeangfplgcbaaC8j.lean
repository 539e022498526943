/- Contracts of the functions that the statement reaches. No condition. -/
import Derived.Test.YtmgeangfplgcbaaC8i
set_option linter.all false
set_option maxRecDepth 10000
namespace Go.AM.L8
open Go.AM.PL
theorem wordNumbers_ok  : WpCallG A 3 [] [] (fun v H => v = .v (.bool true) ∧ H = []) := by
  refine WpCallG.intro g3 rfl rfl ?_
  unfold af3
  change WpG _ _ _ _ _
  refine WpG.seq ?_
  refine WpG.reg ?_
  refine G.mv rfl ?_
  refine WpOpsG.nil ?_
  change WpG _ _ _ _ _
  refine WpG.seq ?_
  refine WpG.seq ?_
  refine WpG.reg ?_
  refine G.mv rfl ?_
  refine WpOpsG.nil ?_
  change WpG _ _ _ _ _
  refine WpG.block ?_
  refine WpG.loop (S := Nat) (fun k => [(1, .v (.int .i64 (k : Int)))]) (fun _ => []) (fun k => k ≤ 40) (fun k => 40 - k) (fun s => ⟨rfl, rfl⟩) ?_ 0 ?_ (by repeat (first | exact trivial | refine ⟨rfl, ?_⟩)) (by repeat (first | exact trivial | refine ⟨rfl, ?_⟩)) rfl
  · intro k hk
    refine WpG.seq ?_
    refine WpG.seq ?_
    refine WpG.reg ?_
    refine G.mv rfl ?_
    refine G.bin rfl rfl rfl ?_
    refine WpOpsG.nil ?_
    change WpG _ _ _ _ _
    refine WpG.cond rfl (fun hq1 => ?_) (fun hq1 => ?_)
    · (try simp only [decide_eq_true_eq, decide_eq_false_iff_not, Bool.or_eq_true, Bool.and_eq_true, Bool.or_eq_false_iff, Bool.and_eq_false_iff, bne_iff_ne, beq_iff_eq, beq_eq_false_iff_ne, bne_eq_false_iff_eq, ne_eq, Bool.not_eq_true', Bool.not_eq_false', Int.not_lt, Int.not_le, Decidable.not_not, List.length_map, List.length_cons, List.length_nil] at hq1)
      refine WpG.skip ?_
      change WpG _ _ _ _ _
      refine WpG.seq ?_
      refine WpG.block ?_
      refine WpG.seq ?_
      refine WpG.reg ?_
      refine G.mv rfl ?_
      refine G.call0 rfl rfl ((tape_ok k (by omega)).ren [(0, 20)]) ?_
      rintro _ _ ⟨_, _, ⟨rfl, rfl⟩, rfl, rfl⟩
      change newOk _ _ [(20, _)] = true ∧ _
      refine ⟨rfl, ?_⟩
      change WpOpsG _ _ ((11, .osl 20) :: _) ([(20, .arr .yes 1 ((tapeL 43 k 400).map encK))] ++ _) _
      refine WpOpsG.freeze 20 rfl ?_
      refine G.build rfl ?_
      refine G.box (g := 11) rfl rfl rfl ?_
      change WpOpsG _ _ _ ((11, tbox (tapeL 43 k 400) 0) :: _) _
      refine G.call (P := [(11, tbox (tapeL 43 k 400) 0)]) rfl (by repeat (first | exact trivial | refine ⟨rfl, ?_⟩)) rfl rfl ((truns_ok (tapeL 43 k 400) 0 4 14 (by rw [tapeL_len]; decide) tapeL_i64 (Nat.zero_le _) (by decide) (by decide)).ren [(0, 11)]) ?_
      rintro _ _ ⟨_, _, ⟨rfl, rfl⟩, rfl, rfl⟩
      change newOk _ _ [(11, tbox (tapeL 43 k 400) _)] = true ∧ _
      refine ⟨rfl, ?_⟩
      change WpOpsG _ _ ((14, .fsl 2 ((tapeRuns (tapeL 43 k 400) 0 4 14).1.map encN)) :: _) ([(11, tbox (tapeL 43 k 400) _)] ++ _) _
      have hr := tapeRuns_ok (tapeL 43 k 400) 0 4 14 (by decide) (by decide) (Nat.zero_le _)
      obtain ⟨rs, hrs⟩ : ∃ rs, rs = (tapeRuns (tapeL 43 k 400) 0 4 14).1 := ⟨_, rfl⟩
      rw [← hrs] at hr ⊢
      have hrN := okT_N4 hr.1
      have hl16 : rs.length ≤ 14 := by have := hr.2.2.1; omega
      have hl1 := hr.2.1
      refine G.mv rfl ?_
      refine WpOpsG.nil ?_
      change WpG _ _ _ _ _
      refine WpG.seq ?_
      refine WpG.reg ?_
      refine G.mv rfl ?_
      refine WpOpsG.nil ?_
      change WpG _ _ _ _ _
      refine WpG.block ?_
      refine WpG.loop (S := Nat) (fun j => [(1, .v (.int .i64 (k : Int))), (2, .fsl 2 (rs.map encN)), (3, .v (.int .i64 ((j : Int) - 1)))]) (fun _ => []) (fun j => j ≤ rs.length + 2) (fun j => rs.length + 2 - j) (fun s => ⟨rfl, rfl⟩) ?_ 0 ?_ (by repeat (first | exact trivial | refine ⟨rfl, ?_⟩)) (by repeat (first | exact trivial | refine ⟨rfl, ?_⟩)) rfl
      · intro j hj
        refine WpG.seq ?_
        refine WpG.seq ?_
        refine WpG.reg ?_
        refine G.mv rfl ?_
        refine G.mv rfl ?_
        first | refine G.lenM rfl ?_ | refine G.lenOM rfl rfl ?_ | refine G.lenF rfl ?_ | refine G.lenO rfl rfl ?_ | refine G.lenNil rfl ?_
        refine G.bin rfl rfl rfl ?_
        refine WpOpsG.nil ?_
        change WpG _ _ _ _ _
        refine WpG.cond rfl (fun hq2 => ?_) (fun hq2 => ?_)
        · (try simp only [decide_eq_true_eq, decide_eq_false_iff_not, Bool.or_eq_true, Bool.and_eq_true, Bool.or_eq_false_iff, Bool.and_eq_false_iff, bne_iff_ne, beq_iff_eq, beq_eq_false_iff_ne, bne_eq_false_iff_eq, ne_eq, Bool.not_eq_true', Bool.not_eq_false', Int.not_lt, Int.not_le, Decidable.not_not, List.length_map, List.length_cons, List.length_nil] at hq2)
          refine WpG.skip ?_
          change WpG _ _ _ _ _
          refine WpG.seq ?_
          refine WpG.block ?_
          refine WpG.seq ?_
          have hsl := swap_len rs ((j : Int) - 1)
          refine WpG.reg ?_
          refine G.mv rfl ?_
          refine G.mv rfl ?_
          refine G.call0 rfl rfl ((swap_ok rs ((j : Int) - 1) (by omega) (by unfold i64; omega)).ren [(0, 21)]) ?_
          rintro _ _ ⟨_, _, ⟨rfl, rfl⟩, rfl, rfl⟩
          change newOk _ _ [(21, _)] = true ∧ _
          refine ⟨rfl, ?_⟩
          change WpOpsG _ _ ((23, .osl 21) :: _) ([(21, .arr .yes 2 ((swapV rs ((j : Int) - 1)).map encN))] ++ _) _
          refine WpOpsG.freeze 21 rfl ?_
          refine G.mv rfl ?_
          refine WpOpsG.nil ?_
          change WpG _ _ _ _ _
          refine WpG.seq ?_
          refine WpG.reg ?_
          refine G.bslice (g := 12) rfl rfl rfl rfl ?_
          refine G.mv rfl ?_
          refine G.app (ds := rs.map encN) rfl rfl rfl rfl trivial (by rw [List.length_map]; show (0 + rs.length) * 16 ≤ 2 ^ 47; omega) ?_
          change WpOpsG _ _ _ ((12, .arr .yes 2 (rs.map encN)) :: _) _
          refine G.mv rfl ?_
          refine WpOpsG.nil ?_
          change WpG _ _ _ _ _
          refine WpG.seqJ ([(1, .v (.int .i64 (k : Int))), (2, .fsl 2 (rs.map encN)), (3, .v (.int .i64 ((j : Int) - 1))), (4, .fsl 2 ((swapV rs ((j : Int) - 1)).map encN)), (5, .osl 12)]) ([(12, .arr .yes 2 ((swapV rs ((j : Int) - 1)).map encN))]) ⟨rfl, rfl⟩ ?_ ?_
          · change WpG _ _ _ _ _
            refine WpG.seq ?_
            refine WpG.reg ?_
            refine G.mv rfl ?_
            refine G.bin rfl rfl rfl ?_
            refine G.mv rfl ?_
            apply G.andS rfl rfl rfl rfl rfl rfl
            case hB =>
              intro hs3
              (try simp only [decide_eq_true_eq, decide_eq_false_iff_not, Bool.or_eq_true, Bool.and_eq_true, Bool.or_eq_false_iff, Bool.and_eq_false_iff, bne_iff_ne, beq_iff_eq, beq_eq_false_iff_ne, bne_eq_false_iff_eq, ne_eq, Bool.not_eq_true', Bool.not_eq_false', Int.not_lt, Int.not_le, Decidable.not_not, List.length_map, List.length_cons, List.length_nil] at hs3)
              refine G.mv rfl ?_
              first | refine G.addI rfl rfl (by omega) ?_ | refine G.bin rfl rfl rfl ?_
              refine G.mv rfl ?_
              first | refine G.lenM rfl ?_ | refine G.lenOM rfl rfl ?_ | refine G.lenF rfl ?_ | refine G.lenO rfl rfl ?_ | refine G.lenNil rfl ?_
              refine G.bin rfl rfl rfl ?_
              refine WpOpsG.nil ?_
              exact ⟨rfl, (by repeat (first | exact LLe.refl _ | refine LLe.cons rfl ?_)), (by repeat (first | exact HLe.refl _ | refine HLe.cons rfl ?_)), rfl⟩
            refine WpOpsG.nil ?_
            change WpG _ _ _ _ _
            refine WpG.cond rfl (fun hq4 => ?_) (fun hq4 => ?_)
            · (try simp only [decide_eq_true_eq, decide_eq_false_iff_not, Bool.or_eq_true, Bool.and_eq_true, Bool.or_eq_false_iff, Bool.and_eq_false_iff, bne_iff_ne, beq_iff_eq, beq_eq_false_iff_ne, bne_eq_false_iff_eq, ne_eq, Bool.not_eq_true', Bool.not_eq_false', Int.not_lt, Int.not_le, Decidable.not_not, List.length_map, List.length_cons, List.length_nil] at hq4)
              obtain ⟨q, hq⟩ : ∃ q : Nat, ((j : Int) - 1) = (q : Int) := ⟨(((j : Int) - 1)).toNat, by omega⟩
              have hql : q + 1 < rs.length := by omega
              rw [hq]
              refine WpG.reg ?_
              refine G.mv rfl ?_
              refine G.mv rfl ?_
              refine G.mv rfl ?_
              refine G.mv rfl ?_
              first | refine G.addI rfl rfl (by omega) ?_ | refine G.bin rfl rfl rfl ?_
              rw [show (q : Int) + 1 = ((q + 1 : Nat) : Int) by omega]
              refine G.mv rfl ?_
              refine G.mv rfl ?_
              first | refine G.addI rfl rfl (by omega) ?_ | refine G.bin rfl rfl rfl ?_
              rw [show (q : Int) + 1 = ((q + 1 : Nat) : Int) by omega]
              refine G.iaddrO rfl rfl rfl (by omega) (by rw [List.length_map]; omega) ?_
              refine G.loadNEM rfl rfl (gd8 ⟨0, 0⟩ (by omega)) rfl ?_
              refine G.mv rfl ?_
              refine G.mv rfl ?_
              refine G.iaddrO rfl rfl rfl (by omega) (by rw [List.length_map]; omega) ?_
              refine G.loadNEM rfl rfl (gd8 ⟨0, 0⟩ (by omega)) rfl ?_
              refine G.iaddrO rfl rfl rfl (by omega) (by rw [List.length_map]; omega) ?_
              refine G.storeEM (rs.getD (q + 1) ⟨0, 0⟩) rfl rfl rfl (gd8 ⟨0, 0⟩ (by omega)) rfl rfl rfl rfl ?_
              refine G.iaddrO rfl rfl rfl (by omega) (by rw [List.length_map, List.length_set]; omega) ?_
              refine G.storeEM (rs.getD q ⟨0, 0⟩) rfl rfl rfl (gd8 ⟨0, 0⟩ (by rw [List.length_set]; omega)) rfl rfl rfl rfl ?_
              refine WpOpsG.nil ?_
              refine ⟨(by repeat (first | exact trivial | refine ⟨rfl, ?_⟩)), ⟨?_, trivial⟩, rfl⟩
              first
                | (rw [swap_out (by omega)]; rfl)
                | (rw [swap_set hql]; rfl)
            · (try simp only [decide_eq_true_eq, decide_eq_false_iff_not, Bool.or_eq_true, Bool.and_eq_true, Bool.or_eq_false_iff, Bool.and_eq_false_iff, bne_iff_ne, beq_iff_eq, beq_eq_false_iff_ne, bne_eq_false_iff_eq, ne_eq, Bool.not_eq_true', Bool.not_eq_false', Int.not_lt, Int.not_le, Decidable.not_not, List.length_map, List.length_cons, List.length_nil] at hq4)
              refine WpG.skip ?_
              refine ⟨(by repeat (first | exact trivial | refine ⟨rfl, ?_⟩)), ⟨?_, trivial⟩, rfl⟩
              first
                | (rw [swap_out (by omega)]; rfl)
                | (rw [swap_set hql]; rfl)
          change WpG _ _ _ _ _
          refine WpG.seq ?_
          refine WpG.freeze 12 rfl ?_
          refine WpG.reg ?_
          refine G.mv rfl ?_
          refine G.mv rfl ?_
          refine G.call0 rfl rfl (refSame_ok (swapV rs ((j : Int) - 1)) (swapV rs ((j : Int) - 1)) (by omega) (by omega)) ?_
          rintro _ _ ⟨rfl, rfl⟩
          refine ⟨rfl, ?_⟩
          change WpOpsG _ _ ((54, _) :: _) _ _
          rw [decide_eq_true rfl]
          refine G.un rfl rfl ?_
          refine G.mv rfl ?_
          refine WpOpsG.known 56 false rfl rfl ?_
          refine G.mv rfl ?_
          refine G.mv rfl ?_
          refine G.mv rfl ?_
          first | refine G.mulI rfl rfl (by omega) ?_ | refine G.bin rfl rfl rfl ?_
          refine G.mv rfl ?_
          first | refine G.mulI rfl rfl (by omega) ?_ | refine G.bin rfl rfl rfl ?_
          first | refine G.addI rfl rfl (by omega) ?_ | refine G.bin rfl rfl rfl ?_
          refine G.call0 rfl rfl (dependence_ok 4 ((k : Int) * 37 + ((j : Int) - 1) * 5) (by decide)) ?_
          rintro _ _ ⟨rfl, rfl⟩
          refine ⟨rfl, ?_⟩
          change WpOpsG _ _ ((64, _) :: _) _ _
          refine G.mv rfl ?_
          first | refine G.remN rfl rfl (by omega) (by omega) ?_ | refine G.remP rfl rfl (by omega) ?_
          refine G.mv rfl ?_
          refine G.bin rfl rfl rfl ?_
          refine G.call0 rfl rfl (same8_ok rs (swapV rs ((j : Int) - 1)) (depM 4 ((k : Int) * 37 + ((j : Int) - 1) * 5)) (by omega) hrN (by omega) (swap_okN hrN) (by rw [depM_len]; decide) (fun r hr => by rw [depM_rows r hr, depM_len]) ((k : Int) % 4) _) ?_
          rintro _ _ ⟨rfl, rfl⟩
          refine ⟨rfl, ?_⟩
          change WpOpsG _ _ ((69, _) :: _) _ _
          refine G.un rfl rfl ?_
          first | refine G.pickT rfl rfl ?_ | refine G.pickF rfl rfl ?_ | refine G.pick rfl rfl rfl ?_
          refine G.mv rfl ?_
          refine WpOpsG.known 72 false rfl rfl ?_
          refine G.mv rfl ?_
          refine G.mv rfl ?_
          refine G.mv rfl ?_
          first | refine G.lenM rfl ?_ | refine G.lenOM rfl rfl ?_ | refine G.lenF rfl ?_ | refine G.lenO rfl rfl ?_ | refine G.lenNil rfl ?_
          first | refine G.subI rfl rfl (by omega) ?_ | refine G.bin rfl rfl rfl ?_
          rw [show (rs.length : Int) - 1 = ((rs.length - 1 : Nat) : Int) by omega]
          refine G.slTake (n := rs.length - 1) rfl rfl (by first | omega | (simp only [List.length_map, List.length_append, List.length_cons, List.length_nil, List.length_replicate, List.length_take, List.length_drop, List.length_set]; omega)) ?_
          refine G.mv rfl ?_
          refine G.ckcall0 rfl rfl rfl (dependence_ok 3 (k : Int) (by decide)) ?_
          rintro _ _ ⟨rfl, rfl⟩
          refine ⟨rfl, ?_⟩
          change WpOpsG _ _ ((80, _) :: _) _ _
          refine G.call0 rfl rfl (same8_ok (swapV rs ((j : Int) - 1)) (rs.take (rs.length - 1)) (depM 3 (k : Int)) (by omega) (swap_okN hrN) (by rw [List.length_take]; omega) (fun r hr => hrN r (List.mem_of_mem_take hr)) (by rw [depM_len]; decide) (fun r hr => by rw [depM_rows r hr, depM_len]) 0 1) ?_
          rintro _ _ ⟨rfl, rfl⟩
          refine ⟨rfl, ?_⟩
          change WpOpsG _ _ ((81, _) :: _) _ _
          refine G.un rfl rfl ?_
          first | refine G.pickT rfl rfl ?_ | refine G.pickF rfl rfl ?_ | refine G.pick rfl rfl rfl ?_
          refine WpOpsG.nil ?_
          change WpG _ _ _ _ _
          refine WpG.cond rfl (fun hq5 => absurd hq5 (by first | decide | simp)) (fun hq5 => ?_)
          refine WpG.skip ?_
          change WpG _ _ _ _ _
          refine WpG.reg ?_
          refine G.mv rfl ?_
          first | refine G.addI rfl rfl (by omega) ?_ | refine G.bin rfl rfl rfl ?_
          refine G.mv rfl ?_
          refine WpOpsG.nil ?_
          refine ⟨j + 1, by omega, by omega, ⟨rfl, rfl, ?_, trivial⟩, trivial, rfl⟩
          show some (GV.v (.int .i64 _)) = some (GV.v (.int .i64 _))
          congr 3; omega
        · (try simp only [decide_eq_true_eq, decide_eq_false_iff_not, Bool.or_eq_true, Bool.and_eq_true, Bool.or_eq_false_iff, Bool.and_eq_false_iff, bne_iff_ne, beq_iff_eq, beq_eq_false_iff_ne, bne_eq_false_iff_eq, ne_eq, Bool.not_eq_true', Bool.not_eq_false', Int.not_lt, Int.not_le, Decidable.not_not, List.length_map, List.length_cons, List.length_nil] at hq2)
          refine WpG.exit ?_
          change WpG _ _ _ _ _
          refine WpG.reg ?_
          refine G.mv rfl ?_
          first | refine G.addI rfl rfl (by omega) ?_ | refine G.bin rfl rfl rfl ?_
          refine G.mv rfl ?_
          refine WpOpsG.nil ?_
          exact ⟨k + 1, by omega, by omega, ⟨rfl, trivial⟩, trivial, rfl⟩
      · exact Nat.zero_le _
    · (try simp only [decide_eq_true_eq, decide_eq_false_iff_not, Bool.or_eq_true, Bool.and_eq_true, Bool.or_eq_false_iff, Bool.and_eq_false_iff, bne_iff_ne, beq_iff_eq, beq_eq_false_iff_ne, bne_eq_false_iff_eq, ne_eq, Bool.not_eq_true', Bool.not_eq_false', Int.not_lt, Int.not_le, Decidable.not_not, List.length_map, List.length_cons, List.length_nil] at hq1)
      refine WpG.exit ?_
      change WpG _ _ _ _ _
      refine WpG.seq ?_
      refine WpG.reg ?_
      refine G.call0 rfl rfl (nil1 (nil2 (nil3 (same8_ok [] [] [] (by decide) (fun r hr => by cases hr) (by decide) (fun r hr => by cases hr) (by decide) (fun r hr => by cases hr) 0 0)))) ?_
      rintro _ _ ⟨rfl, rfl⟩
      refine ⟨rfl, ?_⟩
      change WpOpsG _ _ ((84, _) :: _) _ _
      refine G.mv rfl ?_
      refine WpOpsG.known 85 true rfl rfl ?_
      refine G.call0 rfl rfl (known8_ok) ?_
      rintro _ _ ⟨rfl, rfl⟩
      refine ⟨rfl, ?_⟩
      change WpOpsG _ _ ((86, _) :: _) _ _
      first | refine G.pickT rfl rfl ?_ | refine G.pickF rfl rfl ?_ | refine G.pick rfl rfl rfl ?_
      refine G.mv rfl ?_
      refine WpOpsG.nil ?_
      change WpG _ _ _ _ _
      refine WpG.ret ?_
      refine ⟨_, [], rfl, (hasP_le (by repeat (first | exact trivial | refine ⟨rfl, ?_⟩))), rfl, rfl, rfl, ?_⟩
      exact ⟨rfl, rfl⟩
  · exact Nat.zero_le _
end Go.AM.L8
