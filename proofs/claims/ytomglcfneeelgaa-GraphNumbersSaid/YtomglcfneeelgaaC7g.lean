/- Contracts of the functions that the statement reaches. No condition. -/
import Derived.Test.YtomglcfneeelgaaC7e
import Derived.Test.YtomglcfneeelgaaK7g
import Derived.Test.YtomglcfneeelgaaPL7b
set_option linter.all false
set_option maxRecDepth 10000
namespace Go.AM.L7
open Go.AM.PL
theorem config_okP (t : List Int) (a0 : Nat) (ht : t.length ≤ 2 ^ 50) (hi : ∀ x ∈ t, i64 x) (ha0 : a0 ≤ t.length) : WpCallG A 9 [.bptr 0 0] [(0, tbox t a0)] (fun v H => ∃ (P : List Pt) (C : List Ch) (tabs : List (List Nd)) (b : Nat), CfgP P C tabs ∧ b ≤ t.length ∧ v = .agg [.fsl 11 (P.map encP), .fsl 6 (C.map encC), .fsl 1 (tabs.map encTb)] ∧ H = [(0, tbox t b)]) := cfgOut (config_ok t a0 ht hi ha0)
theorem same7_ok (P : List Pt) (C : List Ch) (ts : List (List GV)) (hP : P.length ≤ 2 ^ 30) (hC : C.length ≤ 2 ^ 30) (a b : Int) : WpCallG A 10 [.agg [.fsl 11 (P.map encP), .fsl 6 (C.map encC), .fsl 1 ts], .v (.int .i64 a), .v (.int .i64 b)] [] (fun v H => v = .v (.bool true) ∧ H = []) := by
  refine WpCallG.intro g10 rfl rfl ?_
  unfold af10
  change WpG _ _ _ _ _
  refine WpG.seq ?_
  refine WpG.reg ?_
  refine G.box (g := 10) rfl rfl rfl ?_
  refine G.mv rfl ?_
  refine WpOpsG.nil ?_
  change WpG _ _ _ _ _
  refine WpG.seq ?_
  refine WpG.reg ?_
  refine G.loadNB rfl rfl rfl ?_
  refine G.loadNB rfl rfl rfl ?_
  refine G.ckcall0 rfl rfl rfl (gdep_ok P C ts hP hC) ?_
  rintro _ _ ⟨rfl, rfl⟩
  refine ⟨rfl, ?_⟩
  change WpOpsG _ _ ((8, _) :: _) _ _
  refine G.call0 rfl rfl (rdep_ok P C ts hP hC) ?_
  rintro _ _ ⟨rfl, rfl⟩
  refine ⟨rfl, ?_⟩
  change WpOpsG _ _ ((10, _) :: _) _ _
  refine G.call0 rfl rfl (matrix_ok (matF P.length (depG P C)) (matF P.length (depG P C)) (by rw [matF_len]; omega) (by rw [matF_len]; omega) (fun r hr => by rw [matF_rows r hr]; omega) (fun r hr => by rw [matF_rows r hr]; omega)) ?_
  rintro _ _ ⟨rfl, rfl⟩
  refine ⟨rfl, ?_⟩
  change WpOpsG _ _ ((11, _) :: _) _ _
  rw [decide_eq_true rfl]
  refine G.mv rfl ?_
  refine WpOpsG.known 12 true rfl rfl ?_
  refine G.loadNB rfl rfl rfl ?_
  refine G.loadNB rfl rfl rfl ?_
  refine G.ckcall0 rfl rfl rfl (gsw_ok P C ts hP hC) ?_
  rintro _ _ ⟨rfl, rfl⟩
  refine ⟨rfl, ?_⟩
  change WpOpsG _ _ ((14, _) :: _) _ _
  refine G.call0 rfl rfl (rsw_ok P C ts hP hC) ?_
  rintro _ _ ⟨rfl, rfl⟩
  refine ⟨rfl, ?_⟩
  change WpOpsG _ _ ((16, _) :: _) _ _
  refine G.call0 rfl rfl (matrix_ok (matF P.length (swG P C)) (matF P.length (swG P C)) (by rw [matF_len]; omega) (by rw [matF_len]; omega) (fun r hr => by rw [matF_rows r hr]; omega) (fun r hr => by rw [matF_rows r hr]; omega)) ?_
  rintro _ _ ⟨rfl, rfl⟩
  refine ⟨rfl, ?_⟩
  change WpOpsG _ _ ((17, _) :: _) _ _
  rw [decide_eq_true rfl]
  refine G.pickT rfl rfl ?_
  refine G.mv rfl ?_
  refine WpOpsG.known 19 true rfl rfl ?_
  refine G.loadNB rfl rfl rfl ?_
  refine G.mv rfl ?_
  refine G.mv rfl ?_
  refine G.loadNB rfl rfl rfl ?_
  refine G.ckcall0 rfl rfl rfl (gfree_ok P C ts hP hC a b) ?_
  rintro _ _ ⟨rfl, rfl⟩
  refine ⟨rfl, ?_⟩
  change WpOpsG _ _ ((23, _) :: _) _ _
  refine G.mv rfl ?_
  refine G.mv rfl ?_
  refine G.call0 rfl rfl (rfree_ok P C ts hP hC a b) ?_
  rintro _ _ ⟨rfl, rfl⟩
  refine ⟨rfl, ?_⟩
  change WpOpsG _ _ ((27, _) :: _) _ _
  refine G.beq rfl rfl rfl ?_
  try rw [beq_self_eq_true]
  refine G.pickT rfl rfl ?_
  refine G.mv rfl ?_
  refine WpOpsG.known 30 true rfl rfl ?_
  refine G.loadNB rfl rfl rfl ?_
  refine G.mv rfl ?_
  refine G.loadNB rfl rfl rfl ?_
  refine G.ckcall0 rfl rfl rfl (greach_ok P C ts hP hC a) ?_
  rintro _ _ ⟨rfl, rfl⟩
  refine ⟨rfl, ?_⟩
  change WpOpsG _ _ ((33, _) :: _) _ _
  refine G.mv rfl ?_
  refine G.call0 rfl rfl (rreach_ok P C ts hP hC a) ?_
  rintro _ _ ⟨rfl, rfl⟩
  refine ⟨rfl, ?_⟩
  change WpOpsG _ _ ((36, _) :: _) _ _
  refine G.call0 rfl rfl (sameI_ok (reV P.length (clo (swG P C) P.length) a) (reV P.length (clo (swG P C) P.length) a) (by have := reV_len P.length (clo (swG P C) P.length) a; omega) (by have := reV_len P.length (clo (swG P C) P.length) a; omega)) ?_
  rintro _ _ ⟨rfl, rfl⟩
  refine ⟨rfl, ?_⟩
  change WpOpsG _ _ ((37, _) :: _) _ _
  rw [decide_eq_true rfl]
  refine G.pickT rfl rfl ?_
  refine G.mv rfl ?_
  refine WpOpsG.known 39 true rfl rfl ?_
  refine G.loadNB rfl rfl rfl ?_
  refine G.loadNB rfl rfl rfl ?_
  refine G.ckcall0 rfl rfl rfl (rsw_ok P C ts hP hC) ?_
  rintro _ _ ⟨rfl, rfl⟩
  refine ⟨rfl, ?_⟩
  change WpOpsG _ _ ((41, _) :: _) _ _
  refine G.ckcall0 rfl rfl rfl (gclo_ok (matF P.length (swG P C)) (by rw [matF_len]; omega) (fun r hr => by rw [matF_rows r hr]; omega)) ?_
  rintro _ _ ⟨rfl, rfl⟩
  refine ⟨rfl, ?_⟩
  change WpOpsG _ _ ((42, _) :: _) _ _
  rw [clo_mat]
  refine G.call0 rfl rfl (rsw_ok P C ts hP hC) ?_
  rintro _ _ ⟨rfl, rfl⟩
  refine ⟨rfl, ?_⟩
  change WpOpsG _ _ ((44, _) :: _) _ _
  refine G.call0 rfl rfl (rclo_ok (matF P.length (swG P C)) (by rw [matF_len]; omega) (fun r hr => by rw [matF_rows r hr]; omega)) ?_
  rintro _ _ ⟨rfl, rfl⟩
  refine ⟨rfl, ?_⟩
  change WpOpsG _ _ ((45, _) :: _) _ _
  rw [clo_mat]
  refine G.call0 rfl rfl (matrix_ok (matF P.length (clo (swG P C) P.length)) (matF P.length (clo (swG P C) P.length)) (by rw [matF_len]; omega) (by rw [matF_len]; omega) (fun r hr => by rw [matF_rows r hr]; omega) (fun r hr => by rw [matF_rows r hr]; omega)) ?_
  rintro _ _ ⟨rfl, rfl⟩
  refine ⟨rfl, ?_⟩
  change WpOpsG _ _ ((46, _) :: _) _ _
  rw [decide_eq_true rfl]
  refine G.pickT rfl rfl ?_
  refine G.mv rfl ?_
  refine WpOpsG.nil ?_
  change WpG _ _ _ _ _
  refine WpG.ret ?_
  refine ⟨_, [], rfl, (hasP_le (by repeat (first | exact trivial | refine ⟨rfl, ?_⟩))), rfl, rfl, rfl, ?_⟩
  exact ⟨rfl, rfl⟩
theorem tape_ok (k : Nat) (hk : k ≤ 1000) : WpCallG A 8 [.v (.int .i64 (k : Int))] [] (fun v H => v = .osl 0 ∧ H = [(0, .arr .yes 1 ((tapeL 41 k 400).map encK))]) := by
  refine WpCallG.intro g8 rfl rfl ?_
  unfold af8
  change WpG _ _ _ _ _
  refine WpG.seq ?_
  refine WpG.reg ?_
  refine G.mv rfl ?_
  refine WpOpsG.nil ?_
  change WpG _ _ _ _ _
  refine WpG.seq ?_
  refine WpG.reg ?_
  refine G.mv rfl ?_
  refine WpOpsG.nil ?_
  change WpG _ _ _ _ _
  refine WpG.seq ?_
  refine WpG.seq ?_
  refine WpG.reg ?_
  refine G.mv rfl ?_
  refine WpOpsG.nil ?_
  change WpG _ _ _ _ _
  refine WpG.block ?_
  refine WpG.ownNil (g := 0) (k := 3) (w := 1) rfl rfl ?_
  refine WpG.loop (S := Nat) (fun i => [(0, .v (.int .i64 (k : Int))), (3, .osl 0), (4, .v (.int .i64 (i : Int)))]) (fun i => [(0, .arr .yes 1 ((tapeL 41 k i).map encK))]) (fun i => i ≤ 400) (fun i => 400 - i) (fun s => ⟨rfl, rfl⟩) ?_ 0 ?_ (by repeat (first | exact trivial | refine ⟨rfl, ?_⟩)) (by repeat (first | exact trivial | refine ⟨rfl, ?_⟩)) rfl
  · intro i hI
    refine WpG.seq ?_
    refine WpG.seq ?_
    refine WpG.reg ?_
    refine G.mv rfl ?_
    refine G.bin rfl rfl rfl ?_
    refine WpOpsG.nil ?_
    change WpG _ _ _ _ _
    refine WpG.cond rfl (fun hq1 => ?_) (fun hq1 => ?_)
    · (try simp only [zN] at hq1)
      refine WpG.skip ?_
      change WpG _ _ _ _ _
      refine WpG.seq ?_
      refine WpG.block ?_
      have e1 := mul_le' (a := i) (b := i) (m := 400) (n := 400) (by omega) (by omega)
      have e2 := mul_le' (a := i) (b := k) (m := 400) (n := 1000) (by omega) (by omega)
      refine WpG.reg ?_
      refine G.mv rfl ?_
      refine G.mv rfl ?_
      refine G.mv rfl ?_
      refine G.mulI rfl rfl (by omega) ?_
      refine G.mulI rfl rfl (by omega) ?_
      refine G.mv rfl ?_
      refine G.mulI rfl rfl (by omega) ?_
      refine G.addI rfl rfl (by omega) ?_
      refine G.mv rfl ?_
      refine G.mv rfl ?_
      refine G.mulI rfl rfl (by omega) ?_
      refine G.addI rfl rfl (by omega) ?_
      refine G.remN rfl rfl (by omega) (by omega) ?_
      refine G.bsliceF rfl rfl rfl ?_
      refine G.app rfl rfl rfl rfl trivial (by rw [List.length_map, tapeL_len]; show (i + 1) * 8 ≤ 2 ^ 47; omega) ?_
      refine G.mv rfl ?_
      refine WpOpsG.nil ?_
      change WpG _ _ _ _ _
      refine WpG.reg ?_
      refine G.mv rfl ?_
      refine G.addI rfl rfl (by omega) ?_
      refine G.mv rfl ?_
      refine WpOpsG.nil ?_
      refine ⟨i + 1, by omega, by omega, ⟨rfl, rfl, rfl, trivial⟩, ⟨?_, trivial⟩, rfl⟩
      rw [tapeL_snoc, List.map_append]; rfl
    · (try simp only [zN] at hq1)
      refine WpG.exit ?_
      change WpG _ _ _ _ _
      refine WpG.seq ?_
      obtain rfl : i = 400 := by omega
      refine WpG.reg ?_
      refine G.mv rfl ?_
      refine G.mv rfl ?_
      refine WpOpsG.nil ?_
      change WpG _ _ _ _ _
      refine WpG.ret ?_
      refine ⟨_, [(0, .arr .yes 1 ((tapeL 41 k 400).map encK))], rfl, (hasP_le (by repeat (first | exact trivial | refine ⟨rfl, ?_⟩))), rfl, rfl, rfl, ?_⟩
      exact ⟨rfl, rfl⟩
  · exact Nat.zero_le _
end Go.AM.L7
