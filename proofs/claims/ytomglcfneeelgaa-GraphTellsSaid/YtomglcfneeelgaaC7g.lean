/- Contracts of the functions that the statement reaches. No condition. -/
import Derived.Test.YtomglcfneeelgaaC7e
import Derived.Test.YtomglcfneeelgaaK7g
import Derived.Test.YtomglcfneeelgaaPL7b
set_option linter.all false
set_option maxRecDepth 10000
namespace Go.AM.L7
open Go.AM.PL
theorem config_okP (t : List Int) (a0 : Nat) (ht : t.length ≤ 2 ^ 50) (hi : ∀ x ∈ t, i64 x) (ha0 : a0 ≤ t.length) : WpCallG A 9 [.bptr 0 0] [(0, tbox t a0)] (fun v H => ∃ (P : List Pt) (C : List Ch) (tabs : List (List Nd)) (b : Nat), CfgP P C tabs ∧ b ≤ t.length ∧ v = .agg [.fsl 11 (P.map encP), .fsl 6 (C.map encC), .fsl 1 (tabs.map encTb)] ∧ H = [(0, tbox t b)]) := cfgOut (config_ok t a0 ht hi ha0)
theorem same7_ok (P : List Pt) (C : List Ch) (ts : List (List GV)) (hP : P.length ≤ 2 ^ 30) (hC : C.length ≤ 2 ^ 30) (a b : Int) : WpCallG A 10 [.agg [.fsl 11 (P.map encP), .fsl 6 (C.map encC), .fsl 1 ts], .v (.int .i64 a), .v (.int .i64 b)] [] (fun v H => v = .v (.bool true) ∧ H = []) := by
  refine WpCallG.intro g10 rfl rfl ?_
  unfold af10
  change WpG _ _ _ _ _
  refine WpG.seq ?_
  refine WpG.reg ?_
  refine G.box (g := 10) rfl rfl rfl ?_
  refine G.mv rfl ?_
  refine WpOpsG.nil ?_
  change WpG _ _ _ _ _
  refine WpG.seq ?_
  refine WpG.reg ?_
  refine G.loadNB rfl rfl rfl ?_
  refine G.loadNB rfl rfl rfl ?_
  refine G.ckcall0 rfl rfl rfl (gdep_ok P C ts hP hC) ?_
  rintro _ _ ⟨rfl, rfl⟩
  refine ⟨rfl, ?_⟩
  change WpOpsG _ _ ((8, _) :: _) _ _
  refine G.call0 rfl rfl (rdep_ok P C ts hP hC) ?_
  rintro _ _ ⟨rfl, rfl⟩
  refine ⟨rfl, ?_⟩
  change WpOpsG _ _ ((10, _) :: _) _ _
  refine G.call0 rfl rfl (matrix_ok (matF P.length (depG P C)) (matF P.length (depG P C)) (by rw [matF_len]; omega) (by rw [matF_len]; omega) (fun r hr => by rw [matF_rows r hr]; omega) (fun r hr => by rw [matF_rows r hr]; omega)) ?_
  rintro _ _ ⟨rfl, rfl⟩
  refine ⟨rfl, ?_⟩
  change WpOpsG _ _ ((11, _) :: _) _ _
  rw [decide_eq_true rfl]
  refine G.mv rfl ?_
  refine WpOpsG.known 12 true rfl rfl ?_
  refine G.loadNB rfl rfl rfl ?_
  refine G.loadNB rfl rfl rfl ?_
  refine G.ckcall0 rfl rfl rfl (gsw_ok P C ts hP hC) ?_
  rintro _ _ ⟨rfl, rfl⟩
  refine ⟨rfl, ?_⟩
  change WpOpsG _ _ ((14, _) :: _) _ _
  refine G.call0 rfl rfl (rsw_ok P C ts hP hC) ?_
  rintro _ _ ⟨rfl, rfl⟩
  refine ⟨rfl, ?_⟩
  change WpOpsG _ _ ((16, _) :: _) _ _
  refine G.call0 rfl rfl (matrix_ok (matF P.length (swG P C)) (matF P.length (swG P C)) (by rw [matF_len]; omega) (by rw [matF_len]; omega) (fun r hr => by rw [matF_rows r hr]; omega) (fun r hr => by rw [matF_rows r hr]; omega)) ?_
  rintro _ _ ⟨rfl, rfl⟩
  refine ⟨rfl, ?_⟩
  change WpOpsG _ _ ((17, _) :: _) _ _
  rw [decide_eq_true rfl]
  refine G.pickT rfl rfl ?_
  refine G.mv rfl ?_
  refine WpOpsG.known 19 true rfl rfl ?_
  refine G.loadNB rfl rfl rfl ?_
  refine G.mv rfl ?_
  refine G.mv rfl ?_
  refine G.loadNB rfl rfl rfl ?_
  refine G.ckcall0 rfl rfl rfl (gfree_ok P C ts hP hC a b) ?_
  rintro _ _ ⟨rfl, rfl⟩
  refine ⟨rfl, ?_⟩
  change WpOpsG _ _ ((23, _) :: _) _ _
  refine G.mv rfl ?_
  refine G.mv rfl ?_
  refine G.call0 rfl rfl (rfree_ok P C ts hP hC a b) ?_
  rintro _ _ ⟨rfl, rfl⟩
  refine ⟨rfl, ?_⟩
  change WpOpsG _ _ ((27, _) :: _) _ _
  refine G.beq rfl rfl rfl ?_
  try rw [beq_self_eq_true]
  refine G.pickT rfl rfl ?_
  refine G.mv rfl ?_
  refine WpOpsG.known 30 true rfl rfl ?_
  refine G.loadNB rfl rfl rfl ?_
  refine G.mv rfl ?_
  refine G.loadNB rfl rfl rfl ?_
  refine G.ckcall0 rfl rfl rfl (greach_ok P C ts hP hC a) ?_
  rintro _ _ ⟨rfl, rfl⟩
  refine ⟨rfl, ?_⟩
  change WpOpsG _ _ ((33, _) :: _) _ _
  refine G.mv rfl ?_
  refine G.call0 rfl rfl (rreach_ok P C ts hP hC a) ?_
  rintro _ _ ⟨rfl, rfl⟩
  refine ⟨rfl, ?_⟩
  change WpOpsG _ _ ((36, _) :: _) _ _
  refine G.call0 rfl rfl (sameI_ok (reV P.length (clo (swG P C) P.length) a) (reV P.length (clo (swG P C) P.length) a) (by have := reV_len P.length (clo (swG P C) P.length) a; omega) (by have := reV_len P.length (clo (swG P C) P.length) a; omega)) ?_
  rintro _ _ ⟨rfl, rfl⟩
  refine ⟨rfl, ?_⟩
  change WpOpsG _ _ ((37, _) :: _) _ _
  rw [decide_eq_true rfl]
  refine G.pickT rfl rfl ?_
  refine G.mv rfl ?_
  refine WpOpsG.known 39 true rfl rfl ?_
  refine G.loadNB rfl rfl rfl ?_
  refine G.loadNB rfl rfl rfl ?_
  refine G.ckcall0 rfl rfl rfl (rsw_ok P C ts hP hC) ?_
  rintro _ _ ⟨rfl, rfl⟩
  refine ⟨rfl, ?_⟩
  change WpOpsG _ _ ((41, _) :: _) _ _
  refine G.ckcall0 rfl rfl rfl (gclo_ok (matF P.length (swG P C)) (by rw [matF_len]; omega) (fun r hr => by rw [matF_rows r hr]; omega)) ?_
  rintro _ _ ⟨rfl, rfl⟩
  refine ⟨rfl, ?_⟩
  change WpOpsG _ _ ((42, _) :: _) _ _
  rw [clo_mat]
  refine G.call0 rfl rfl (rsw_ok P C ts hP hC) ?_
  rintro _ _ ⟨rfl, rfl⟩
  refine ⟨rfl, ?_⟩
  change WpOpsG _ _ ((44, _) :: _) _ _
  refine G.call0 rfl rfl (rclo_ok (matF P.length (swG P C)) (by rw [matF_len]; omega) (fun r hr => by rw [matF_rows r hr]; omega)) ?_
  rintro _ _ ⟨rfl, rfl⟩
  refine ⟨rfl, ?_⟩
  change WpOpsG _ _ ((45, _) :: _) _ _
  rw [clo_mat]
  refine G.call0 rfl rfl (matrix_ok (matF P.length (clo (swG P C) P.length)) (matF P.length (clo (swG P C) P.length)) (by rw [matF_len]; omega) (by rw [matF_len]; omega) (fun r hr => by rw [matF_rows r hr]; omega) (fun r hr => by rw [matF_rows r hr]; omega)) ?_
  rintro _ _ ⟨rfl, rfl⟩
  refine ⟨rfl, ?_⟩
  change WpOpsG _ _ ((46, _) :: _) _ _
  rw [decide_eq_true rfl]
  refine G.pickT rfl rfl ?_
  refine G.mv rfl ?_
  refine WpOpsG.nil ?_
  change WpG _ _ _ _ _
  refine WpG.ret ?_
  refine ⟨_, [], rfl, (hasP_le (by repeat (first | exact trivial | refine ⟨rfl, ?_⟩))), rfl, rfl, rfl, ?_⟩
  exact ⟨rfl, rfl⟩
theorem few_ok (P : List Pt) (C : List Ch) (ts : List (List GV)) (hP : P.length ≤ 2 ^ 50) (hC : C.length ≤ 2 ^ 50) : WpCallG A 14 [.agg [.fsl 11 (P.map encP), .fsl 6 (C.map encC), .fsl 1 ts]] [] (fun v H => v = .agg [.fsl 11 ((P.take 8).map encP), .fsl 6 ((C.take 20).map encC), .fsl 1 ts] ∧ H = []) := by
  refine WpCallG.intro g14 rfl rfl ?_
  unfold af14
  change WpG _ _ _ _ _
  refine WpG.seq ?_
  refine WpG.reg ?_
  refine G.box (g := 10) rfl rfl rfl ?_
  refine G.box (g := 11) rfl rfl rfl ?_
  refine WpOpsG.nil ?_
  change WpG _ _ _ _ _
  refine WpG.seqJ ([(1, .bptr 10 0), (2, .bptr 11 0)]) ([(10, .box [.fsl 11 ((P.take 8).map encP), .fsl 6 (C.map encC), .fsl 1 ts]), (11, .box [.v (.slice none 0 0), .v (.slice none 0 0), .v (.slice none 0 0)])]) ⟨rfl, rfl⟩ ?_ ?_
  · change WpG _ _ _ _ _
    refine WpG.seq ?_
    refine WpG.reg ?_
    refine G.faddrB rfl ?_
    refine G.load1B rfl rfl rfl ?_
    refine G.lenM rfl ?_
    refine G.bin rfl rfl rfl ?_
    refine WpOpsG.nil ?_
    change WpG _ _ _ _ _
    refine WpG.cond rfl (fun hq1 => ?_) (fun hq1 => ?_)
    · (try simp only [zN] at hq1)
      refine WpG.reg ?_
      refine G.faddrB rfl ?_
      refine G.load1B rfl rfl rfl ?_
      refine G.slF rfl (bndG_some rfl (by (simp only [List.length_map, List.length_append, List.length_cons, List.length_nil, List.length_replicate, List.length_take, List.length_drop, List.length_set]; omega))) rfl ?_
      refine G.faddrB rfl ?_
      refine G.storeB rfl rfl rfl rfl rfl rfl ?_
      refine WpOpsG.nil ?_
      refine ⟨⟨rfl, rfl, trivial⟩, ⟨?_, rfl, trivial⟩, rfl⟩
      first
        | (rw [List.map_take]; rfl)
        | (rw [List.take_of_length_le (show P.length ≤ 8 by omega)]; rfl)
    · (try simp only [zN] at hq1)
      refine WpG.skip ?_
      refine ⟨⟨rfl, rfl, trivial⟩, ⟨?_, rfl, trivial⟩, rfl⟩
      first
        | (rw [List.map_take]; rfl)
        | (rw [List.take_of_length_le (show P.length ≤ 8 by omega)]; rfl)
  change WpG _ _ _ _ _
  refine WpG.seqJ ([(1, .bptr 10 0), (2, .bptr 11 0)]) ([(10, .box [.fsl 11 ((P.take 8).map encP), .fsl 6 ((C.take 20).map encC), .fsl 1 ts]), (11, .box [.v (.slice none 0 0), .v (.slice none 0 0), .v (.slice none 0 0)])]) ⟨rfl, rfl⟩ ?_ ?_
  · change WpG _ _ _ _ _
    refine WpG.seq ?_
    refine WpG.reg ?_
    refine G.faddrB rfl ?_
    refine G.load1B rfl rfl rfl ?_
    refine G.lenM rfl ?_
    refine G.bin rfl rfl rfl ?_
    refine WpOpsG.nil ?_
    change WpG _ _ _ _ _
    refine WpG.cond rfl (fun hq2 => ?_) (fun hq2 => ?_)
    · (try simp only [zN] at hq2)
      refine WpG.reg ?_
      refine G.faddrB rfl ?_
      refine G.load1B rfl rfl rfl ?_
      refine G.slF rfl (bndG_some rfl (by (simp only [List.length_map, List.length_append, List.length_cons, List.length_nil, List.length_replicate, List.length_take, List.length_drop, List.length_set]; omega))) rfl ?_
      refine G.faddrB rfl ?_
      refine G.storeB rfl rfl rfl rfl rfl rfl ?_
      refine WpOpsG.nil ?_
      refine ⟨⟨rfl, rfl, trivial⟩, ⟨?_, rfl, trivial⟩, rfl⟩
      first
        | (rw [List.map_take (l := C)]; rfl)
        | (rw [List.take_of_length_le (show C.length ≤ 20 by omega)]; rfl)
    · (try simp only [zN] at hq2)
      refine WpG.skip ?_
      refine ⟨⟨rfl, rfl, trivial⟩, ⟨?_, rfl, trivial⟩, rfl⟩
      first
        | (rw [List.map_take (l := C)]; rfl)
        | (rw [List.take_of_length_le (show C.length ≤ 20 by omega)]; rfl)
  change WpG _ _ _ _ _
  refine WpG.seq ?_
  refine WpG.reg ?_
  refine G.loadNB rfl rfl rfl ?_
  refine G.storeB rfl rfl rfl rfl rfl rfl ?_
  refine WpOpsG.nil ?_
  change WpG _ _ _ _ _
  refine WpG.ret ?_
  refine ⟨_, [], rfl, (hasP_le (by repeat (first | exact trivial | refine ⟨rfl, ?_⟩))), rfl, rfl, rfl, ?_⟩
  exact ⟨rfl, rfl⟩
end Go.AM.L7
