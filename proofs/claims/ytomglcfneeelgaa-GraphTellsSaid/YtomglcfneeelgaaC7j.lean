/- Contracts of the functions that the statement reaches. No condition. -/
import Derived.Test.YtomglcfneeelgaaC7g
set_option linter.all false
set_option maxRecDepth 10000
namespace Go.AM.L7
open Go.AM.PL
set_option maxHeartbeats 2000000 in
theorem graphTells_ok (t : List Int) (a b : Int) (Q : List Pt) (D : List Ch) (ts : List (List GV)) (m : List (List Bool)) (ht : t.length ≤ 2 ^ 50) (hi : ∀ x ∈ t, i64 x) (hQ : Q.length ≤ 2 ^ 50) (hD : D.length ≤ 2 ^ 50) (hm : m.length ≤ 2 ^ 50) (hm2 : ∀ r ∈ m, r.length ≤ 2 ^ 47) : WpCallG A 4 [.fsl 1 (t.map encK), .v (.int .i64 a), .v (.int .i64 b), .agg [.fsl 11 (Q.map encP), .fsl 6 (D.map encC), .fsl 1 ts], .fsl 1 (m.map encBs)] [] (fun v H => v = .v (.bool true) ∧ H = []) := by
  refine WpCallG.intro g4 rfl rfl ?_
  unfold af4
  change WpG _ _ _ _ _
  refine WpG.seq ?_
  refine WpG.reg ?_
  refine G.box (g := 14) rfl rfl rfl ?_
  refine G.mv rfl ?_
  refine WpOpsG.nil ?_
  change WpG _ _ _ _ _
  refine WpG.seq ?_
  refine WpG.reg ?_
  refine G.mv rfl ?_
  refine G.build rfl ?_
  refine G.box (g := 11) rfl rfl rfl ?_
  change WpOpsG _ _ _ ((11, tbox t 0) :: _) _
  refine G.call (P := [(11, tbox t 0)]) rfl (by repeat (first | exact trivial | refine ⟨rfl, ?_⟩)) rfl rfl ((config_okP t 0 ht hi (Nat.zero_le _)).ren [(0, 11)]) ?_
  rintro _ _ ⟨_, _, ⟨P, C, tabs, b0, hcf, hb0, rfl, rfl⟩, rfl, rfl⟩
  change newOk _ _ [(11, tbox t b0)] = true ∧ _
  refine ⟨rfl, ?_⟩
  change WpOpsG _ _ ((18, .agg [.fsl 11 (P.map encP), .fsl 6 (C.map encC), .fsl 1 (tabs.map encTb)]) :: _) ([(11, tbox t b0)] ++ _) _
  obtain ⟨⟨⟨hP1, hP4⟩, hPp⟩, ⟨hC20, hCs⟩, ⟨hT1, hT3⟩, hTs⟩ := hcf
  refine G.box (g := 12) rfl rfl rfl ?_
  refine G.storeB rfl rfl rfl rfl rfl rfl ?_
  refine WpOpsG.nil ?_
  change WpG _ _ _ _ _
  refine WpG.seq ?_
  refine WpG.reg ?_
  refine G.loadNB rfl rfl rfl ?_
  refine G.call0 rfl rfl (few_ok Q D ts hQ hD) ?_
  rintro _ _ ⟨rfl, rfl⟩
  refine ⟨rfl, ?_⟩
  change WpOpsG _ _ ((20, _) :: _) _ _
  refine G.box (g := 13) rfl rfl rfl ?_
  refine G.storeB rfl rfl rfl rfl rfl rfl ?_
  refine WpOpsG.nil ?_
  change WpG _ _ _ _ _
  refine WpG.seqJ ([(1, .v (.int .i64 a)), (2, .v (.int .i64 b)), (4, .fsl 1 ((m.take 8).map encBs)), (10, .v (.bool false)), (11, .bptr 12 0), (12, .bptr 13 0)]) ([(12, .box [.fsl 11 (P.map encP), .fsl 6 (C.map encC), .fsl 1 (tabs.map encTb)]), (13, .box [.fsl 11 ((Q.take 8).map encP), .fsl 6 ((D.take 20).map encC), .fsl 1 ts])]) ⟨rfl, rfl⟩ ?_ ?_
  · change WpG _ _ _ _ _
    refine WpG.seq ?_
    refine WpG.reg ?_
    refine G.mv rfl ?_
    refine G.lenM rfl ?_
    refine G.bin rfl rfl rfl ?_
    refine WpOpsG.nil ?_
    change WpG _ _ _ _ _
    refine WpG.cond rfl (fun hq1 => ?_) (fun hq1 => ?_)
    · (try simp only [zN] at hq1)
      refine WpG.reg ?_
      refine G.mv rfl ?_
      refine G.slF rfl (bndG_some rfl (by (simp only [List.length_map, List.length_append, List.length_cons, List.length_nil, List.length_replicate, List.length_take, List.length_drop, List.length_set]; omega))) rfl ?_
      refine G.mv rfl ?_
      refine WpOpsG.nil ?_
      refine ⟨⟨rfl, rfl, ?_, rfl, rfl, rfl, trivial⟩, ⟨rfl, rfl, trivial⟩, rfl⟩
      first
        | (rw [List.map_take (l := m)]; rfl)
        | (rw [List.take_of_length_le (show m.length ≤ 8 by omega)]; rfl)
    · (try simp only [zN] at hq1)
      refine WpG.skip ?_
      refine ⟨⟨rfl, rfl, ?_, rfl, rfl, rfl, trivial⟩, ⟨rfl, rfl, trivial⟩, rfl⟩
      first
        | (rw [List.map_take (l := m)]; rfl)
        | (rw [List.take_of_length_le (show m.length ≤ 8 by omega)]; rfl)
  have hMl : (m.take 8).length ≤ 8 := by rw [List.length_take]; omega
  have hMr : ∀ r ∈ m.take 8, r.length ≤ 2 ^ 47 := fun r hr => hm2 r (List.mem_of_mem_take hr)
  generalize m.take 8 = M at hMl hMr ⊢
  change WpG _ _ _ _ _
  refine WpG.seq ?_
  refine WpG.reg ?_
  refine G.mv rfl ?_
  refine G.lenM rfl ?_
  refine G.mkslice (g := 30) rfl rfl (by omega) (by omega) (by omega) (by omega) rfl rfl rfl rfl ?_
  rw [Int.toNat_natCast]
  refine WpOpsG.toMat 30 1 (n := M.length) rfl ?_
  rw [← kR_0 (f := toF M)]
  refine G.mv rfl ?_
  refine WpOpsG.nil ?_
  change WpG _ _ _ _ _
  refine WpG.seq ?_
  refine WpG.seq ?_
  refine WpG.reg ?_
  refine G.mv rfl ?_
  refine G.lenMt rfl rfl ?_
  rw [kR_len (Nat.zero_le _)]
  refine G.mv rfl ?_
  refine WpOpsG.nil ?_
  change WpG _ _ _ _ _
  refine WpG.block ?_
  refine WpG.loop (S := Nat) (fun i => [(1, .v (.int .i64 a)), (2, .v (.int .i64 b)), (4, .fsl 1 (M.map encBs)), (10, .v (.bool false)), (11, .bptr 12 0), (12, .bptr 13 0), (13, .msl 30), (30, .v (.int .i64 (M.length : Int))), (31, .v (.int .i64 ((i : Nat) : Int)))]) (fun i => [(30, .mat 1 (kR i M.length (toF M))), (12, .box [.fsl 11 (P.map encP), .fsl 6 (C.map encC), .fsl 1 (tabs.map encTb)]), (13, .box [.fsl 11 ((Q.take 8).map encP), .fsl 6 ((D.take 20).map encC), .fsl 1 ts])]) (fun i => i ≤ M.length) (fun i => M.length - i) (fun s => ⟨rfl, rfl⟩) ?_ 0 ?_ (by repeat (first | exact trivial | refine ⟨rfl, ?_⟩)) (by repeat (first | exact trivial | refine ⟨rfl, ?_⟩)) rfl
  · intro i hI
    refine WpG.seq ?_
    refine WpG.reg ?_
    refine G.bin rfl rfl rfl ?_
    refine WpOpsG.nil ?_
    change WpG _ _ _ _ _
    refine WpG.seq ?_
    refine WpG.cond rfl (fun hq2 => ?_) (fun hq2 => ?_)
    · (try simp only [zN] at hq2)
      refine WpG.skip ?_
      change WpG _ _ _ _ _
      refine WpG.seq ?_
      refine WpG.block ?_
      refine WpG.seq ?_
      refine WpG.reg ?_
      refine G.mv rfl ?_
      refine G.mv rfl ?_
      refine WpOpsG.nil ?_
      change WpG _ _ _ _ _
      refine WpG.seq ?_
      refine WpG.reg ?_
      refine G.mv rfl ?_
      refine G.mv rfl ?_
      refine G.mv rfl ?_
      refine G.lenM rfl ?_
      refine G.mkslice (g := 31) rfl rfl (by omega) (by omega) (by omega) (by omega) rfl rfl rfl rfl ?_
      rw [Int.toNat_natCast]
      change WpOpsG _ _ _ ((31, .arr .yes 1 (List.replicate M.length [GV.v (.bool false)])) :: _) _
      refine G.iaddrMt rfl rfl rfl (by omega) (by rw [kR_len (by omega)]; omega) ?_
      rw [Int.toNat_natCast]
      refine G.storeMt (g := 30) (g' := 31) rfl rfl rfl rfl (by rw [kR_len (by omega)]; omega) ?_
      rw [kR_set (by omega)]
      refine WpOpsG.nil ?_
      change WpG _ _ _ _ _
      refine WpG.reg ?_
      refine G.mv rfl ?_
      refine G.mv rfl ?_
      refine G.iaddrMt rfl rfl rfl (by omega) (by rw [← kR_set (by omega), List.length_set, kR_len (by omega)]; omega) ?_
      rw [Int.toNat_natCast]
      refine G.load1Mt rfl rfl kR_at ?_
      refine G.mv rfl ?_
      refine G.mv rfl ?_
      refine G.iaddrM rfl rfl (by omega) (gd17 [] (by omega)) ?_
      rw [Int.toNat_natCast]
      refine G.load1F rfl rfl ?_
      refine G.cpyR rfl rfl rfl kR_at ?_
      rw [List.length_replicate, List.length_map, kR_step copy_row]
      refine WpOpsG.nil ?_
      change WpG _ _ _ _ _
      refine WpG.reg ?_
      refine G.addI rfl rfl (by omega) ?_
      refine G.mv rfl ?_
      refine WpOpsG.nil ?_
      exact ⟨i + 1, by omega, by omega, ⟨rfl, rfl, rfl, rfl, rfl, rfl, rfl, rfl, rfl, trivial⟩, ⟨rfl, rfl, rfl, trivial⟩, rfl⟩
    · (try simp only [zN] at hq2)
      refine WpG.exit ?_
      change WpG _ _ _ _ _
      refine WpG.seq ?_
      obtain rfl : i = M.length := by omega
      rw [kR_n]
      refine WpG.freezeMt 30 rfl matF_enc ?_
      change WpG _ _ _ _ _
      refine WpG.reg ?_
      refine G.loadNB rfl rfl rfl ?_
      refine G.mv rfl ?_
      refine G.mv rfl ?_
      refine G.call0 rfl rfl (same7_ok P C (tabs.map encTb) (by omega) (by omega) a b) ?_
      rintro _ _ ⟨rfl, rfl⟩
      refine ⟨rfl, ?_⟩
      change WpOpsG _ _ ((53, _) :: _) _ _
      refine G.mv rfl ?_
      refine WpOpsG.known 54 true rfl rfl ?_
      refine G.loadNB rfl rfl rfl ?_
      refine G.mv rfl ?_
      refine G.andK rfl rfl ?_
      obtain ⟨p, ep, hp⟩ := and_rng1 a 7 (by decide)
      rw [show andI .i64 a 7 = (p : Int) from ep]
      refine G.subI rfl rfl (by omega) ?_
      refine G.mv rfl ?_
      refine G.andK rfl rfl ?_
      obtain ⟨q, eq, hq⟩ := and_rng1 b 7 (by decide)
      rw [show andI .i64 b 7 = (q : Int) from eq]
      refine G.subI rfl rfl (by omega) ?_
      refine G.call0 rfl rfl (same7_ok P C (tabs.map encTb) (by omega) (by omega) ((p : Int) - 1) ((q : Int) - 1)) ?_
      rintro _ _ ⟨rfl, rfl⟩
      refine ⟨rfl, ?_⟩
      change WpOpsG _ _ ((62, _) :: _) _ _
      refine G.pickT rfl rfl ?_
      refine G.mv rfl ?_
      refine WpOpsG.known 64 true rfl rfl ?_
      refine G.loadNB rfl rfl rfl ?_
      refine G.mv rfl ?_
      refine G.mv rfl ?_
      refine G.call0 rfl rfl (same7_ok (Q.take 8) (D.take 20) ts (by rw [List.length_take]; omega) (by rw [List.length_take]; omega) a b) ?_
      rintro _ _ ⟨rfl, rfl⟩
      refine ⟨rfl, ?_⟩
      change WpOpsG _ _ ((68, _) :: _) _ _
      refine G.pickT rfl rfl ?_
      refine G.mv rfl ?_
      refine WpOpsG.known 70 true rfl rfl ?_
      refine G.loadNB rfl rfl rfl ?_
      refine G.mv rfl ?_
      refine G.andK rfl rfl ?_
      obtain ⟨p2, ep2, hp2⟩ := and_rng1 a 7 (by decide)
      rw [show andI .i64 a 7 = (p2 : Int) from ep2]
      refine G.mv rfl ?_
      refine G.andK rfl rfl ?_
      obtain ⟨q2, eq2, hq2⟩ := and_rng1 b 7 (by decide)
      rw [show andI .i64 b 7 = (q2 : Int) from eq2]
      refine G.call0 rfl rfl (same7_ok (Q.take 8) (D.take 20) ts (by rw [List.length_take]; omega) (by rw [List.length_take]; omega) (p2 : Int) (q2 : Int)) ?_
      rintro _ _ ⟨rfl, rfl⟩
      refine ⟨rfl, ?_⟩
      change WpOpsG _ _ ((76, _) :: _) _ _
      refine G.pickT rfl rfl ?_
      refine G.mv rfl ?_
      refine WpOpsG.known 78 true rfl rfl ?_
      refine G.mv rfl ?_
      refine G.call0 rfl rfl (gclo_ok M (by omega) hMr) ?_
      rintro _ _ ⟨rfl, rfl⟩
      refine ⟨rfl, ?_⟩
      change WpOpsG _ _ ((80, _) :: _) _ _
      refine G.mv rfl ?_
      refine G.call0 rfl rfl (rclo_ok M (by omega) hMr) ?_
      rintro _ _ ⟨rfl, rfl⟩
      refine ⟨rfl, ?_⟩
      change WpOpsG _ _ ((82, _) :: _) _ _
      refine G.call0 rfl rfl (matrix_ok (cloV M) (cloV M) (Nat.le_trans cloV_len.1 (by omega)) (Nat.le_trans cloV_len.1 (by omega)) (fun r hr => Nat.le_trans (cloV_len.2 r hr) (by omega)) (fun r hr => Nat.le_trans (cloV_len.2 r hr) (by omega))) ?_
      rintro _ _ ⟨rfl, rfl⟩
      refine ⟨rfl, ?_⟩
      change WpOpsG _ _ ((83, _) :: _) _ _
      rw [decide_eq_true rfl]
      refine G.pickT rfl rfl ?_
      refine G.mv rfl ?_
      refine WpOpsG.known 85 true rfl rfl ?_
      refine G.mv rfl ?_
      refine G.call0 rfl rfl (gclo_ok (matF M.length (toF M)) (by rw [matF_len]; omega) (fun r hr => by rw [matF_rows r hr]; omega)) ?_
      rintro _ _ ⟨rfl, rfl⟩
      refine ⟨rfl, ?_⟩
      change WpOpsG _ _ ((87, _) :: _) _ _
      rw [clo_mat]
      refine G.mv rfl ?_
      refine G.call0 rfl rfl (rclo_ok (matF M.length (toF M)) (by rw [matF_len]; omega) (fun r hr => by rw [matF_rows r hr]; omega)) ?_
      rintro _ _ ⟨rfl, rfl⟩
      refine ⟨rfl, ?_⟩
      change WpOpsG _ _ ((89, _) :: _) _ _
      rw [clo_mat]
      refine G.call0 rfl rfl (matrix_ok (matF M.length (clo (toF M) M.length)) (matF M.length (clo (toF M) M.length)) (by rw [matF_len]; omega) (by rw [matF_len]; omega) (fun r hr => by rw [matF_rows r hr]; omega) (fun r hr => by rw [matF_rows r hr]; omega)) ?_
      rintro _ _ ⟨rfl, rfl⟩
      refine ⟨rfl, ?_⟩
      change WpOpsG _ _ ((90, _) :: _) _ _
      rw [decide_eq_true rfl]
      refine G.pickT rfl rfl ?_
      refine G.mv rfl ?_
      refine WpOpsG.known 92 true rfl rfl ?_
      refine G.call0 rfl rfl (known7_ok) ?_
      rintro _ _ ⟨rfl, rfl⟩
      refine ⟨rfl, ?_⟩
      change WpOpsG _ _ ((93, _) :: _) _ _
      refine G.pickT rfl rfl ?_
      refine G.mv rfl ?_
      refine WpOpsG.nil ?_
      change WpG _ _ _ _ _
      refine WpG.ret ?_
      refine ⟨_, [], rfl, (hasP_le (by repeat (first | exact trivial | refine ⟨rfl, ?_⟩))), rfl, rfl, rfl, ?_⟩
      exact ⟨rfl, rfl⟩
  · exact Nat.zero_le _
end Go.AM.L7
