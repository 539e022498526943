/- Contracts of the functions that the statement reaches. No condition. -/
import Derived.Test.YtomglcfneeelgaaC7e
set_option linter.all false
set_option maxRecDepth 10000
namespace Go.AM.L7
open Go.AM.PL
theorem graphClosed_ok (m : List (List Bool)) (hm : m.length ≤ 2 ^ 50) (hm2 : ∀ r ∈ m, r.length ≤ 2 ^ 50) : WpCallG A 7 [.fsl 1 (m.map encBs)] [] (fun v H => v = .v (.bool true) ∧ H = []) := by
  refine WpCallG.intro g7 rfl rfl ?_
  unfold af7
  change WpG _ _ _ _ _
  refine WpG.seq ?_
  refine WpG.reg ?_
  refine G.mv rfl ?_
  refine WpOpsG.nil ?_
  change WpG _ _ _ _ _
  refine WpG.seqJ ([(0, .fsl 1 ((m.take 8).map encBs)), (2, .v (.bool false))]) ([]) ⟨rfl, rfl⟩ ?_ ?_
  · change WpG _ _ _ _ _
    refine WpG.seq ?_
    refine WpG.reg ?_
    refine G.mv rfl ?_
    refine G.lenM rfl ?_
    refine G.bin rfl rfl rfl ?_
    refine WpOpsG.nil ?_
    change WpG _ _ _ _ _
    refine WpG.cond rfl (fun hq1 => ?_) (fun hq1 => ?_)
    · (try simp only [zN] at hq1)
      refine WpG.reg ?_
      refine G.mv rfl ?_
      refine G.slF rfl (bndG_some rfl (by (simp only [List.length_map, List.length_append, List.length_cons, List.length_nil, List.length_replicate, List.length_take, List.length_drop, List.length_set]; omega))) rfl ?_
      refine G.mv rfl ?_
      refine WpOpsG.nil ?_
      refine ⟨⟨?_, rfl, trivial⟩, trivial, rfl⟩
      first
        | (rw [List.map_take]; rfl)
        | (rw [List.take_of_length_le (by omega)]; rfl)
    · (try simp only [zN] at hq1)
      refine WpG.skip ?_
      refine ⟨⟨?_, rfl, trivial⟩, trivial, rfl⟩
      first
        | (rw [List.map_take]; rfl)
        | (rw [List.take_of_length_le (by omega)]; rfl)
  have hMl : (m.take 8).length ≤ 8 := by rw [List.length_take]; omega
  generalize m.take 8 = M at hMl ⊢
  change WpG _ _ _ _ _
  refine WpG.seq ?_
  refine WpG.reg ?_
  refine G.mv rfl ?_
  refine G.lenM rfl ?_
  refine G.mkslice (g := 30) rfl rfl (by omega) (by omega) (by omega) (by omega) rfl rfl rfl rfl ?_
  rw [Int.toNat_natCast]
  refine WpOpsG.toMat 30 1 (n := M.length) rfl ?_
  rw [← kR_0 (f := toF M)]
  refine G.mv rfl ?_
  refine WpOpsG.nil ?_
  change WpG _ _ _ _ _
  refine WpG.seq ?_
  refine WpG.seq ?_
  refine WpG.reg ?_
  refine G.mv rfl ?_
  refine G.lenMt rfl rfl ?_
  rw [kR_len (Nat.zero_le _)]
  refine G.mv rfl ?_
  refine WpOpsG.nil ?_
  change WpG _ _ _ _ _
  refine WpG.block ?_
  refine WpG.loop (S := Nat) (fun i => [(0, .fsl 1 (M.map encBs)), (2, .v (.bool false)), (3, .msl 30), (18, .v (.int .i64 (M.length : Int))), (19, .v (.int .i64 ((i : Nat) : Int)))]) (fun i => [(30, .mat 1 (kR i M.length (toF M)))]) (fun i => i ≤ M.length) (fun i => M.length - i) (fun s => ⟨rfl, rfl⟩) ?_ 0 ?_ (by repeat (first | exact trivial | refine ⟨rfl, ?_⟩)) (by repeat (first | exact trivial | refine ⟨rfl, ?_⟩)) rfl
  · intro i hI
    refine WpG.seq ?_
    refine WpG.reg ?_
    refine G.bin rfl rfl rfl ?_
    refine WpOpsG.nil ?_
    change WpG _ _ _ _ _
    refine WpG.seq ?_
    refine WpG.cond rfl (fun hq2 => ?_) (fun hq2 => ?_)
    · (try simp only [zN] at hq2)
      refine WpG.skip ?_
      change WpG _ _ _ _ _
      refine WpG.seq ?_
      refine WpG.block ?_
      refine WpG.seq ?_
      refine WpG.reg ?_
      refine G.mv rfl ?_
      refine G.mv rfl ?_
      refine WpOpsG.nil ?_
      change WpG _ _ _ _ _
      refine WpG.seq ?_
      refine WpG.reg ?_
      refine G.mv rfl ?_
      refine G.mv rfl ?_
      refine G.mv rfl ?_
      refine G.lenM rfl ?_
      refine G.mkslice (g := 31) rfl rfl (by omega) (by omega) (by omega) (by omega) rfl rfl rfl rfl ?_
      rw [Int.toNat_natCast]
      change WpOpsG _ _ _ ((31, .arr .yes 1 (List.replicate M.length [GV.v (.bool false)])) :: _) _
      refine G.iaddrMt rfl rfl rfl (by omega) (by rw [kR_len (by omega)]; omega) ?_
      rw [Int.toNat_natCast]
      refine G.storeMt (g := 30) (g' := 31) rfl rfl rfl rfl (by rw [kR_len (by omega)]; omega) ?_
      rw [kR_set (by omega)]
      refine WpOpsG.nil ?_
      change WpG _ _ _ _ _
      refine WpG.reg ?_
      refine G.mv rfl ?_
      refine G.mv rfl ?_
      refine G.iaddrMt rfl rfl rfl (by omega) (by rw [← kR_set (by omega), List.length_set, kR_len (by omega)]; omega) ?_
      rw [Int.toNat_natCast]
      refine G.load1Mt rfl rfl kR_at ?_
      refine G.mv rfl ?_
      refine G.mv rfl ?_
      refine G.iaddrM rfl rfl (by omega) (gd17 [] (by omega)) ?_
      rw [Int.toNat_natCast]
      refine G.load1F rfl rfl ?_
      refine G.cpyR rfl rfl rfl kR_at ?_
      rw [List.length_replicate, List.length_map, kR_step copy_row]
      refine WpOpsG.nil ?_
      change WpG _ _ _ _ _
      refine WpG.reg ?_
      refine G.addI rfl rfl (by omega) ?_
      refine G.mv rfl ?_
      refine WpOpsG.nil ?_
      exact ⟨i + 1, by omega, by omega, ⟨rfl, rfl, rfl, rfl, rfl, trivial⟩, ⟨rfl, trivial⟩, rfl⟩
    · (try simp only [zN] at hq2)
      refine WpG.exit ?_
      change WpG _ _ _ _ _
      refine WpG.seq ?_
      obtain rfl : i = M.length := by omega
      rw [kR_n]
      refine WpG.freezeMt 30 rfl matF_enc ?_
      change WpG _ _ _ _ _
      refine WpG.reg ?_
      refine G.mv rfl ?_
      refine G.call0 rfl rfl (gclo_ok (matF M.length (toF M)) (by rw [matF_len]; omega) (fun r hr => by rw [matF_rows r hr]; omega)) ?_
      rintro _ _ ⟨rfl, rfl⟩
      refine ⟨rfl, ?_⟩
      change WpOpsG _ _ ((39, _) :: _) _ _
      rw [clo_mat]
      refine G.mv rfl ?_
      refine WpOpsG.nil ?_
      change WpG _ _ _ _ _
      refine WpG.seq ?_
      refine WpG.reg ?_
      refine G.mv rfl ?_
      refine G.call0 rfl rfl (gclo_ok (matF M.length (clo (toF M) M.length)) (by rw [matF_len]; omega) (fun r hr => by rw [matF_rows r hr]; omega)) ?_
      rintro _ _ ⟨rfl, rfl⟩
      refine ⟨rfl, ?_⟩
      change WpOpsG _ _ ((41, _) :: _) _ _
      rw [clo_clo]
      refine G.mv rfl ?_
      refine WpOpsG.nil ?_
      change WpG _ _ _ _ _
      refine WpG.seq ?_
      refine WpG.seq ?_
      refine WpG.reg ?_
      refine G.mv rfl ?_
      refine G.lenM rfl ?_
      rw [matF_len]
      refine G.mv rfl ?_
      refine G.lenM rfl ?_
      rw [matF_len]
      refine G.bin rfl rfl rfl ?_
      rw [show ((M.length : Int) != (M.length : Int)) = false from bne_self_eq_false _]
      refine G.mv rfl ?_
      refine WpOpsG.known 47 false rfl rfl ?_
      refine G.mv rfl ?_
      refine G.mv rfl ?_
      refine G.call0 rfl rfl (matrix_ok (matF M.length (clo (toF M) M.length)) (matF M.length (clo (toF M) M.length)) (by rw [matF_len]; omega) (by rw [matF_len]; omega) (fun r hr => by rw [matF_rows r hr]; omega) (fun r hr => by rw [matF_rows r hr]; omega)) ?_
      rintro _ _ ⟨rfl, rfl⟩
      refine ⟨rfl, ?_⟩
      change WpOpsG _ _ ((50, _) :: _) _ _
      rw [decide_eq_true rfl]
      refine G.un rfl rfl ?_
      refine G.pickF rfl rfl ?_
      refine WpOpsG.nil ?_
      change WpG _ _ _ _ _
      refine WpG.cond rfl (fun hq3 => absurd hq3 (by decide)) (fun hq3 => ?_)
      refine WpG.skip ?_
      change WpG _ _ _ _ _
      refine WpG.seq ?_
      refine WpG.seq ?_
      refine WpG.reg ?_
      refine G.mv rfl ?_
      refine G.lenM rfl ?_
      rw [matF_len]
      refine G.mv rfl ?_
      refine WpOpsG.nil ?_
      change WpG _ _ _ _ _
      refine WpG.block ?_
      refine WpG.loop (S := Nat) (fun i => [(2, .v (.bool false)), (3, .fsl 1 ((matF M.length (toF M)).map encBs)), (5, .fsl 1 ((matF M.length (clo (toF M) M.length)).map encBs)), (54, .v (.int .i64 (M.length : Int))), (55, .v (.int .i64 ((i : Nat) : Int)))]) (fun _ => []) (fun i => i ≤ M.length) (fun i => M.length - i) (fun s => ⟨rfl, rfl⟩) ?_ 0 ?_ (by repeat (first | exact trivial | refine ⟨rfl, ?_⟩)) (by repeat (first | exact trivial | refine ⟨rfl, ?_⟩)) rfl
      · intro i hI
        refine WpG.seq ?_
        refine WpG.reg ?_
        refine G.bin rfl rfl rfl ?_
        refine WpOpsG.nil ?_
        change WpG _ _ _ _ _
        refine WpG.seq ?_
        refine WpG.cond rfl (fun hq4 => ?_) (fun hq4 => ?_)
        · (try simp only [zN] at hq4)
          refine WpG.skip ?_
          change WpG _ _ _ _ _
          refine WpG.seq ?_
          refine WpG.block ?_
          refine WpG.seq ?_
          refine WpG.reg ?_
          refine G.mv rfl ?_
          refine G.mv rfl ?_
          refine WpOpsG.nil ?_
          change WpG _ _ _ _ _
          refine WpG.seq ?_
          refine WpG.reg ?_
          refine G.mv rfl ?_
          refine G.lenM rfl ?_
          rw [matF_len]
          refine G.mv rfl ?_
          refine WpOpsG.nil ?_
          change WpG _ _ _ _ _
          refine WpG.block ?_
          refine WpG.loop (S := Nat) (fun k => [(2, .v (.bool false)), (3, .fsl 1 ((matF M.length (toF M)).map encBs)), (5, .fsl 1 ((matF M.length (clo (toF M) M.length)).map encBs)), (7, .v (.int .i64 ((i : Nat) : Int))), (54, .v (.int .i64 (M.length : Int))), (55, .v (.int .i64 ((i : Nat) : Int))), (59, .v (.int .i64 (M.length : Int))), (60, .v (.int .i64 ((k : Nat) : Int)))]) (fun _ => []) (fun k => k ≤ M.length) (fun k => M.length - k) (fun s => ⟨rfl, rfl⟩) ?_ 0 ?_ (by repeat (first | exact trivial | refine ⟨rfl, ?_⟩)) (by repeat (first | exact trivial | refine ⟨rfl, ?_⟩)) rfl
          · intro k hk
            refine WpG.seq ?_
            refine WpG.reg ?_
            refine G.bin rfl rfl rfl ?_
            refine WpOpsG.nil ?_
            change WpG _ _ _ _ _
            refine WpG.seq ?_
            refine WpG.cond rfl (fun hq5 => ?_) (fun hq5 => ?_)
            · (try simp only [zN] at hq5)
              refine WpG.skip ?_
              change WpG _ _ _ _ _
              refine WpG.seq ?_
              refine WpG.block ?_
              refine WpG.seq ?_
              refine WpG.reg ?_
              refine G.mv rfl ?_
              refine G.mv rfl ?_
              refine WpOpsG.nil ?_
              change WpG _ _ _ _ _
              refine WpG.seq ?_
              refine WpG.reg ?_
              refine G.mv rfl ?_
              refine G.mv rfl ?_
              refine G.iaddrM rfl rfl (by omega) (gd17 [] (by rw [matF_len]; omega)) ?_
              try rw [Int.toNat_natCast]
              refine G.load1F rfl rfl ?_
              refine G.lenM rfl ?_
              rw [matF_row (by omega)]
              refine G.mv rfl ?_
              refine G.lenM rfl ?_
              rw [matF_len]
              refine G.bin rfl rfl rfl ?_
              rw [show ((M.length : Int) != (M.length : Int)) = false from bne_self_eq_false _]
              refine G.mv rfl ?_
              refine WpOpsG.known 71 false rfl rfl ?_
              refine G.mv rfl ?_
              refine G.mv rfl ?_
              refine G.iaddrM rfl rfl (by omega) (gd17 [] (by rw [matF_len]; omega)) ?_
              try rw [Int.toNat_natCast]
              refine G.load1F rfl rfl ?_
              refine G.mv rfl ?_
              refine G.iaddrM rfl rfl (by omega) (gd17 false (by rw [matF_row (by omega)]; omega)) ?_
              try rw [Int.toNat_natCast]
              refine G.load1F rfl rfl ?_
              rw [matF_get (by omega) (by omega)]
              refine G.mv rfl ?_
              apply G.andS rfl rfl rfl rfl rfl rfl
              case hB =>
                intro hs6
                (try simp only [zN] at hs6)
                refine G.mv rfl ?_
                refine G.mv rfl ?_
                refine G.iaddrM rfl rfl (by omega) (gd17 [] (by rw [matF_len]; omega)) ?_
                try rw [Int.toNat_natCast]
                refine G.load1F rfl rfl ?_
                refine G.mv rfl ?_
                refine G.iaddrM rfl rfl (by omega) (gd17 false (by rw [matF_row (by omega)]; omega)) ?_
                try rw [Int.toNat_natCast]
                refine G.load1F rfl rfl ?_
                rw [matF_get (by omega) (by omega)]
                refine G.un rfl rfl ?_
                refine WpOpsG.nil ?_
                exact ⟨rfl, (by repeat (first | exact LLe.refl _ | refine LLe.cons rfl ?_)), (by repeat (first | exact HLe.refl _ | refine HLe.cons rfl ?_)), rfl⟩
              refine G.pickF rfl rfl ?_
              refine WpOpsG.nil ?_
              change WpG _ _ _ _ _
              refine WpG.cond rfl (fun hq7 => ?_) (fun hq7 => ?_)
              · (try simp only [zN] at hq7)
                exfalso; rw [clo_up hq7.1 M.length] at hq7; exact absurd hq7.2 (by decide)
              · (try simp only [zN] at hq7)
                refine WpG.skip ?_
                change WpG _ _ _ _ _
                refine WpG.reg ?_
                refine G.addI rfl rfl (by omega) ?_
                refine G.mv rfl ?_
                refine WpOpsG.nil ?_
                exact ⟨k + 1, by omega, by omega, ⟨rfl, rfl, rfl, rfl, rfl, rfl, rfl, rfl, trivial⟩, trivial, rfl⟩
            · (try simp only [zN] at hq5)
              refine WpG.exit ?_
              change WpG _ _ _ _ _
              refine WpG.reg ?_
              refine G.addI rfl rfl (by omega) ?_
              refine G.mv rfl ?_
              refine WpOpsG.nil ?_
              exact ⟨i + 1, by omega, by omega, ⟨rfl, rfl, rfl, rfl, rfl, trivial⟩, trivial, rfl⟩
          · exact Nat.zero_le _
        · (try simp only [zN] at hq4)
          refine WpG.exit ?_
          change WpG _ _ _ _ _
          refine WpG.seq ?_
          refine WpG.reg ?_
          refine G.call0 rfl rfl (known7_ok) ?_
          rintro _ _ ⟨rfl, rfl⟩
          refine ⟨rfl, ?_⟩
          change WpOpsG _ _ ((92, _) :: _) _ _
          refine G.mv rfl ?_
          refine WpOpsG.nil ?_
          change WpG _ _ _ _ _
          refine WpG.ret ?_
          refine ⟨_, [], rfl, (hasP_le (by repeat (first | exact trivial | refine ⟨rfl, ?_⟩))), rfl, rfl, rfl, ?_⟩
          exact ⟨rfl, rfl⟩
      · exact Nat.zero_le _
  · exact Nat.zero_le _
end Go.AM.L7
