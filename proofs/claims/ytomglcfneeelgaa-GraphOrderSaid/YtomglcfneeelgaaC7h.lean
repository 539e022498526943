/- Contracts of the functions that the statement reaches. No condition. -/
import Derived.Test.YtomglcfneeelgaaC7g
set_option linter.all false
set_option maxRecDepth 10000
namespace Go.AM.L7
open Go.AM.PL
set_option maxHeartbeats 2000000 in
theorem graphOrder_ok (t : List Int) (ht : t.length ≤ 2 ^ 50) (hi : ∀ x ∈ t, i64 x) : WpCallG A 5 [.fsl 1 (t.map encK)] [] (fun v H => v = .v (.bool true) ∧ H = []) := by
  refine WpCallG.intro g5 rfl rfl ?_
  unfold af5
  change WpG _ _ _ _ _
  refine WpG.seq ?_
  refine WpG.reg ?_
  refine G.mv rfl ?_
  refine WpOpsG.nil ?_
  change WpG _ _ _ _ _
  refine WpG.seq ?_
  refine WpG.reg ?_
  refine G.mv rfl ?_
  refine G.build rfl ?_
  refine G.box (g := 11) rfl rfl rfl ?_
  change WpOpsG _ _ _ ((11, tbox t 0) :: _) _
  refine G.call (P := [(11, tbox t 0)]) rfl (by repeat (first | exact trivial | refine ⟨rfl, ?_⟩)) rfl rfl ((config_okP t 0 ht hi (Nat.zero_le _)).ren [(0, 11)]) ?_
  rintro _ _ ⟨_, _, ⟨P, C, tabs, b0, hcf, hb0, rfl, rfl⟩, rfl, rfl⟩
  change newOk _ _ [(11, tbox t b0)] = true ∧ _
  refine ⟨rfl, ?_⟩
  change WpOpsG _ _ ((17, .agg [.fsl 11 (P.map encP), .fsl 6 (C.map encC), .fsl 1 (tabs.map encTb)]) :: _) ([(11, tbox t b0)] ++ _) _
  obtain ⟨⟨⟨hP1, hP4⟩, hPp⟩, ⟨hC20, hCs⟩, ⟨hT1, hT3⟩, hTs⟩ := hcf
  refine G.box (g := 12) rfl rfl rfl ?_
  refine G.storeB rfl rfl rfl rfl rfl rfl ?_
  refine WpOpsG.nil ?_
  change WpG _ _ _ _ _
  refine WpG.seq ?_
  refine WpG.reg ?_
  refine G.loadNB rfl rfl rfl ?_
  refine G.loadNB rfl rfl rfl ?_
  refine G.ckcall0 rfl rfl rfl (gdep_ok P C (tabs.map encTb) (by omega) (by omega)) ?_
  rintro _ _ ⟨rfl, rfl⟩
  refine ⟨rfl, ?_⟩
  change WpOpsG _ _ ((19, _) :: _) _ _
  refine G.call0 rfl rfl (gsw_ok P C (tabs.map encTb) (by omega) (by omega)) ?_
  rintro _ _ ⟨rfl, rfl⟩
  refine ⟨rfl, ?_⟩
  change WpOpsG _ _ ((21, _) :: _) _ _
  refine G.mv rfl ?_
  refine G.mv rfl ?_
  refine WpOpsG.nil ?_
  change WpG _ _ _ _ _
  refine WpG.seq ?_
  refine WpG.reg ?_
  refine G.mv rfl ?_
  refine G.call0 rfl rfl (gclo_ok (matF P.length (swG P C)) (by rw [matF_len]; omega) (fun r hr => by rw [matF_rows r hr]; omega)) ?_
  rintro _ _ ⟨rfl, rfl⟩
  refine ⟨rfl, ?_⟩
  change WpOpsG _ _ ((23, _) :: _) _ _
  rw [clo_mat]
  refine G.mv rfl ?_
  refine WpOpsG.nil ?_
  change WpG _ _ _ _ _
  refine WpG.seq ?_
  refine WpG.reg ?_
  refine G.faddrB rfl ?_
  refine G.load1B rfl rfl rfl ?_
  refine G.lenM rfl ?_
  refine G.mv rfl ?_
  refine WpOpsG.nil ?_
  change WpG _ _ _ _ _
  refine WpG.seq ?_
  refine WpG.seq ?_
  refine WpG.reg ?_
  refine G.mv rfl ?_
  refine G.lenM rfl ?_
  rw [matF_len]
  refine G.mv rfl ?_
  refine G.bin rfl rfl rfl ?_
  rw [show ((P.length : Int) != (P.length : Int)) = false from bne_self_eq_false _]
  refine G.mv rfl ?_
  refine WpOpsG.known 31 false rfl rfl ?_
  refine G.mv rfl ?_
  refine G.lenM rfl ?_
  rw [matF_len]
  refine G.mv rfl ?_
  refine G.bin rfl rfl rfl ?_
  rw [show ((P.length : Int) != (P.length : Int)) = false from bne_self_eq_false _]
  refine G.pickF rfl rfl ?_
  refine G.mv rfl ?_
  refine WpOpsG.known 37 false rfl rfl ?_
  refine G.mv rfl ?_
  refine G.lenM rfl ?_
  rw [matF_len]
  refine G.mv rfl ?_
  refine G.bin rfl rfl rfl ?_
  rw [show ((P.length : Int) != (P.length : Int)) = false from bne_self_eq_false _]
  refine G.pickF rfl rfl ?_
  refine WpOpsG.nil ?_
  change WpG _ _ _ _ _
  refine WpG.cond rfl (fun hq1 => absurd hq1 (by decide)) (fun hq1 => ?_)
  refine WpG.skip ?_
  change WpG _ _ _ _ _
  refine WpG.seq ?_
  refine WpG.seq ?_
  refine WpG.reg ?_
  refine G.mv rfl ?_
  refine WpOpsG.nil ?_
  change WpG _ _ _ _ _
  refine WpG.block ?_
  refine WpG.loop (S := Nat) (fun a => [(2, .v (.bool false)), (3, .bptr 12 0), (4, .fsl 1 ((matF P.length (depG P C)).map encBs)), (5, .fsl 1 ((matF P.length (swG P C)).map encBs)), (6, .fsl 1 ((matF P.length (clo (swG P C) P.length)).map encBs)), (7, .v (.int .i64 (P.length : Int))), (8, .v (.int .i64 (a : Int)))]) (fun _ => [(12, .box [.fsl 11 (P.map encP), .fsl 6 (C.map encC), .fsl 1 (tabs.map encTb)])]) (fun a => a ≤ P.length) (fun a => P.length - a) (fun s => ⟨rfl, rfl⟩) ?_ 0 ?_ (by repeat (first | exact trivial | refine ⟨rfl, ?_⟩)) (by repeat (first | exact trivial | refine ⟨rfl, ?_⟩)) rfl
  · intro a ha
    refine WpG.seq ?_
    refine WpG.seq ?_
    refine WpG.reg ?_
    refine G.mv rfl ?_
    refine G.mv rfl ?_
    refine G.bin rfl rfl rfl ?_
    refine WpOpsG.nil ?_
    change WpG _ _ _ _ _
    refine WpG.cond rfl (fun hq2 => ?_) (fun hq2 => ?_)
    · (try simp only [zN] at hq2)
      refine WpG.skip ?_
      change WpG _ _ _ _ _
      refine WpG.seq ?_
      refine WpG.block ?_
      refine WpG.seq ?_
      refine WpG.reg ?_
      refine G.mv rfl ?_
      refine G.mv rfl ?_
      refine G.iaddrM rfl rfl (by omega) (gd17 [] (by rw [matF_len]; omega)) ?_
      try rw [Int.toNat_natCast]
      refine G.load1F rfl rfl ?_
      refine G.lenM rfl ?_
      rw [matF_row (by omega)]
      refine G.mv rfl ?_
      refine G.bin rfl rfl rfl ?_
      rw [show ((P.length : Int) != (P.length : Int)) = false from bne_self_eq_false _]
      refine G.mv rfl ?_
      refine WpOpsG.known 55 false rfl rfl ?_
      refine G.mv rfl ?_
      refine G.mv rfl ?_
      refine G.iaddrM rfl rfl (by omega) (gd17 [] (by rw [matF_len]; omega)) ?_
      try rw [Int.toNat_natCast]
      refine G.load1F rfl rfl ?_
      refine G.lenM rfl ?_
      rw [matF_row (by omega)]
      refine G.mv rfl ?_
      refine G.bin rfl rfl rfl ?_
      rw [show ((P.length : Int) != (P.length : Int)) = false from bne_self_eq_false _]
      refine G.pickF rfl rfl ?_
      refine G.mv rfl ?_
      refine WpOpsG.known 64 false rfl rfl ?_
      refine G.mv rfl ?_
      refine G.mv rfl ?_
      refine G.iaddrM rfl rfl (by omega) (gd17 [] (by rw [matF_len]; omega)) ?_
      try rw [Int.toNat_natCast]
      refine G.load1F rfl rfl ?_
      refine G.lenM rfl ?_
      rw [matF_row (by omega)]
      refine G.mv rfl ?_
      refine G.bin rfl rfl rfl ?_
      rw [show ((P.length : Int) != (P.length : Int)) = false from bne_self_eq_false _]
      refine G.pickF rfl rfl ?_
      refine G.mv rfl ?_
      refine WpOpsG.known 73 false rfl rfl ?_
      refine G.mv rfl ?_
      refine G.mv rfl ?_
      refine G.iaddrM rfl rfl (by omega) (gd17 [] (by rw [matF_len]; omega)) ?_
      try rw [Int.toNat_natCast]
      refine G.load1F rfl rfl ?_
      refine G.mv rfl ?_
      refine G.iaddrM rfl rfl (by omega) (gd17 false (by rw [matF_row (by omega)]; omega)) ?_
      try rw [Int.toNat_natCast]
      refine G.load1F rfl rfl ?_
      rw [matF_get (by omega) (by omega)]
      rw [dep_self]
      refine G.un rfl rfl ?_
      refine G.pickF rfl rfl ?_
      refine G.mv rfl ?_
      refine WpOpsG.known 83 false rfl rfl ?_
      refine G.mv rfl ?_
      refine G.mv rfl ?_
      refine G.iaddrM rfl rfl (by omega) (gd17 [] (by rw [matF_len]; omega)) ?_
      try rw [Int.toNat_natCast]
      refine G.load1F rfl rfl ?_
      refine G.mv rfl ?_
      refine G.iaddrM rfl rfl (by omega) (gd17 false (by rw [matF_row (by omega)]; omega)) ?_
      try rw [Int.toNat_natCast]
      refine G.load1F rfl rfl ?_
      rw [matF_get (by omega) (by omega)]
      rw [sw_self]
      refine G.un rfl rfl ?_
      refine G.pickF rfl rfl ?_
      refine WpOpsG.nil ?_
      change WpG _ _ _ _ _
      refine WpG.cond rfl (fun hq3 => absurd hq3 (by decide)) (fun hq3 => ?_)
      refine WpG.skip ?_
      change WpG _ _ _ _ _
      refine WpG.reg ?_
      refine G.mv rfl ?_
      refine G.addI rfl rfl (by omega) ?_
      refine G.mv rfl ?_
      refine WpOpsG.nil ?_
      exact ⟨a + 1, by omega, by omega, ⟨rfl, rfl, rfl, rfl, rfl, rfl, rfl, trivial⟩, ⟨rfl, trivial⟩, rfl⟩
    · (try simp only [zN] at hq2)
      refine WpG.exit ?_
      change WpG _ _ _ _ _
      refine WpG.seq ?_
      refine WpG.seq ?_
      refine WpG.reg ?_
      refine G.mv rfl ?_
      refine WpOpsG.nil ?_
      change WpG _ _ _ _ _
      refine WpG.block ?_
      refine WpG.loop (S := Nat) (fun a => [(2, .v (.bool false)), (3, .bptr 12 0), (4, .fsl 1 ((matF P.length (depG P C)).map encBs)), (5, .fsl 1 ((matF P.length (swG P C)).map encBs)), (6, .fsl 1 ((matF P.length (clo (swG P C) P.length)).map encBs)), (7, .v (.int .i64 (P.length : Int))), (9, .v (.int .i64 (a : Int)))]) (fun _ => [(12, .box [.fsl 11 (P.map encP), .fsl 6 (C.map encC), .fsl 1 (tabs.map encTb)])]) (fun a => a ≤ P.length) (fun a => P.length - a) (fun s => ⟨rfl, rfl⟩) ?_ 0 ?_ (by repeat (first | exact trivial | refine ⟨rfl, ?_⟩)) (by repeat (first | exact trivial | refine ⟨rfl, ?_⟩)) rfl
      · intro a ha
        refine WpG.seq ?_
        refine WpG.seq ?_
        refine WpG.reg ?_
        refine G.mv rfl ?_
        refine G.mv rfl ?_
        refine G.bin rfl rfl rfl ?_
        refine WpOpsG.nil ?_
        change WpG _ _ _ _ _
        refine WpG.cond rfl (fun hq4 => ?_) (fun hq4 => ?_)
        · (try simp only [zN] at hq4)
          refine WpG.skip ?_
          change WpG _ _ _ _ _
          refine WpG.seq ?_
          refine WpG.block ?_
          refine WpG.seq ?_
          refine WpG.reg ?_
          refine G.mv rfl ?_
          refine WpOpsG.nil ?_
          change WpG _ _ _ _ _
          refine WpG.block ?_
          refine WpG.loop (S := Nat) (fun b => [(2, .v (.bool false)), (3, .bptr 12 0), (4, .fsl 1 ((matF P.length (depG P C)).map encBs)), (5, .fsl 1 ((matF P.length (swG P C)).map encBs)), (6, .fsl 1 ((matF P.length (clo (swG P C) P.length)).map encBs)), (7, .v (.int .i64 (P.length : Int))), (9, .v (.int .i64 (a : Int))), (10, .v (.int .i64 (b : Int)))]) (fun _ => [(12, .box [.fsl 11 (P.map encP), .fsl 6 (C.map encC), .fsl 1 (tabs.map encTb)])]) (fun b => b ≤ P.length) (fun b => P.length - b) (fun s => ⟨rfl, rfl⟩) ?_ 0 ?_ (by repeat (first | exact trivial | refine ⟨rfl, ?_⟩)) (by repeat (first | exact trivial | refine ⟨rfl, ?_⟩)) rfl
          · intro b hb
            refine WpG.seq ?_
            refine WpG.seq ?_
            refine WpG.reg ?_
            refine G.mv rfl ?_
            refine G.mv rfl ?_
            refine G.bin rfl rfl rfl ?_
            refine WpOpsG.nil ?_
            change WpG _ _ _ _ _
            refine WpG.cond rfl (fun hq5 => ?_) (fun hq5 => ?_)
            · (try simp only [zN] at hq5)
              refine WpG.skip ?_
              change WpG _ _ _ _ _
              refine WpG.seq ?_
              refine WpG.block ?_
              refine WpG.seq ?_
              refine WpG.seq ?_
              refine WpG.reg ?_
              refine G.mv rfl ?_
              refine G.mv rfl ?_
              refine G.iaddrM rfl rfl (by omega) (gd17 [] (by rw [matF_len]; omega)) ?_
              try rw [Int.toNat_natCast]
              refine G.load1F rfl rfl ?_
              refine G.mv rfl ?_
              refine G.iaddrM rfl rfl (by omega) (gd17 false (by rw [matF_row (by omega)]; omega)) ?_
              try rw [Int.toNat_natCast]
              refine G.load1F rfl rfl ?_
              rw [matF_get (by omega) (by omega)]
              refine G.mv rfl ?_
              refine G.mv rfl ?_
              refine G.iaddrM rfl rfl (by omega) (gd17 [] (by rw [matF_len]; omega)) ?_
              try rw [Int.toNat_natCast]
              refine G.load1F rfl rfl ?_
              refine G.mv rfl ?_
              refine G.iaddrM rfl rfl (by omega) (gd17 false (by rw [matF_row (by omega)]; omega)) ?_
              try rw [Int.toNat_natCast]
              refine G.load1F rfl rfl ?_
              rw [matF_get (by omega) (by omega)]
              rw [dep_symm (P := P) (C := C) b a]
              refine G.beq rfl rfl rfl ?_
              rw [beq_self_eq_true]
              refine G.mv rfl ?_
              refine WpOpsG.known 118 false rfl rfl ?_
              refine G.mv rfl ?_
              refine G.mv rfl ?_
              refine G.iaddrM rfl rfl (by omega) (gd17 [] (by rw [matF_len]; omega)) ?_
              try rw [Int.toNat_natCast]
              refine G.load1F rfl rfl ?_
              refine G.mv rfl ?_
              refine G.iaddrM rfl rfl (by omega) (gd17 false (by rw [matF_row (by omega)]; omega)) ?_
              try rw [Int.toNat_natCast]
              refine G.load1F rfl rfl ?_
              rw [matF_get (by omega) (by omega)]
              refine G.mv rfl ?_
              apply G.andS rfl rfl rfl rfl rfl rfl
              case hB =>
                intro hs6
                (try simp only [zN] at hs6)
                refine G.mv rfl ?_
                refine G.mv rfl ?_
                refine G.iaddrM rfl rfl (by omega) (gd17 [] (by rw [matF_len]; omega)) ?_
                try rw [Int.toNat_natCast]
                refine G.load1F rfl rfl ?_
                refine G.mv rfl ?_
                refine G.iaddrM rfl rfl (by omega) (gd17 false (by rw [matF_row (by omega)]; omega)) ?_
                try rw [Int.toNat_natCast]
                refine G.load1F rfl rfl ?_
                rw [matF_get (by omega) (by omega)]
                refine G.un rfl rfl ?_
                refine WpOpsG.nil ?_
                exact ⟨rfl, (by repeat (first | exact LLe.refl _ | refine LLe.cons rfl ?_)), (by repeat (first | exact HLe.refl _ | refine HLe.cons rfl ?_)), rfl⟩
              refine G.pickF rfl rfl ?_
              refine G.mv rfl ?_
              rw [imp_no]
              refine WpOpsG.known 137 false rfl rfl ?_
              refine G.loadNB rfl rfl rfl ?_
              refine G.mv rfl ?_
              refine G.mv rfl ?_
              refine G.mv rfl ?_
              refine G.mv rfl ?_
              refine G.iaddrM rfl rfl (by omega) (gd17 [] (by rw [matF_len]; omega)) ?_
              try rw [Int.toNat_natCast]
              refine G.load1F rfl rfl ?_
              refine G.mv rfl ?_
              refine G.iaddrM rfl rfl (by omega) (gd17 false (by rw [matF_row (by omega)]; omega)) ?_
              try rw [Int.toNat_natCast]
              refine G.load1F rfl rfl ?_
              rw [matF_get (by omega) (by omega)]
              refine G.ckcall0 rfl rfl rfl (gfree_ok P C (tabs.map encTb) (by omega) (by omega) (a : Int) (b : Int)) ?_
              rintro _ _ ⟨rfl, rfl⟩
              refine ⟨rfl, ?_⟩
              change WpOpsG _ _ ((141, _) :: _) _ _
              refine G.beq rfl rfl rfl ?_
              rw [free_no (by omega) (by omega)]
              refine G.pickF rfl rfl ?_
              refine WpOpsG.nil ?_
              change WpG _ _ _ _ _
              refine WpG.cond rfl (fun hq7 => absurd hq7 (by decide)) (fun hq7 => ?_)
              refine WpG.skip ?_
              change WpG _ _ _ _ _
              refine WpG.seq ?_
              refine WpG.reg ?_
              refine G.mv rfl ?_
              refine WpOpsG.nil ?_
              change WpG _ _ _ _ _
              refine WpG.block ?_
              refine WpG.loop (S := Nat) (fun k => [(2, .v (.bool false)), (3, .bptr 12 0), (4, .fsl 1 ((matF P.length (depG P C)).map encBs)), (5, .fsl 1 ((matF P.length (swG P C)).map encBs)), (6, .fsl 1 ((matF P.length (clo (swG P C) P.length)).map encBs)), (7, .v (.int .i64 (P.length : Int))), (9, .v (.int .i64 (a : Int))), (10, .v (.int .i64 (b : Int))), (11, .v (.int .i64 (k : Int)))]) (fun _ => [(12, .box [.fsl 11 (P.map encP), .fsl 6 (C.map encC), .fsl 1 (tabs.map encTb)])]) (fun k => k ≤ P.length) (fun k => P.length - k) (fun s => ⟨rfl, rfl⟩) ?_ 0 ?_ (by repeat (first | exact trivial | refine ⟨rfl, ?_⟩)) (by repeat (first | exact trivial | refine ⟨rfl, ?_⟩)) rfl
              · intro k hk
                refine WpG.seq ?_
                refine WpG.seq ?_
                refine WpG.reg ?_
                refine G.mv rfl ?_
                refine G.mv rfl ?_
                refine G.bin rfl rfl rfl ?_
                refine WpOpsG.nil ?_
                change WpG _ _ _ _ _
                refine WpG.cond rfl (fun hq8 => ?_) (fun hq8 => ?_)
                · (try simp only [zN] at hq8)
                  refine WpG.skip ?_
                  change WpG _ _ _ _ _
                  refine WpG.seq ?_
                  refine WpG.block ?_
                  refine WpG.seq ?_
                  refine WpG.reg ?_
                  refine G.mv rfl ?_
                  refine G.mv rfl ?_
                  refine G.iaddrM rfl rfl (by omega) (gd17 [] (by rw [matF_len]; omega)) ?_
                  try rw [Int.toNat_natCast]
                  refine G.load1F rfl rfl ?_
                  refine G.mv rfl ?_
                  refine G.iaddrM rfl rfl (by omega) (gd17 false (by rw [matF_row (by omega)]; omega)) ?_
                  try rw [Int.toNat_natCast]
                  refine G.load1F rfl rfl ?_
                  rw [matF_get (by omega) (by omega)]
                  refine G.mv rfl ?_
                  apply G.andS rfl rfl rfl rfl rfl rfl
                  case hB =>
                    intro hs9
                    (try simp only [zN] at hs9)
                    refine G.mv rfl ?_
                    refine G.mv rfl ?_
                    refine G.iaddrM rfl rfl (by omega) (gd17 [] (by rw [matF_len]; omega)) ?_
                    try rw [Int.toNat_natCast]
                    refine G.load1F rfl rfl ?_
                    refine G.mv rfl ?_
                    refine G.iaddrM rfl rfl (by omega) (gd17 false (by rw [matF_row (by omega)]; omega)) ?_
                    try rw [Int.toNat_natCast]
                    refine G.load1F rfl rfl ?_
                    rw [matF_get (by omega) (by omega)]
                    refine WpOpsG.nil ?_
                    exact ⟨rfl, (by repeat (first | exact LLe.refl _ | refine LLe.cons rfl ?_)), (by repeat (first | exact HLe.refl _ | refine HLe.cons rfl ?_)), rfl⟩
                  refine G.mv rfl ?_
                  apply G.andS rfl rfl rfl rfl rfl rfl
                  case hB =>
                    intro hs10
                    (try simp only [zN] at hs10)
                    refine G.mv rfl ?_
                    refine G.mv rfl ?_
                    refine G.iaddrM rfl rfl (by omega) (gd17 [] (by rw [matF_len]; omega)) ?_
                    try rw [Int.toNat_natCast]
                    refine G.load1F rfl rfl ?_
                    refine G.mv rfl ?_
                    refine G.iaddrM rfl rfl (by omega) (gd17 false (by rw [matF_row (by omega)]; omega)) ?_
                    try rw [Int.toNat_natCast]
                    refine G.load1F rfl rfl ?_
                    rw [matF_get (by omega) (by omega)]
                    refine G.un rfl rfl ?_
                    refine WpOpsG.nil ?_
                    exact ⟨rfl, (by repeat (first | exact LLe.refl _ | refine LLe.cons rfl ?_)), (by repeat (first | exact HLe.refl _ | refine HLe.cons rfl ?_)), rfl⟩
                  refine WpOpsG.nil ?_
                  change WpG _ _ _ _ _
                  refine WpG.cond rfl (fun hq11 => ?_) (fun hq11 => ?_)
                  · (try simp only [zN] at hq11)
                    exfalso; rw [clo_trans P.length k a b (by omega) hq11.1.1 hq11.1.2] at hq11; exact absurd hq11.2 (by decide)
                  · (try simp only [zN] at hq11)
                    refine WpG.skip ?_
                    change WpG _ _ _ _ _
                    refine WpG.reg ?_
                    refine G.mv rfl ?_
                    refine G.addI rfl rfl (by omega) ?_
                    refine G.mv rfl ?_
                    refine WpOpsG.nil ?_
                    exact ⟨k + 1, by omega, by omega, ⟨rfl, rfl, rfl, rfl, rfl, rfl, rfl, rfl, rfl, trivial⟩, ⟨rfl, trivial⟩, rfl⟩
                · (try simp only [zN] at hq8)
                  refine WpG.exit ?_
                  change WpG _ _ _ _ _
                  refine WpG.reg ?_
                  refine G.mv rfl ?_
                  refine G.addI rfl rfl (by omega) ?_
                  refine G.mv rfl ?_
                  refine WpOpsG.nil ?_
                  exact ⟨b + 1, by omega, by omega, ⟨rfl, rfl, rfl, rfl, rfl, rfl, rfl, rfl, trivial⟩, ⟨rfl, trivial⟩, rfl⟩
              · exact Nat.zero_le _
            · (try simp only [zN] at hq5)
              refine WpG.exit ?_
              change WpG _ _ _ _ _
              refine WpG.reg ?_
              refine G.mv rfl ?_
              refine G.addI rfl rfl (by omega) ?_
              refine G.mv rfl ?_
              refine WpOpsG.nil ?_
              exact ⟨a + 1, by omega, by omega, ⟨rfl, rfl, rfl, rfl, rfl, rfl, rfl, trivial⟩, ⟨rfl, trivial⟩, rfl⟩
          · exact Nat.zero_le _
        · (try simp only [zN] at hq4)
          refine WpG.exit ?_
          change WpG _ _ _ _ _
          refine WpG.seq ?_
          refine WpG.seq ?_
          refine WpG.reg ?_
          refine G.faddrB rfl ?_
          refine G.load1B rfl rfl rfl ?_
          refine G.lenM rfl ?_
          refine G.mv rfl ?_
          refine WpOpsG.nil ?_
          change WpG _ _ _ _ _
          refine WpG.block ?_
          refine WpG.loop (S := Nat) (fun i => [(2, .v (.bool false)), (3, .bptr 12 0), (4, .fsl 1 ((matF P.length (depG P C)).map encBs)), (5, .fsl 1 ((matF P.length (swG P C)).map encBs)), (6, .fsl 1 ((matF P.length (clo (swG P C) P.length)).map encBs)), (7, .v (.int .i64 (P.length : Int))), (183, .fsl 6 (C.map encC)), (184, .v (.int .i64 (C.length : Int))), (185, .v (.int .i64 (i : Int)))]) (fun _ => [(12, .box [.fsl 11 (P.map encP), .fsl 6 (C.map encC), .fsl 1 (tabs.map encTb)])]) (fun i => i ≤ C.length) (fun i => C.length - i) (fun s => ⟨rfl, rfl⟩) ?_ 0 ?_ (by repeat (first | exact trivial | refine ⟨rfl, ?_⟩)) (by repeat (first | exact trivial | refine ⟨rfl, ?_⟩)) rfl
          · intro i hI
            refine WpG.seq ?_
            refine WpG.reg ?_
            refine G.bin rfl rfl rfl ?_
            refine WpOpsG.nil ?_
            change WpG _ _ _ _ _
            refine WpG.seq ?_
            refine WpG.cond rfl (fun hq12 => ?_) (fun hq12 => ?_)
            · (try simp only [zN] at hq12)
              refine WpG.skip ?_
              change WpG _ _ _ _ _
              refine WpG.seq ?_
              refine WpG.block ?_
              refine WpG.seq ?_
              refine WpG.reg ?_
              refine G.iaddrN rfl rfl (List.getElem?_eq_getElem (by omega)) ?_
              refine G.loadNF rfl rfl ?_
              refine G.box (g := 13) rfl rfl rfl ?_
              refine G.storeB rfl rfl rfl rfl rfl rfl ?_
              refine WpOpsG.nil ?_
              change WpG _ _ _ _ _
              refine WpG.seq ?_
              have hci := hCs _ (List.getElem_mem (l := C) (n := i) (by omega))
              unfold okCh at hci
              refine WpG.reg ?_
              refine G.mv rfl ?_
              refine G.faddrB rfl ?_
              refine G.load1B rfl rfl rfl ?_
              refine G.iaddrM rfl rfl (by omega) (gd17 [] (by rw [matF_len]; omega)) ?_
              try rw [Int.toNat_natCast]
              refine G.load1F rfl rfl ?_
              refine G.faddrB rfl ?_
              refine G.load1B rfl rfl rfl ?_
              refine G.iaddrM rfl rfl (by omega) (gd17 false (by rw [matF_row (by omega)]; omega)) ?_
              try rw [Int.toNat_natCast]
              refine G.load1F rfl rfl ?_
              rw [matF_get (by omega) (by omega)]
              refine G.un rfl rfl ?_
              refine G.mv rfl ?_
              apply G.orS rfl rfl rfl rfl rfl rfl
              case hB =>
                intro hs13
                (try simp only [zN] at hs13)
                refine G.mv rfl ?_
                refine G.faddrB rfl ?_
                refine G.load1B rfl rfl rfl ?_
                refine G.iaddrM rfl rfl (by omega) (gd17 [] (by rw [matF_len]; omega)) ?_
                try rw [Int.toNat_natCast]
                refine G.load1F rfl rfl ?_
                refine G.faddrB rfl ?_
                refine G.load1B rfl rfl rfl ?_
                refine G.iaddrM rfl rfl (by omega) (gd17 false (by rw [matF_row (by omega)]; omega)) ?_
                try rw [Int.toNat_natCast]
                refine G.load1F rfl rfl ?_
                rw [matF_get (by omega) (by omega)]
                refine G.un rfl rfl ?_
                refine WpOpsG.nil ?_
                exact ⟨rfl, (by repeat (first | exact LLe.refl _ | refine LLe.cons rfl ?_)), (by repeat (first | exact HLe.refl _ | refine HLe.cons rfl ?_)), rfl⟩
              refine G.mv rfl ?_
              apply G.orS rfl rfl rfl rfl rfl rfl
              case hB =>
                intro hs14
                (try simp only [zN] at hs14)
                refine G.faddrB rfl ?_
                refine G.load1B rfl rfl rfl ?_
                refine G.mv rfl ?_
                apply G.andS rfl rfl rfl rfl rfl rfl
                case hB =>
                  intro hs15
                  (try simp only [zN] at hs15)
                  refine G.mv rfl ?_
                  refine G.faddrB rfl ?_
                  refine G.load1B rfl rfl rfl ?_
                  refine G.iaddrM rfl rfl (by omega) (gd17 [] (by rw [matF_len]; omega)) ?_
                  try rw [Int.toNat_natCast]
                  refine G.load1F rfl rfl ?_
                  refine G.faddrB rfl ?_
                  refine G.load1B rfl rfl rfl ?_
                  refine G.iaddrM rfl rfl (by omega) (gd17 false (by rw [matF_row (by omega)]; omega)) ?_
                  try rw [Int.toNat_natCast]
                  refine G.load1F rfl rfl ?_
                  rw [matF_get (by omega) (by omega)]
                  refine G.un rfl rfl ?_
                  refine WpOpsG.nil ?_
                  exact ⟨rfl, (by repeat (first | exact LLe.refl _ | refine LLe.cons rfl ?_)), (by repeat (first | exact HLe.refl _ | refine HLe.cons rfl ?_)), rfl⟩
                refine WpOpsG.nil ?_
                exact ⟨rfl, (by repeat (first | exact LLe.refl _ | refine LLe.cons rfl ?_)), (by repeat (first | exact HLe.refl _ | refine HLe.cons rfl ?_)), rfl⟩
              refine WpOpsG.nil ?_
              change WpG _ _ _ _ _
              refine WpG.cond rfl (fun hq16 => ?_) (fun hq16 => ?_)
              · (try simp only [zN] at hq16)
                exfalso
                have hx := List.getElem_mem (l := C) (n := i) (by omega)
                have hbo := both_ok (hCs _ hx)
                have h1 := dep_chan hx hbo
                have h2 := sw_chan hx hbo
                rcases hq16 with (h | h) | h
                · rw [h1] at h; cases h
                · rw [h2.1] at h; cases h
                · rw [h2.2 h.1] at h; exact absurd h.2 (by decide)
              · (try simp only [zN] at hq16)
                refine WpG.skip ?_
                change WpG _ _ _ _ _
                refine WpG.reg ?_
                refine G.addI rfl rfl (by omega) ?_
                refine G.mv rfl ?_
                refine WpOpsG.nil ?_
                exact ⟨i + 1, by omega, by omega, ⟨rfl, rfl, rfl, rfl, rfl, rfl, rfl, rfl, rfl, trivial⟩, ⟨rfl, trivial⟩, rfl⟩
            · (try simp only [zN] at hq12)
              refine WpG.exit ?_
              change WpG _ _ _ _ _
              refine WpG.seq ?_
              refine WpG.reg ?_
              refine G.call0 rfl rfl (known7_ok) ?_
              rintro _ _ ⟨rfl, rfl⟩
              refine ⟨rfl, ?_⟩
              change WpOpsG _ _ ((228, _) :: _) _ _
              refine G.mv rfl ?_
              refine WpOpsG.nil ?_
              change WpG _ _ _ _ _
              refine WpG.ret ?_
              refine ⟨_, [], rfl, (hasP_le (by repeat (first | exact trivial | refine ⟨rfl, ?_⟩))), rfl, rfl, rfl, ?_⟩
              exact ⟨rfl, rfl⟩
          · exact Nat.zero_le _
      · exact Nat.zero_le _
  · exact Nat.zero_le _
end Go.AM.L7
