/- Contracts of the functions that the statement reaches. No condition. -/
import Derived.Test.YtomglcfneeelgaaC7g
set_option linter.all false
set_option maxRecDepth 10000
namespace Go.AM.L7
open Go.AM.PL
set_option maxHeartbeats 1000000 in
theorem graphNumbers_ok  : WpCallG A 3 [] [] (fun v H => v = .v (.bool true) ∧ H = []) := by
  refine WpCallG.intro g3 rfl rfl ?_
  unfold af3
  change WpG _ _ _ _ _
  refine WpG.seq ?_
  refine WpG.reg ?_
  refine G.mv rfl ?_
  refine WpOpsG.nil ?_
  change WpG _ _ _ _ _
  refine WpG.seq ?_
  refine WpG.seq ?_
  refine WpG.reg ?_
  refine G.mv rfl ?_
  refine WpOpsG.nil ?_
  change WpG _ _ _ _ _
  refine WpG.block ?_
  refine WpG.loop (S := Nat) (fun k => [(0, .v (.bool false)), (1, .v (.int .i64 (k : Int)))]) (fun _ => []) (fun k => k ≤ 60) (fun k => 60 - k) (fun s => ⟨rfl, rfl⟩) ?_ 0 ?_ (by repeat (first | exact trivial | refine ⟨rfl, ?_⟩)) (by repeat (first | exact trivial | refine ⟨rfl, ?_⟩)) rfl
  · intro k hk
    refine WpG.seq ?_
    refine WpG.seq ?_
    refine WpG.reg ?_
    refine G.mv rfl ?_
    refine G.bin rfl rfl rfl ?_
    refine WpOpsG.nil ?_
    change WpG _ _ _ _ _
    refine WpG.cond rfl (fun hq1 => ?_) (fun hq1 => ?_)
    · (try simp only [zN] at hq1)
      refine WpG.skip ?_
      change WpG _ _ _ _ _
      refine WpG.seq ?_
      refine WpG.block ?_
      refine WpG.seq ?_
      refine WpG.reg ?_
      refine G.mv rfl ?_
      refine G.call0 rfl rfl ((tape_ok k (by omega)).ren [(0, 20)]) ?_
      rintro _ _ ⟨_, _, ⟨rfl, rfl⟩, rfl, rfl⟩
      change newOk _ _ [(20, _)] = true ∧ _
      refine ⟨rfl, ?_⟩
      change WpOpsG _ _ ((9, .osl 20) :: _) ([(20, .arr .yes 1 ((tapeL 41 k 400).map encK))] ++ _) _
      refine WpOpsG.freeze 20 rfl ?_
      refine G.build rfl ?_
      refine G.box (g := 11) rfl rfl rfl ?_
      change WpOpsG _ _ _ ((11, tbox (tapeL 41 k 400) 0) :: _) _
      refine G.call (P := [(11, tbox (tapeL 41 k 400) 0)]) rfl (by repeat (first | exact trivial | refine ⟨rfl, ?_⟩)) rfl rfl ((config_okP (tapeL 41 k 400) 0 (by rw [tapeL_len]; decide) tapeL_i64 (Nat.zero_le _)).ren [(0, 11)]) ?_
      rintro _ _ ⟨_, _, ⟨P, C, tabs, b0, hcf, hb0, rfl, rfl⟩, rfl, rfl⟩
      change newOk _ _ [(11, tbox (tapeL 41 k 400) b0)] = true ∧ _
      refine ⟨rfl, ?_⟩
      change WpOpsG _ _ ((12, .agg [.fsl 11 (P.map encP), .fsl 6 (C.map encC), .fsl 1 (tabs.map encTb)]) :: _) ([(11, tbox (tapeL 41 k 400) b0)] ++ _) _
      obtain ⟨⟨⟨hP1, hP4⟩, hPp⟩, ⟨hC20, hCs⟩, ⟨hT1, hT3⟩, hTs⟩ := hcf
      refine G.box (g := 12) rfl rfl rfl ?_
      refine G.storeB rfl rfl rfl rfl rfl rfl ?_
      refine WpOpsG.nil ?_
      change WpG _ _ _ _ _
      refine WpG.seq ?_
      refine WpG.reg ?_
      refine G.mv rfl ?_
      refine WpOpsG.nil ?_
      change WpG _ _ _ _ _
      refine WpG.block ?_
      refine WpG.loop (S := Nat) (fun j => [(0, .v (.bool false)), (1, .v (.int .i64 (k : Int))), (2, .bptr 12 0), (3, .v (.int .i64 ((j : Int) - 2)))]) (fun _ => [(12, .box [.fsl 11 (P.map encP), .fsl 6 (C.map encC), .fsl 1 (tabs.map encTb)])]) (fun j => j ≤ 8) (fun j => 8 - j) (fun s => ⟨rfl, rfl⟩) ?_ 0 ?_ (by repeat (first | exact trivial | refine ⟨rfl, ?_⟩)) (by repeat (first | exact trivial | refine ⟨rfl, ?_⟩)) rfl
      · intro j hj
        refine WpG.seq ?_
        refine WpG.seq ?_
        refine WpG.reg ?_
        refine G.mv rfl ?_
        refine G.bin rfl rfl rfl ?_
        refine WpOpsG.nil ?_
        change WpG _ _ _ _ _
        refine WpG.cond rfl (fun hq2 => ?_) (fun hq2 => ?_)
        · (try simp only [zN] at hq2)
          refine WpG.skip ?_
          change WpG _ _ _ _ _
          refine WpG.seq ?_
          refine WpG.block ?_
          refine WpG.seq ?_
          refine WpG.reg ?_
          refine G.loadNB rfl rfl rfl ?_
          refine G.mv rfl ?_
          refine G.mv rfl ?_
          refine G.remN rfl rfl (by omega) (by decide) ?_
          refine G.subI rfl rfl (by omega) ?_
          refine G.call0 rfl rfl (same7_ok P C (tabs.map encTb) (by omega) (by omega) ((j : Int) - 2) ((k : Int) % 8 - 2)) ?_
          rintro _ _ ⟨rfl, rfl⟩
          refine ⟨rfl, ?_⟩
          change WpOpsG _ _ ((22, _) :: _) _ _
          refine G.un rfl rfl ?_
          refine WpOpsG.nil ?_
          change WpG _ _ _ _ _
          refine WpG.cond rfl (fun hq3 => absurd hq3 (by decide)) (fun hq3 => ?_)
          refine WpG.skip ?_
          change WpG _ _ _ _ _
          refine WpG.reg ?_
          refine G.mv rfl ?_
          refine G.addI rfl rfl (by omega) ?_
          refine G.mv rfl ?_
          refine WpOpsG.nil ?_
          refine ⟨j + 1, by omega, by omega, ⟨rfl, rfl, rfl, ?_, trivial⟩, ⟨rfl, trivial⟩, rfl⟩
          show some (GV.v (.int .i64 _)) = some (GV.v (.int .i64 _))
          congr 3; omega
        · (try simp only [zN] at hq2)
          refine WpG.exit ?_
          change WpG _ _ _ _ _
          refine WpG.reg ?_
          refine G.mv rfl ?_
          refine G.addI rfl rfl (by omega) ?_
          refine G.mv rfl ?_
          refine WpOpsG.nil ?_
          exact ⟨k + 1, by omega, by omega, ⟨rfl, rfl, trivial⟩, trivial, rfl⟩
      · exact Nat.zero_le _
    · (try simp only [zN] at hq1)
      refine WpG.exit ?_
      change WpG _ _ _ _ _
      refine WpG.seq ?_
      refine WpG.reg ?_
      refine G.mkslice (g := 30) rfl rfl (by omega) (by omega) (by omega) (by omega) rfl rfl rfl rfl ?_
      refine WpOpsG.anyO 30 5 rfl ?_
      change WpOpsG _ _ _ ((30, .arr .yes 11 (([zP, zP] : List Pt).map encP)) :: _) _
      refine WpOpsG.freeze 30 rfl ?_
      refine G.build rfl ?_
      refine G.build rfl ?_
      refine G.build rfl ?_
      refine G.bsliceF rfl rfl rfl ?_
      change WpOpsG _ _ ((28, .fsl 6 (([⟨-1, 1, false, 0, 0, 0⟩, ⟨5, 0, false, 0, 0, 0⟩, ⟨0, 0, false, 0, 0, 0⟩] : List Ch).map encC)) :: _) _ _
      refine G.build rfl ?_
      refine G.call0 rfl rfl (cfgNil (same7_ok [zP, zP] ([⟨-1, 1, false, 0, 0, 0⟩, ⟨5, 0, false, 0, 0, 0⟩, ⟨0, 0, false, 0, 0, 0⟩] : List Ch) [] (by decide) (by decide) 0 1)) ?_
      rintro _ _ ⟨rfl, rfl⟩
      refine ⟨rfl, ?_⟩
      change WpOpsG _ _ ((30, _) :: _) _ _
      refine G.mv rfl ?_
      refine WpOpsG.known 31 true rfl rfl ?_
      refine G.bsliceF rfl rfl rfl ?_
      refine G.bsliceF rfl rfl rfl ?_
      refine G.bsliceF rfl rfl rfl ?_
      change WpOpsG _ _ ((34, .fsl 1 (([[true], [false, true]] : List (List Bool)).map encBs)) :: _) _ _
      refine G.call0 rfl rfl (gclo_ok [[true], [false, true]] (by decide) (by decide)) ?_
      rintro _ _ ⟨rfl, rfl⟩
      refine ⟨rfl, ?_⟩
      change WpOpsG _ _ ((35, _) :: _) _ _
      rw [show cloV [[true], [false, true]] = [] by decide +kernel]
      refine G.call0 rfl rfl (nil2 (matrix_ok [] [] (by decide) (by decide) (fun r hr => by cases hr) (fun r hr => by cases hr))) ?_
      rintro _ _ ⟨rfl, rfl⟩
      refine ⟨rfl, ?_⟩
      change WpOpsG _ _ ((36, _) :: _) _ _
      rw [decide_eq_true rfl]
      refine G.pickT rfl rfl ?_
      refine G.mv rfl ?_
      refine WpOpsG.known 38 true rfl rfl ?_
      refine G.call0 rfl rfl (known7_ok) ?_
      rintro _ _ ⟨rfl, rfl⟩
      refine ⟨rfl, ?_⟩
      change WpOpsG _ _ ((39, _) :: _) _ _
      refine G.pickT rfl rfl ?_
      refine G.mv rfl ?_
      refine WpOpsG.nil ?_
      change WpG _ _ _ _ _
      refine WpG.ret ?_
      refine ⟨_, [], rfl, (hasP_le (by repeat (first | exact trivial | refine ⟨rfl, ?_⟩))), rfl, rfl, rfl, ?_⟩
      exact ⟨rfl, rfl⟩
  · exact Nat.zero_le _
end Go.AM.L7
