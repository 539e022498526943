/- Contracts of the functions that the statement reaches. No condition. -/
import Derived.Test.YtabhoinefficpaaC10j
set_option linter.all false
set_option maxRecDepth 10000
namespace Go.AM.L10
open Go.AM.PL
set_option maxHeartbeats 1000000 in
theorem moveNumbers_ok  : WpCallG A 3 [] [] (fun v H => v = .v (.bool true) ∧ H = []) := by
 refine WpCallG.intro g3 rfl rfl ?_
 unfold af3
 change WpG _ _ _ _ _
 refine WpG.seq ?_
 refine WpG.reg ?_
 refine G.mv rfl ?_
 refine WpOpsG.nil ?_
 change WpG _ _ _ _ _
 refine WpG.seq ?_
 refine WpG.seq ?_
 refine WpG.reg ?_
 refine G.mv rfl ?_
 refine WpOpsG.nil ?_
 change WpG _ _ _ _ _
 refine WpG.block ?_
 refine WpG.loop (S := Nat) (fun k => [(0, .v (.bool false)), (1, .v (.int .i64 (k : Int)))]) (fun _ => []) (fun k => k ≤ 30) (fun k => 30 - k) (fun s => ⟨rfl, rfl⟩) ?_ 0 ?_ (by repeat (first | exact trivial | refine ⟨rfl, ?_⟩)) (by repeat (first | exact trivial | refine ⟨rfl, ?_⟩)) rfl
 ·intro k hk
  refine WpG.seq ?_
  refine WpG.seq ?_
  refine WpG.reg ?_
  refine G.mv rfl ?_
  refine G.bin rfl rfl rfl ?_
  refine WpOpsG.nil ?_
  change WpG _ _ _ _ _
  refine WpG.cond rfl (fun hq1 => ?_) (fun hq1 => ?_)
  ·(try simp only [zN] at hq1)
   refine WpG.skip ?_
   change WpG _ _ _ _ _
   refine WpG.seq ?_
   refine WpG.block ?_
   refine WpG.seq ?_
   refine WpG.reg ?_
   refine G.mv rfl ?_
   refine G.call0 rfl rfl ((tape_ok k (by omega)).ren [(0, 20)]) ?_
   rintro _ _ ⟨_, _, ⟨rfl, rfl⟩, rfl, rfl⟩
   change newOk _ _ [(20, _)] = true ∧ _
   refine ⟨rfl, ?_⟩
   change WpOpsG _ _ ((12, .osl 20) :: _) ([(20, .arr .yes 1 ((tapeL 53 k 400).map encK))] ++ _) _
   refine WpOpsG.freeze 20 rfl ?_
   refine G.build rfl ?_
   refine G.box (g := 11) rfl rfl rfl ?_
   change WpOpsG _ _ _ ((11, tbox (tapeL 53 k 400) 0) :: _) _
   refine G.mv rfl ?_
   refine WpOpsG.nil ?_
   change WpG _ _ _ _ _
   refine WpG.seq ?_
   refine WpG.reg ?_
   refine G.mv rfl ?_
   refine G.call (P := [(11, tbox (tapeL 53 k 400) 0)]) rfl (by repeat (first | exact trivial | refine ⟨rfl, ?_⟩)) rfl rfl ((config_okP (tapeL 53 k 400) 0 (by rw [tapeL_len]; decide) tapeL_i64 (Nat.zero_le _)).ren [(0, 11)]) ?_
   rintro _ _ ⟨_, _, ⟨P, C, tabs, b0, hcf, hb0, rfl, rfl⟩, rfl, rfl⟩
   change newOk _ _ [(11, tbox (tapeL 53 k 400) b0)] = true ∧ _
   refine ⟨rfl, ?_⟩
   change WpOpsG _ _ ((16, .agg [.fsl 11 (P.map encP), .fsl 6 (C.map encC), .fsl 1 (tabs.map encTb)]) :: _) ([(11, tbox (tapeL 53 k 400) b0)] ++ _) _
   obtain ⟨⟨⟨hP1, hP4⟩, hPp⟩, ⟨hC20, hCs⟩, ⟨hT1, hT3⟩, hTs⟩ := hcf
   refine G.box (g := 12) rfl rfl rfl ?_
   refine G.storeB rfl rfl rfl rfl rfl rfl ?_
   refine WpOpsG.nil ?_
   change WpG _ _ _ _ _
   refine WpG.seq ?_
   refine WpG.reg ?_
   refine G.mv rfl ?_
   refine G.faddrB rfl ?_
   refine G.load1B rfl rfl rfl ?_
   refine G.lenM rfl ?_
   refine G.call (P := [(11, tbox (tapeL 53 k 400) b0)]) rfl (by repeat (first | exact trivial | refine ⟨rfl, ?_⟩)) rfl rfl ((truns_ok (tapeL 53 k 400) b0 (P.length : Int) 10 (by rw [tapeL_len]; decide) tapeL_i64 hb0 (by omega) (by decide)).ren [(0, 11)]) ?_
   rintro _ _ ⟨_, _, ⟨rfl, rfl⟩, rfl, rfl⟩
   change newOk _ _ [(11, tbox (tapeL 53 k 400) _)] = true ∧ _
   refine ⟨rfl, ?_⟩
   change WpOpsG _ _ ((21, .fsl 2 ((tapeRuns (tapeL 53 k 400) b0 (P.length : Int) 10).1.map encN)) :: _) ([(11, tbox (tapeL 53 k 400) _)] ++ _) _
   have hr := tapeRuns_ok (tapeL 53 k 400) b0 (P.length : Int) 10 (by omega) (by decide) hb0
   obtain ⟨rs, hrs⟩ : ∃ rs, rs = (tapeRuns (tapeL 53 k 400) b0 (P.length : Int) 10).1 := ⟨_, rfl⟩
   rw [← hrs] at hr ⊢
   have hrl : rs.length ≤ 10 := by have := hr.2.2.1; omega
   have hrN : ∀ r ∈ rs, okN r := fun r hr2 => by
    have := hr.1 r hr2
    unfold okT at this
    unfold okN i64; omega
   have hrw : wlen rs ≤ 8192 := runs_wlen hr.1 (by omega)
   refine G.mv rfl ?_
   refine WpOpsG.nil ?_
   change WpG _ _ _ _ _
   refine WpG.seq ?_
   refine WpG.reg ?_
   refine G.mv rfl ?_
   refine WpOpsG.nil ?_
   change WpG _ _ _ _ _
   refine WpG.block ?_
   refine WpG.loop (S := Nat) (fun i => [(0, .v (.bool false)), (1, .v (.int .i64 (k : Int))), (3, .bptr 12 0), (4, .fsl 2 (rs.map encN)), (5, .v (.int .i64 ((i : Int) - 1)))]) (fun _ => [(12, .box [.fsl 11 (P.map encP), .fsl 6 (C.map encC), .fsl 1 (tabs.map encTb)])]) (fun i => i ≤ rs.length + 2) (fun i => rs.length + 2 - i) (fun s => ⟨rfl, rfl⟩) ?_ 0 ?_ (by repeat (first | exact trivial | refine ⟨rfl, ?_⟩)) (by repeat (first | exact trivial | refine ⟨rfl, ?_⟩)) rfl
   ·intro i hi
    refine WpG.seq ?_
    refine WpG.seq ?_
    refine WpG.reg ?_
    refine G.mv rfl ?_
    refine G.mv rfl ?_
    refine G.lenM rfl ?_
    refine G.bin rfl rfl rfl ?_
    refine WpOpsG.nil ?_
    change WpG _ _ _ _ _
    refine WpG.cond rfl (fun hq2 => ?_) (fun hq2 => ?_)
    ·(try simp only [zN] at hq2)
     refine WpG.skip ?_
     change WpG _ _ _ _ _
     refine WpG.seq ?_
     refine WpG.block ?_
     refine WpG.seq ?_
     refine WpG.reg ?_
     refine G.mv rfl ?_
     refine WpOpsG.nil ?_
     change WpG _ _ _ _ _
     refine WpG.block ?_
     refine WpG.loop (S := Nat) (fun j => [(0, .v (.bool false)), (1, .v (.int .i64 (k : Int))), (3, .bptr 12 0), (4, .fsl 2 (rs.map encN)), (5, .v (.int .i64 ((i : Int) - 1))), (6, .v (.int .i64 ((j : Int) - 1)))]) (fun _ => [(12, .box [.fsl 11 (P.map encP), .fsl 6 (C.map encC), .fsl 1 (tabs.map encTb)])]) (fun j => j ≤ rs.length + 2) (fun j => rs.length + 2 - j) (fun s => ⟨rfl, rfl⟩) ?_ 0 ?_ (by repeat (first | exact trivial | refine ⟨rfl, ?_⟩)) (by repeat (first | exact trivial | refine ⟨rfl, ?_⟩)) rfl
     ·intro j hj
      refine WpG.seq ?_
      refine WpG.seq ?_
      refine WpG.reg ?_
      refine G.mv rfl ?_
      refine G.mv rfl ?_
      refine G.lenM rfl ?_
      refine G.bin rfl rfl rfl ?_
      refine WpOpsG.nil ?_
      change WpG _ _ _ _ _
      refine WpG.cond rfl (fun hq3 => ?_) (fun hq3 => ?_)
      ·(try simp only [zN] at hq3)
       refine WpG.skip ?_
       change WpG _ _ _ _ _
       refine WpG.seq ?_
       refine WpG.block ?_
       refine WpG.seq ?_
       refine WpG.reg ?_
       refine G.mv rfl ?_
       refine G.mv rfl ?_
       refine G.addI rfl rfl (by omega) ?_
       refine G.mv rfl ?_
       refine G.addI rfl rfl (by omega) ?_
       refine G.remP rfl rfl (by decide) ?_
       refine G.bin rfl rfl rfl ?_
       refine G.mv rfl ?_
       apply G.andS rfl rfl rfl rfl rfl rfl
       case hB =>
        intro hs4
        (try simp only [zN] at hs4)
        refine G.mv rfl ?_
        refine G.loadNB rfl rfl rfl ?_
        refine G.mv rfl ?_
        refine G.mv rfl ?_
        refine G.mv rfl ?_
        refine G.mv rfl ?_
        refine G.addI rfl rfl (by omega) ?_
        refine G.remP rfl rfl (by decide) ?_
        refine G.bin rfl rfl rfl ?_
        refine G.build rfl ?_
        refine G.call0 rfl rfl (same10_ok P C (tabs.map encTb) rs _ _ _ (by omega) (by omega) hPp (by omega) hrN hrw) ?_
        rintro _ _ ⟨rfl, rfl⟩
        refine ⟨rfl, ?_⟩
        change WpOpsG _ _ ((52, _) :: _) _ _
        refine G.un rfl rfl ?_
        refine WpOpsG.nil ?_
        exact ⟨rfl, (by repeat (first | exact LLe.refl _ | refine LLe.cons rfl ?_)), (by repeat (first | exact HLe.refl _ | refine HLe.cons rfl ?_)), rfl⟩
       refine WpOpsG.nil ?_
       change WpG _ _ _ _ _
       refine WpG.cond rfl (fun hq5 => absurd hq5 (by simp)) (fun hq5 => ?_)
       refine WpG.skip ?_
       change WpG _ _ _ _ _
       refine WpG.reg ?_
       refine G.mv rfl ?_
       refine G.addI rfl rfl (by omega) ?_
       refine G.mv rfl ?_
       refine WpOpsG.nil ?_
       refine ⟨j + 1, by omega, by omega, ⟨rfl, rfl, rfl, rfl, rfl, ?_, trivial⟩, ⟨rfl, trivial⟩, rfl⟩
       show some (GV.v (.int .i64 _)) = some (GV.v (.int .i64 _))
       congr 3; omega
      ·(try simp only [zN] at hq3)
       refine WpG.exit ?_
       change WpG _ _ _ _ _
       refine WpG.reg ?_
       refine G.mv rfl ?_
       refine G.addI rfl rfl (by omega) ?_
       refine G.mv rfl ?_
       refine WpOpsG.nil ?_
       refine ⟨i + 1, by omega, by omega, ⟨rfl, rfl, rfl, rfl, ?_, trivial⟩, ⟨rfl, trivial⟩, rfl⟩
       show some (GV.v (.int .i64 _)) = some (GV.v (.int .i64 _))
       congr 3; omega
     ·exact Nat.zero_le _
    ·(try simp only [zN] at hq2)
     refine WpG.exit ?_
     change WpG _ _ _ _ _
     refine WpG.reg ?_
     refine G.mv rfl ?_
     refine G.addI rfl rfl (by omega) ?_
     refine G.mv rfl ?_
     refine WpOpsG.nil ?_
     exact ⟨k + 1, by omega, by omega, ⟨rfl, rfl, trivial⟩, trivial, rfl⟩
   ·exact Nat.zero_le _
  ·(try simp only [zN] at hq1)
   refine WpG.exit ?_
   change WpG _ _ _ _ _
   refine WpG.seq ?_
   refine WpG.reg ?_
   refine G.build rfl ?_
   refine G.build rfl ?_
   refine G.build rfl ?_
   refine G.bsliceF rfl rfl rfl ?_
   change WpOpsG _ _ ((58, .fsl 2 (mn10.map encN)) :: _) _ _
   refine G.mkslice (g := 30) rfl rfl (by omega) (by omega) (by omega) (by omega) rfl rfl rfl rfl ?_
   refine WpOpsG.anyO 30 5 rfl ?_
   change WpOpsG _ _ _ ((30, .arr .yes 11 (zP2.map encP)) :: _) _
   refine WpOpsG.freeze 30 rfl ?_
   refine G.build rfl ?_
   refine G.build rfl ?_
   refine G.call0 rfl rfl (cfgNil2 (same10_ok zP2 [] [] mn10 0 2 false (by decide) (by decide) (by unfold i64; decide) (by decide) mn10_ok (by decide +kernel))) ?_
   rintro _ _ ⟨rfl, rfl⟩
   refine ⟨rfl, ?_⟩
   change WpOpsG _ _ ((62, _) :: _) _ _
   refine G.mv rfl ?_
   refine WpOpsG.known 63 true rfl rfl ?_
   refine G.call0 rfl rfl (known10_ok) ?_
   rintro _ _ ⟨rfl, rfl⟩
   refine ⟨rfl, ?_⟩
   change WpOpsG _ _ ((64, _) :: _) _ _
   refine G.pickT rfl rfl ?_
   refine G.mv rfl ?_
   refine WpOpsG.nil ?_
   change WpG _ _ _ _ _
   refine WpG.ret ?_
   refine ⟨_, [], rfl, (hasP_le (by repeat (first | exact trivial | refine ⟨rfl, ?_⟩))), rfl, rfl, rfl, ?_⟩
   exact ⟨rfl, rfl⟩
 ·exact Nat.zero_le _
end Go.AM.L10
