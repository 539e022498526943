/- Contracts of the functions that the statement reaches. No condition. -/
import Derived.Test.YthmcocmhalhbfaaC9h
set_option linter.all false
set_option maxRecDepth 10000
namespace Go.AM.L9
open Go.AM.PL
set_option maxHeartbeats 1000000 in
theorem boundNumbers_ok  : WpCallG A 3 [] [] (fun v H => v = .v (.bool true) ∧ H = []) := by
 refine WpCallG.intro g3 rfl rfl ?_
 unfold af3
 change WpG _ _ _ _ _
 refine WpG.seq ?_
 refine WpG.reg ?_
 refine G.mv rfl ?_
 refine WpOpsG.nil ?_
 change WpG _ _ _ _ _
 refine WpG.seq ?_
 refine WpG.seq ?_
 refine WpG.reg ?_
 refine G.mv rfl ?_
 refine WpOpsG.nil ?_
 change WpG _ _ _ _ _
 refine WpG.block ?_
 refine WpG.loop (S := Nat) (fun k => [(0, .v (.bool false)), (1, .v (.int .i64 (k : Int)))]) (fun _ => []) (fun k => k ≤ 40) (fun k => 40 - k) (fun s => ⟨rfl, rfl⟩) ?_ 0 ?_ (by repeat (first | exact trivial | refine ⟨rfl, ?_⟩)) (by repeat (first | exact trivial | refine ⟨rfl, ?_⟩)) rfl
 ·intro k hk
  refine WpG.seq ?_
  refine WpG.seq ?_
  refine WpG.reg ?_
  refine G.mv rfl ?_
  refine G.bin rfl rfl rfl ?_
  refine WpOpsG.nil ?_
  change WpG _ _ _ _ _
  refine WpG.cond rfl (fun hq1 => ?_) (fun hq1 => ?_)
  ·(try simp only [zN] at hq1)
   refine WpG.skip ?_
   change WpG _ _ _ _ _
   refine WpG.seq ?_
   refine WpG.block ?_
   refine WpG.seq ?_
   refine WpG.reg ?_
   refine G.mv rfl ?_
   refine G.call0 rfl rfl ((tape_ok k (by omega)).ren [(0, 20)]) ?_
   rintro _ _ ⟨_, _, ⟨rfl, rfl⟩, rfl, rfl⟩
   change newOk _ _ [(20, _)] = true ∧ _
   refine ⟨rfl, ?_⟩
   change WpOpsG _ _ ((18, .osl 20) :: _) ([(20, .arr .yes 1 ((tapeL 47 k 400).map encK))] ++ _) _
   refine WpOpsG.freeze 20 rfl ?_
   refine G.build rfl ?_
   refine G.box (g := 11) rfl rfl rfl ?_
   change WpOpsG _ _ _ ((11, tbox (tapeL 47 k 400) 0) :: _) _
   refine G.mv rfl ?_
   refine WpOpsG.nil ?_
   change WpG _ _ _ _ _
   refine WpG.seq ?_
   refine WpG.reg ?_
   refine G.mv rfl ?_
   refine G.call (P := [(11, tbox (tapeL 47 k 400) 0)]) rfl (by repeat (first | exact trivial | refine ⟨rfl, ?_⟩)) rfl rfl ((truns_ok (tapeL 47 k 400) 0 3 9 (by rw [tapeL_len]; decide) tapeL_i64 (Nat.zero_le _) (by omega) (by decide)).ren [(0, 11)]) ?_
   rintro _ _ ⟨_, _, ⟨rfl, rfl⟩, rfl, rfl⟩
   change newOk _ _ [(11, tbox (tapeL 47 k 400) _)] = true ∧ _
   refine ⟨rfl, ?_⟩
   change WpOpsG _ _ ((22, .fsl 2 ((tapeRuns (tapeL 47 k 400) 0 3 9).1.map encN)) :: _) ([(11, tbox (tapeL 47 k 400) _)] ++ _) _
   have hr := tapeRuns_ok (tapeL 47 k 400) 0 3 9 (by omega) (by decide) (Nat.zero_le _)
   obtain ⟨rs, hrs⟩ : ∃ rs, rs = (tapeRuns (tapeL 47 k 400) 0 3 9).1 := ⟨_, rfl⟩
   rw [← hrs] at hr ⊢
   have hrl : rs.length ≤ 9 := by have := hr.2.2.1; omega
   have hrN : ∀ r ∈ rs, okN r := fun r hr2 => by
    have := hr.1 r hr2
    unfold okT at this
    unfold okN i64; omega
   have hrw : wlen rs ≤ 8192 := runs_wlen hr.1 (by omega)
   have hr1 : ∀ r ∈ rs, 1 ≤ r.n := fun r hr2 => (hr.1 r hr2).2.2.1
   refine G.mv rfl ?_
   refine WpOpsG.nil ?_
   change WpG _ _ _ _ _
   refine WpG.seq ?_
   refine WpG.reg ?_
   refine G.mv rfl ?_
   refine G.call0 rfl rfl (total_ok rs (by omega) hrN) ?_
   rintro _ _ ⟨rfl, rfl⟩
   refine ⟨rfl, ?_⟩
   change WpOpsG _ _ ((24, _) :: _) _ _
   obtain ⟨N, htot, hN64⟩ := runs_tot hr.1 (by omega)
   rw [htot]
   refine G.mv rfl ?_
   refine WpOpsG.nil ?_
   change WpG _ _ _ _ _
   refine WpG.seq ?_
   refine WpG.seq ?_
   refine WpG.reg ?_
   refine G.mv rfl ?_
   refine WpOpsG.nil ?_
   change WpG _ _ _ _ _
   refine WpG.block ?_
   refine WpG.loop (S := Nat) (fun a => [(0, .v (.bool false)), (1, .v (.int .i64 (k : Int))), (2, .bptr 11 0), (3, .fsl 2 (rs.map encN)), (4, .v (.int .i64 (N : Int))), (5, .v (.int .i64 ((a : Int) - 2)))]) (fun _ => [(11, tbox (tapeL 47 k 400) (tapeRuns (tapeL 47 k 400) 0 3 9).2)]) (fun a => a ≤ 7) (fun a => 7 - a) (fun s => ⟨rfl, rfl⟩) ?_ 0 ?_ (by repeat (first | exact trivial | refine ⟨rfl, ?_⟩)) (by repeat (first | exact trivial | refine ⟨rfl, ?_⟩)) rfl
   ·intro a ha
    refine WpG.seq ?_
    refine WpG.seq ?_
    refine WpG.reg ?_
    refine G.mv rfl ?_
    refine G.bin rfl rfl rfl ?_
    refine WpOpsG.nil ?_
    change WpG _ _ _ _ _
    refine WpG.cond rfl (fun hq2 => ?_) (fun hq2 => ?_)
    ·(try simp only [zN] at hq2)
     refine WpG.skip ?_
     change WpG _ _ _ _ _
     refine WpG.seq ?_
     refine WpG.block ?_
     refine WpG.seq ?_
     refine WpG.seq ?_
     refine WpG.reg ?_
     refine G.mv rfl ?_
     refine WpOpsG.nil ?_
     change WpG _ _ _ _ _
     refine WpG.block ?_
     refine WpG.loop (S := Nat) (fun b => [(0, .v (.bool false)), (1, .v (.int .i64 (k : Int))), (2, .bptr 11 0), (3, .fsl 2 (rs.map encN)), (4, .v (.int .i64 (N : Int))), (5, .v (.int .i64 ((a : Int) - 2))), (6, .v (.int .i64 ((b : Int) - 1)))]) (fun _ => [(11, tbox (tapeL 47 k 400) (tapeRuns (tapeL 47 k 400) 0 3 9).2)]) (fun b => b ≤ 5) (fun b => 5 - b) (fun s => ⟨rfl, rfl⟩) ?_ 0 ?_ (by repeat (first | exact trivial | refine ⟨rfl, ?_⟩)) (by repeat (first | exact trivial | refine ⟨rfl, ?_⟩)) rfl
     ·intro b hb
      refine WpG.seq ?_
      refine WpG.seq ?_
      refine WpG.reg ?_
      refine G.mv rfl ?_
      refine G.bin rfl rfl rfl ?_
      refine WpOpsG.nil ?_
      change WpG _ _ _ _ _
      refine WpG.cond rfl (fun hq3 => ?_) (fun hq3 => ?_)
      ·(try simp only [zN] at hq3)
       refine WpG.skip ?_
       change WpG _ _ _ _ _
       refine WpG.seq ?_
       refine WpG.block ?_
       refine WpG.seq ?_
       refine WpG.reg ?_
       refine G.mv rfl ?_
       refine G.mv rfl ?_
       refine G.mv rfl ?_
       refine G.mv rfl ?_
       refine G.mulI rfl rfl (by omega) ?_
       refine G.call0 rfl rfl (same9_ok rs _ _ _ (by omega) hrN hr1 hrw (by unfold i64; omega)) ?_
       rintro _ _ ⟨rfl, rfl⟩
       refine ⟨rfl, ?_⟩
       change WpOpsG _ _ ((38, _) :: _) _ _
       refine G.un rfl rfl ?_
       refine WpOpsG.nil ?_
       change WpG _ _ _ _ _
       refine WpG.cond rfl (fun hq4 => absurd hq4 (by decide)) (fun hq4 => ?_)
       refine WpG.skip ?_
       change WpG _ _ _ _ _
       refine WpG.reg ?_
       refine G.mv rfl ?_
       refine G.addI rfl rfl (by omega) ?_
       refine G.mv rfl ?_
       refine WpOpsG.nil ?_
       refine ⟨b + 1, by omega, by omega, ⟨rfl, rfl, rfl, rfl, rfl, rfl, ?_, trivial⟩, ⟨rfl, trivial⟩, rfl⟩
       show some (GV.v (.int .i64 _)) = some (GV.v (.int .i64 _))
       congr 3; omega
      ·(try simp only [zN] at hq3)
       refine WpG.exit ?_
       change WpG _ _ _ _ _
       refine WpG.seq ?_
       refine WpG.reg ?_
       refine G.mv rfl ?_
       refine WpOpsG.nil ?_
       change WpG _ _ _ _ _
       refine WpG.block ?_
       refine WpG.loop (S := Nat) (fun p => [(0, .v (.bool false)), (1, .v (.int .i64 (k : Int))), (2, .bptr 11 0), (3, .fsl 2 (rs.map encN)), (4, .v (.int .i64 (N : Int))), (5, .v (.int .i64 ((a : Int) - 2))), (7, .v (.int .i64 ((p : Int) - 1)))]) (fun _ => [(11, tbox (tapeL 47 k 400) (tapeRuns (tapeL 47 k 400) 0 3 9).2)]) (fun p => p ≤ N + 3) (fun p => N + 3 - p) (fun s => ⟨rfl, rfl⟩) ?_ 0 ?_ (by repeat (first | exact trivial | refine ⟨rfl, ?_⟩)) (by repeat (first | exact trivial | refine ⟨rfl, ?_⟩)) rfl
       ·intro p hp
        refine WpG.seq ?_
        refine WpG.seq ?_
        refine WpG.reg ?_
        refine G.mv rfl ?_
        refine G.mv rfl ?_
        refine G.addI rfl rfl (by omega) ?_
        refine G.bin rfl rfl rfl ?_
        refine WpOpsG.nil ?_
        change WpG _ _ _ _ _
        refine WpG.cond rfl (fun hq5 => ?_) (fun hq5 => ?_)
        ·(try simp only [zN] at hq5)
         refine WpG.skip ?_
         change WpG _ _ _ _ _
         refine WpG.seq ?_
         refine WpG.block ?_
         refine WpG.seq ?_
         refine WpG.reg ?_
         refine G.mv rfl ?_
         refine G.mv rfl ?_
         refine G.mv rfl ?_
         refine G.call0 rfl rfl (budget_ok rs _ _ (by omega) hrN hr1 (by omega) (by unfold i64; omega)) ?_
         rintro _ _ ⟨rfl, rfl⟩
         refine ⟨rfl, ?_⟩
         change WpOpsG _ _ ((49, _) :: _) _ _
         refine G.mv rfl ?_
         refine G.mv rfl ?_
         refine G.mv rfl ?_
         refine G.call0 rfl rfl (rbudget_ok rs _ _ (by unfold i64; omega) (by omega) hr1 hrw) ?_
         rintro _ _ ⟨rfl, rfl⟩
         refine ⟨rfl, ?_⟩
         change WpOpsG _ _ ((53, _) :: _) _ _
         refine G.bin rfl rfl rfl ?_
         rw [bne_self_eq_false]
         refine WpOpsG.nil ?_
         change WpG _ _ _ _ _
         refine WpG.cond rfl (fun hq6 => absurd hq6 (by decide)) (fun hq6 => ?_)
         refine WpG.skip ?_
         change WpG _ _ _ _ _
         refine WpG.reg ?_
         refine G.mv rfl ?_
         refine G.addI rfl rfl (by omega) ?_
         refine G.mv rfl ?_
         refine WpOpsG.nil ?_
         refine ⟨p + 1, by omega, by omega, ⟨rfl, rfl, rfl, rfl, rfl, rfl, ?_, trivial⟩, ⟨rfl, trivial⟩, rfl⟩
         show some (GV.v (.int .i64 _)) = some (GV.v (.int .i64 _))
         congr 3; omega
        ·(try simp only [zN] at hq5)
         refine WpG.exit ?_
         change WpG _ _ _ _ _
         refine WpG.reg ?_
         refine G.mv rfl ?_
         refine G.addI rfl rfl (by omega) ?_
         refine G.mv rfl ?_
         refine WpOpsG.nil ?_
         refine ⟨a + 1, by omega, by omega, ⟨rfl, rfl, rfl, rfl, rfl, ?_, trivial⟩, ⟨rfl, trivial⟩, rfl⟩
         show some (GV.v (.int .i64 _)) = some (GV.v (.int .i64 _))
         congr 3; omega
       ·exact Nat.zero_le _
     ·exact Nat.zero_le _
    ·(try simp only [zN] at hq2)
     refine WpG.exit ?_
     change WpG _ _ _ _ _
     refine WpG.seq ?_
     refine WpG.reg ?_
     refine G.mv rfl ?_
     refine G.call (P := [(11, tbox (tapeL 47 k 400) (tapeRuns (tapeL 47 k 400) 0 3 9).2)]) rfl (by repeat (first | exact trivial | refine ⟨rfl, ?_⟩)) rfl rfl ((config_okP (tapeL 47 k 400) (tapeRuns (tapeL 47 k 400) 0 3 9).2 (by rw [tapeL_len]; decide) tapeL_i64 hr.2.2.2).ren [(0, 11)]) ?_
     rintro _ _ ⟨_, _, ⟨P, C, tabs, b0, hcf, hb0, rfl, rfl⟩, rfl, rfl⟩
     change newOk _ _ [(11, tbox (tapeL 47 k 400) b0)] = true ∧ _
     refine ⟨rfl, ?_⟩
     change WpOpsG _ _ ((56, .agg [.fsl 11 (P.map encP), .fsl 6 (C.map encC), .fsl 1 (tabs.map encTb)]) :: _) ([(11, tbox (tapeL 47 k 400) b0)] ++ _) _
     obtain ⟨⟨⟨hP1, hP4⟩, hPp⟩, ⟨hC20, hCs⟩, ⟨hT1, hT3⟩, hTs, hHold⟩ := hcf
     refine G.box (g := 12) rfl rfl rfl ?_
     refine G.storeB rfl rfl rfl rfl rfl rfl ?_
     refine WpOpsG.nil ?_
     change WpG _ _ _ _ _
     refine WpG.seq ?_
     refine WpG.reg ?_
     refine G.faddrB rfl ?_
     refine G.load1B rfl rfl rfl ?_
     refine G.lenM rfl ?_
     refine G.mv rfl ?_
     refine WpOpsG.nil ?_
     change WpG _ _ _ _ _
     refine WpG.block ?_
     refine WpG.loop (S := Nat) (fun i => [(0, .v (.bool false)), (1, .v (.int .i64 (k : Int))), (3, .fsl 2 (rs.map encN)), (8, .bptr 12 0), (58, .fsl 1 (tabs.map encTb)), (59, .v (.int .i64 (tabs.length : Int))), (60, .v (.int .i64 (i : Int)))]) (fun _ => [(12, .box [.fsl 11 (P.map encP), .fsl 6 (C.map encC), .fsl 1 (tabs.map encTb)])]) (fun i => i ≤ tabs.length) (fun i => tabs.length - i) (fun s => ⟨rfl, rfl⟩) ?_ 0 ?_ (by repeat (first | exact trivial | refine ⟨rfl, ?_⟩)) (by repeat (first | exact trivial | refine ⟨rfl, ?_⟩)) rfl
     ·intro i hi
      refine WpG.seq ?_
      refine WpG.reg ?_
      refine G.bin rfl rfl rfl ?_
      refine WpOpsG.nil ?_
      change WpG _ _ _ _ _
      refine WpG.seq ?_
      refine WpG.cond rfl (fun hq7 => ?_) (fun hq7 => ?_)
      ·(try simp only [zN] at hq7)
       refine WpG.skip ?_
       change WpG _ _ _ _ _
       refine WpG.seq ?_
       refine WpG.block ?_
       refine WpG.seq ?_
       refine WpG.reg ?_
       refine G.iaddrN rfl rfl (List.getElem?_eq_getElem (by omega)) ?_
       refine G.load1F rfl rfl ?_
       refine G.mv rfl ?_
       refine WpOpsG.nil ?_
       change WpG _ _ _ _ _
       refine WpG.seq ?_
       refine WpG.reg ?_
       refine G.mv rfl ?_
       refine G.call0 rfl rfl (of_ok tabs[i] (by have := hTs _ (List.getElem_mem (l := tabs) (n := i) (by omega)); omega)) ?_
       rintro _ _ ⟨r, e, rfl, rfl, hg⟩
       refine ⟨rfl, ?_⟩
       change WpOpsG _ _ ((66, _) :: _) _ _
       have hg2 := hg.2
       refine G.mv rfl ?_
       refine G.ext rfl rfl ?_
       refine G.ext rfl rfl ?_
       refine G.mv rfl ?_
       refine G.mv rfl ?_
       refine WpOpsG.nil ?_
       change WpG _ _ _ _ _
       refine WpG.seq ?_
       refine WpG.reg ?_
       refine G.loadNB rfl rfl rfl ?_
       refine G.mv rfl ?_
       refine G.loadNB rfl rfl rfl ?_
       refine G.ckcall0 rfl rfl rfl (holds_ok C P (tabs.map encTb) r (by omega) (by omega) hPp (by omega) (fun x hx => (hg.1 x hx).1) (fun x hx => (hg.1 x hx).2) (by omega)) ?_
       rintro _ _ ⟨rfl, rfl⟩
       refine ⟨rfl, ?_⟩
       change WpOpsG _ _ ((71, _) :: _) _ _
       refine G.mv rfl ?_
       refine G.call0 rfl rfl (rholds_ok C P (tabs.map encTb) r (by omega) (by omega) hPp (by omega) (fun x hx => (hg.1 x hx).2) (by omega)) ?_
       rintro _ _ ⟨rfl, rfl⟩
       refine ⟨rfl, ?_⟩
       change WpOpsG _ _ ((74, _) :: _) _ _
       refine G.bin rfl rfl rfl ?_
       rw [bne_self_eq_false]
       refine G.mv rfl ?_
       refine WpOpsG.known 76 false rfl rfl ?_
       refine G.loadNB rfl rfl rfl ?_
       refine G.mv rfl ?_
       refine G.loadNB rfl rfl rfl ?_
       refine G.ckcall0 rfl rfl rfl (holds_ok C P (tabs.map encTb) rs (by omega) (by omega) hPp (by omega) hrN hr1 (by omega)) ?_
       rintro _ _ ⟨rfl, rfl⟩
       refine ⟨rfl, ?_⟩
       change WpOpsG _ _ ((79, _) :: _) _ _
       refine G.mv rfl ?_
       refine G.call0 rfl rfl (rholds_ok C P (tabs.map encTb) rs (by omega) (by omega) hPp (by omega) hr1 hrw) ?_
       rintro _ _ ⟨rfl, rfl⟩
       refine ⟨rfl, ?_⟩
       change WpOpsG _ _ ((82, _) :: _) _ _
       refine G.bin rfl rfl rfl ?_
       rw [bne_self_eq_false]
       refine G.pickF rfl rfl ?_
       refine WpOpsG.nil ?_
       change WpG _ _ _ _ _
       refine WpG.cond rfl (fun hq8 => absurd hq8 (by decide)) (fun hq8 => ?_)
       refine WpG.skip ?_
       change WpG _ _ _ _ _
       refine WpG.reg ?_
       refine G.addI rfl rfl (by omega) ?_
       refine G.mv rfl ?_
       refine WpOpsG.nil ?_
       exact ⟨i + 1, by omega, by omega, ⟨rfl, rfl, rfl, rfl, rfl, rfl, rfl, trivial⟩, ⟨rfl, trivial⟩, rfl⟩
      ·(try simp only [zN] at hq7)
       refine WpG.exit ?_
       change WpG _ _ _ _ _
       refine WpG.reg ?_
       refine G.mv rfl ?_
       refine G.addI rfl rfl (by omega) ?_
       refine G.mv rfl ?_
       refine WpOpsG.nil ?_
       exact ⟨k + 1, by omega, by omega, ⟨rfl, rfl, trivial⟩, trivial, rfl⟩
     ·exact Nat.zero_le _
   ·exact Nat.zero_le _
  ·(try simp only [zN] at hq1)
   refine WpG.exit ?_
   change WpG _ _ _ _ _
   refine WpG.seq ?_
   refine WpG.reg ?_
   refine G.call0 rfl rfl (nil1 (same9_ok [] 0 0 1 (by decide) (fun r hr => by cases hr) (fun r hr => by cases hr) (by decide +kernel) (by unfold i64; decide))) ?_
   rintro _ _ ⟨rfl, rfl⟩
   refine ⟨rfl, ?_⟩
   change WpOpsG _ _ ((86, _) :: _) _ _
   refine G.mv rfl ?_
   refine WpOpsG.known 87 true rfl rfl ?_
   refine G.build rfl ?_
   refine G.bsliceF rfl rfl rfl ?_
   change WpOpsG _ _ ((89, .fsl 2 (([⟨1, 4096⟩] : List Rn).map encN)) :: _) _ _
   refine G.call0 rfl rfl (same9_ok [⟨1, 4096⟩] 1 1 64 (by decide) (by unfold okN i64; decide) (by decide) one_wlen (by unfold i64; decide)) ?_
   rintro _ _ ⟨rfl, rfl⟩
   refine ⟨rfl, ?_⟩
   change WpOpsG _ _ ((90, _) :: _) _ _
   refine G.pickT rfl rfl ?_
   refine G.mv rfl ?_
   refine WpOpsG.known 92 true rfl rfl ?_
   refine G.call0 rfl rfl (known9_ok) ?_
   rintro _ _ ⟨rfl, rfl⟩
   refine ⟨rfl, ?_⟩
   change WpOpsG _ _ ((93, _) :: _) _ _
   refine G.pickT rfl rfl ?_
   refine G.mv rfl ?_
   refine WpOpsG.nil ?_
   change WpG _ _ _ _ _
   refine WpG.ret ?_
   refine ⟨_, [], rfl, (hasP_le (by repeat (first | exact trivial | refine ⟨rfl, ?_⟩))), rfl, rfl, rfl, ?_⟩
   exact ⟨rfl, rfl⟩
 ·exact Nat.zero_le _
end Go.AM.L9
