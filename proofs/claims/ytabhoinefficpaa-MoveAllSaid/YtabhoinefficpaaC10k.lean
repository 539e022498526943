/- Contracts of the functions that the statement reaches. No condition. -/
import Derived.Test.YtabhoinefficpaaC10j
set_option linter.all false
set_option maxRecDepth 10000
namespace Go.AM.L10
open Go.AM.PL
set_option maxHeartbeats 1000000 in
theorem moveAll_ok (t : List Int) (ht : t.length ≤ 2 ^ 50) (hi : ∀ x ∈ t, i64 x) : WpCallG A 6 [.fsl 1 (t.map encK)] [] (fun v H => v = .v (.bool true) ∧ H = []) := by
 refine WpCallG.intro g6 rfl rfl ?_
 unfold af6
 change WpG _ _ _ _ _
 refine WpG.seq ?_
 refine WpG.reg ?_
 refine G.mv rfl ?_
 refine WpOpsG.nil ?_
 change WpG _ _ _ _ _
 refine WpG.seq ?_
 refine WpG.reg ?_
 refine G.mv rfl ?_
 refine G.build rfl ?_
 refine G.box (g := 11) rfl rfl rfl ?_
 change WpOpsG _ _ _ ((11, tbox t 0) :: _) _
 refine G.mv rfl ?_
 refine WpOpsG.nil ?_
 change WpG _ _ _ _ _
 refine WpG.seq ?_
 refine WpG.reg ?_
 refine G.mv rfl ?_
 refine G.call (P := [(11, tbox t 0)]) rfl (by repeat (first | exact trivial | refine ⟨rfl, ?_⟩)) rfl rfl ((config_okP t 0 ht hi (Nat.zero_le _)).ren [(0, 11)]) ?_
 rintro _ _ ⟨_, _, ⟨P, C, tabs, b0, hcf, hb0, rfl, rfl⟩, rfl, rfl⟩
 change newOk _ _ [(11, tbox t b0)] = true ∧ _
 refine ⟨rfl, ?_⟩
 change WpOpsG _ _ ((18, .agg [.fsl 11 (P.map encP), .fsl 6 (C.map encC), .fsl 1 (tabs.map encTb)]) :: _) ([(11, tbox t b0)] ++ _) _
 obtain ⟨⟨⟨hP1, hP4⟩, hPp⟩, ⟨hC20, hCs⟩, ⟨hT1, hT3⟩, hTs⟩ := hcf
 refine G.box (g := 12) rfl rfl rfl ?_
 refine G.storeB rfl rfl rfl rfl rfl rfl ?_
 refine WpOpsG.nil ?_
 change WpG _ _ _ _ _
 refine WpG.seq ?_
 refine WpG.reg ?_
 refine G.mv rfl ?_
 refine G.faddrB rfl ?_
 refine G.load1B rfl rfl rfl ?_
 refine G.lenM rfl ?_
 refine G.call (P := [(11, tbox t b0)]) rfl (by repeat (first | exact trivial | refine ⟨rfl, ?_⟩)) rfl rfl ((truns_ok t b0 (P.length : Int) 12 ht hi hb0 (by omega) (by decide)).ren [(0, 11)]) ?_
 rintro _ _ ⟨_, _, ⟨rfl, rfl⟩, rfl, rfl⟩
 change newOk _ _ [(11, tbox t _)] = true ∧ _
 refine ⟨rfl, ?_⟩
 change WpOpsG _ _ ((23, .fsl 2 ((tapeRuns t b0 (P.length : Int) 12).1.map encN)) :: _) ([(11, tbox t _)] ++ _) _
 have hr := tapeRuns_ok t b0 (P.length : Int) 12 (by omega) (by decide) hb0
 obtain ⟨rs, hrs⟩ : ∃ rs, rs = (tapeRuns t b0 (P.length : Int) 12).1 := ⟨_, rfl⟩
 rw [← hrs] at hr ⊢
 have hrl : rs.length ≤ 12 := by have := hr.2.2.1; omega
 have hrN : ∀ r ∈ rs, okN r := fun r hr2 => by
  have := hr.1 r hr2
  unfold okT at this
  unfold okN i64; omega
 have hrw : wlen rs ≤ 8192 := runs_wlen hr.1 (by omega)
 refine G.mv rfl ?_
 refine WpOpsG.nil ?_
 change WpG _ _ _ _ _
 refine WpG.seq ?_
 refine WpG.reg ?_
 refine G.loadNB rfl rfl rfl ?_
 refine G.call0 rfl rfl (rdep_ok P C (tabs.map encTb) (by omega) (by omega)) ?_
 rintro _ _ ⟨rfl, rfl⟩
 refine ⟨rfl, ?_⟩
 change WpOpsG _ _ ((25, _) :: _) _ _
 change WpOpsG _ _ ((25, .fsl 1 ((matF P.length (depG P C)).map encBs)) :: _) _ _
 have hdl : (matF P.length (depG P C)).length ≤ 4 := by rw [matF_len]; omega
 have hdr : ∀ r ∈ (matF P.length (depG P C)), r.length = (matF P.length (depG P C)).length := fun r hr2 => by rw [matF_rows r hr2, matF_len]
 obtain ⟨dep, hdep⟩ : ∃ d, (matF P.length (depG P C)) = d := ⟨_, rfl⟩
 rw [hdep] at hdl hdr ⊢
 refine G.mv rfl ?_
 refine WpOpsG.nil ?_
 change WpG _ _ _ _ _
 refine WpG.seq ?_
 refine WpG.reg ?_
 refine G.mv rfl ?_
 refine G.mv rfl ?_
 refine G.call0 rfl rfl (all_ok rs dep (by omega) (by omega) (fun r hr2 => by have := hdr r hr2; omega)) ?_
 rintro _ _ ⟨rfl, rfl⟩
 refine ⟨rfl, ?_⟩
 change WpOpsG _ _ ((28, _) :: _) _ _
 have hall := allM_len (l := rs) (dep := dep) (rs).length
 have hall2 : 2 * (rs).length * (rs).length ≤ 2 * 16 * 16 := Nat.mul_le_mul (by omega) (by omega)
 have hall3 : (allV rs dep).length ≤ 2 * 16 * 16 := Nat.le_trans hall hall2
 refine G.mv rfl ?_
 refine WpOpsG.nil ?_
 change WpG _ _ _ _ _
 refine WpG.seq ?_
 refine WpG.reg ?_
 refine G.mv rfl ?_
 refine WpOpsG.nil ?_
 change WpG _ _ _ _ _
 refine WpG.seq ?_
 refine WpG.seq ?_
 refine WpG.reg ?_
 refine G.mv rfl ?_
 refine G.lenM rfl ?_
 refine G.mv rfl ?_
 refine WpOpsG.nil ?_
 change WpG _ _ _ _ _
 refine WpG.block ?_
 refine WpG.loop (S := Nat × Nat) (fun s => [(2, .v (.bool false)), (5, .fsl 2 (rs.map encN)), (6, .fsl 1 (dep.map encBs)), (7, .fsl 3 ((allV rs dep).map encMv)), (8, .v (.int .i64 (s.2 : Int))), (30, .v (.int .i64 (rs.length : Int))), (31, .v (.int .i64 (s.1 : Int)))]) (fun _ => []) (fun s => s.1 ≤ rs.length ∧ s.2 = atM rs dep s.1 0) (fun s => rs.length - s.1) (fun s => ⟨rfl, rfl⟩) ?_ (0, 0) ?_ (by repeat (first | exact trivial | refine ⟨rfl, ?_⟩)) (by repeat (first | exact trivial | refine ⟨rfl, ?_⟩)) rfl
 ·rintro ⟨i, a⟩ ⟨hi0, hai⟩
  dsimp only at hi0 hai ⊢
  refine WpG.seq ?_
  refine WpG.reg ?_
  refine G.bin rfl rfl rfl ?_
  refine WpOpsG.nil ?_
  change WpG _ _ _ _ _
  refine WpG.seq ?_
  refine WpG.cond rfl (fun hq1 => ?_) (fun hq1 => ?_)
  ·(try simp only [zN] at hq1)
   refine WpG.skip ?_
   change WpG _ _ _ _ _
   refine WpG.seq ?_
   refine WpG.block ?_
   refine WpG.seq ?_
   refine WpG.reg ?_
   refine G.mv rfl ?_
   refine G.mv rfl ?_
   refine WpOpsG.nil ?_
   change WpG _ _ _ _ _
   refine WpG.seq ?_
   refine WpG.reg ?_
   refine G.mv rfl ?_
   refine G.lenM rfl ?_
   refine G.mv rfl ?_
   refine WpOpsG.nil ?_
   change WpG _ _ _ _ _
   refine WpG.block ?_
   refine WpG.loop (S := Nat × Nat) (fun s => [(2, .v (.bool false)), (5, .fsl 2 (rs.map encN)), (6, .fsl 1 (dep.map encBs)), (7, .fsl 3 ((allV rs dep).map encMv)), (8, .v (.int .i64 (s.2 : Int))), (9, .v (.int .i64 ((i : Nat) : Int))), (30, .v (.int .i64 (rs.length : Int))), (31, .v (.int .i64 (i : Int))), (35, .v (.int .i64 (rs.length : Int))), (36, .v (.int .i64 (s.1 : Int)))]) (fun _ => []) (fun s => s.1 ≤ rs.length ∧ s.2 = atM rs dep i s.1) (fun s => rs.length - s.1) (fun s => ⟨rfl, rfl⟩) ?_ (0, a) ?_ (by repeat (first | exact trivial | refine ⟨rfl, ?_⟩)) (by repeat (first | exact trivial | refine ⟨rfl, ?_⟩)) rfl
   ·rintro ⟨j, a⟩ ⟨hj0, haj⟩
    dsimp only at hj0 haj ⊢
    refine WpG.seq ?_
    refine WpG.reg ?_
    refine G.bin rfl rfl rfl ?_
    refine WpOpsG.nil ?_
    change WpG _ _ _ _ _
    refine WpG.seq ?_
    refine WpG.cond rfl (fun hq2 => ?_) (fun hq2 => ?_)
    ·(try simp only [zN] at hq2)
     refine WpG.skip ?_
     change WpG _ _ _ _ _
     refine WpG.seq ?_
     refine WpG.block ?_
     refine WpG.seq ?_
     refine WpG.reg ?_
     refine G.mv rfl ?_
     refine G.mv rfl ?_
     refine WpOpsG.nil ?_
     change WpG _ _ _ _ _
     refine WpG.seq ?_
     refine WpG.reg ?_
     refine G.bsliceF rfl rfl rfl ?_
     change WpOpsG _ _ ((39, .fsl 1 (([false, true] : List Bool).map encO)) :: _) _ _
     refine G.lenM rfl ?_
     refine G.mv rfl ?_
     refine WpOpsG.nil ?_
     change WpG _ _ _ _ _
     refine WpG.block ?_
     refine WpG.loop (S := Nat × Nat) (fun s => [(2, .v (.bool false)), (5, .fsl 2 (rs.map encN)), (6, .fsl 1 (dep.map encBs)), (7, .fsl 3 ((allV rs dep).map encMv)), (8, .v (.int .i64 (s.2 : Int))), (9, .v (.int .i64 ((i : Nat) : Int))), (10, .v (.int .i64 ((j : Nat) : Int))), (30, .v (.int .i64 (rs.length : Int))), (31, .v (.int .i64 (i : Int))), (35, .v (.int .i64 (rs.length : Int))), (36, .v (.int .i64 (j : Int))), (39, .fsl 1 (([false, true] : List Bool).map encO)), (40, .v (.int .i64 ((2 : Nat) : Int))), (41, .v (.int .i64 (s.1 : Int)))]) (fun _ => []) (fun s => s.1 ≤ 2 ∧ s.2 = atM rs dep i j + (if mayV rs dep (i : Int) (j : Int) = true then s.1 else 0)) (fun s => 2 - s.1) (fun s => ⟨rfl, rfl⟩) ?_ (0, a) ?_ (by repeat (first | exact trivial | refine ⟨rfl, ?_⟩)) (by repeat (first | exact trivial | refine ⟨rfl, ?_⟩)) rfl
     ·rintro ⟨k, a⟩ ⟨hk0, hak⟩
      dsimp only at hk0 hak ⊢
      refine WpG.seq ?_
      refine WpG.reg ?_
      refine G.bin rfl rfl rfl ?_
      refine WpOpsG.nil ?_
      change WpG _ _ _ _ _
      refine WpG.seq ?_
      refine WpG.cond rfl (fun hq3 => ?_) (fun hq3 => ?_)
      ·(try simp only [zN] at hq3)
       refine WpG.skip ?_
       change WpG _ _ _ _ _
       refine WpG.seq ?_
       refine WpG.block ?_
       refine WpG.seq ?_
       refine WpG.reg ?_
       refine G.iaddrM rfl rfl (by omega) (gd17 false (by show _ < 2; omega)) ?_
       rw [Int.toNat_natCast]
       refine G.load1F rfl rfl ?_
       refine G.mv rfl ?_
       refine WpOpsG.nil ?_
       change WpG _ _ _ _ _
       refine WpG.seq ?_
       refine WpG.reg ?_
       refine G.mv rfl ?_
       refine G.mv rfl ?_
       refine G.mv rfl ?_
       refine G.build rfl ?_
       refine G.box (g := 13) rfl rfl rfl ?_
       refine G.storeB rfl rfl rfl rfl rfl rfl ?_
       refine WpOpsG.nil ?_
       change WpG _ _ _ _ _
       refine WpG.seq ?_
       refine WpG.seq ?_
       refine WpG.reg ?_
       refine G.mv rfl ?_
       refine G.mv rfl ?_
       refine G.loadNB rfl rfl rfl ?_
       refine G.call0 rfl rfl (may_ok rs dep (i : Int) (j : Int) (([false, true] : List Bool).getD k false) (by omega) (by omega) (fun r hr2 => by have := hdr r hr2; omega)) ?_
       rintro _ _ ⟨rfl, rfl⟩
       refine ⟨rfl, ?_⟩
       change WpOpsG _ _ ((52, _) :: _) _ _
       refine G.un rfl rfl ?_
       refine WpOpsG.nil ?_
       change WpG _ _ _ _ _
       refine WpG.cond rfl (fun hq4 => ?_) (fun hq4 => ?_)
       ·(try simp only [zN] at hq4)
        have hmy := hq4
        refine WpG.exit ?_
        change WpG _ _ _ _ _
        refine WpG.reg ?_
        refine G.addI rfl rfl (by omega) ?_
        refine G.mv rfl ?_
        refine WpOpsG.nil ?_
        first
         | exact ⟨(k + 1, a), by show _ - (k + 1) < _ - k; omega, ⟨by dsimp only; omega, by dsimp only; rw [hak, if_neg (by rw [hmy]; decide), if_neg (by rw [hmy]; decide)]⟩, ⟨rfl, rfl, rfl, rfl, rfl, rfl, rfl, rfl, rfl, rfl, rfl, rfl, rfl, rfl, trivial⟩, trivial, rfl⟩
         | exact ⟨(k + 1, a + 1), by show _ - (k + 1) < _ - k; omega, ⟨by dsimp only; omega, by dsimp only; rw [hak, if_pos hmy]; rfl⟩, ⟨rfl, rfl, rfl, rfl, rfl, rfl, rfl, rfl, rfl, rfl, rfl, rfl, rfl, rfl, trivial⟩, trivial, rfl⟩
       ·(try simp only [zN] at hq4)
        have hmy := hq4
        refine WpG.skip ?_
        change WpG _ _ _ _ _
        refine WpG.seq ?_
        refine WpG.seq ?_
        rw [if_pos hmy] at hak
        have hget := all_atk hmy (show k < 2 by omega)
        rw [← hak] at hget
        have hgl := (List.getElem?_eq_some_iff.1 hget).1
        refine WpG.reg ?_
        refine G.mv rfl ?_
        refine G.mv rfl ?_
        refine G.lenM rfl ?_
        refine G.bin rfl rfl rfl ?_
        rw [decide_eq_false (by omega)]
        refine G.mv rfl ?_
        refine WpOpsG.known 58 false rfl rfl ?_
        refine G.mv rfl ?_
        refine G.mv rfl ?_
        refine G.iaddrM rfl rfl (by omega) (by rw [Int.toNat_natCast]; exact hget) ?_
        refine G.loadNF rfl rfl ?_
        refine G.loadNB rfl rfl rfl ?_
        refine G.beq rfl rfl rfl ?_
        simp only [beq_self_eq_true, Bool.and_self]
        refine G.pickF rfl rfl ?_
        refine WpOpsG.nil ?_
        change WpG _ _ _ _ _
        refine WpG.cond rfl (fun hq5 => absurd hq5 (by decide)) (fun hq5 => ?_)
        refine WpG.skip ?_
        change WpG _ _ _ _ _
        refine WpG.reg ?_
        refine G.mv rfl ?_
        refine G.addI rfl rfl (by omega) ?_
        refine G.mv rfl ?_
        refine WpOpsG.nil ?_
        change WpG _ _ _ _ _
        refine WpG.reg ?_
        refine G.addI rfl rfl (by omega) ?_
        refine G.mv rfl ?_
        refine WpOpsG.nil ?_
        first
         | exact ⟨(k + 1, a), by show _ - (k + 1) < _ - k; omega, ⟨by dsimp only; omega, by dsimp only; rw [hak, if_neg (by rw [hmy]; decide), if_neg (by rw [hmy]; decide)]⟩, ⟨rfl, rfl, rfl, rfl, rfl, rfl, rfl, rfl, rfl, rfl, rfl, rfl, rfl, rfl, trivial⟩, trivial, rfl⟩
         | exact ⟨(k + 1, a + 1), by show _ - (k + 1) < _ - k; omega, ⟨by dsimp only; omega, by dsimp only; rw [hak, if_pos hmy]; rfl⟩, ⟨rfl, rfl, rfl, rfl, rfl, rfl, rfl, rfl, rfl, rfl, rfl, rfl, rfl, rfl, trivial⟩, trivial, rfl⟩
      ·(try simp only [zN] at hq3)
       refine WpG.exit ?_
       change WpG _ _ _ _ _
       refine WpG.reg ?_
       refine G.addI rfl rfl (by omega) ?_
       refine G.mv rfl ?_
       refine WpOpsG.nil ?_
       refine ⟨(j + 1, a), by show _ - (j + 1) < _ - j; omega, ⟨by dsimp only; omega, ?_⟩, ⟨rfl, rfl, rfl, rfl, rfl, rfl, rfl, rfl, rfl, rfl, trivial⟩, trivial, rfl⟩
       obtain rfl : k = 2 := by omega
       dsimp only
       cases hmv : mayV rs dep (i : Int) (j : Int) with
       | true => rw [hmv] at hak; rw [hak, atM_T hmv]; rfl
       | false => rw [hmv] at hak; rw [hak, atM_F hmv]; rfl
     ·exact ⟨Nat.zero_le _, by dsimp only; rw [haj]; split <;> rfl⟩
    ·(try simp only [zN] at hq2)
     refine WpG.exit ?_
     change WpG _ _ _ _ _
     refine WpG.reg ?_
     refine G.addI rfl rfl (by omega) ?_
     refine G.mv rfl ?_
     refine WpOpsG.nil ?_
     refine ⟨(i + 1, a), by show _ - (i + 1) < _ - i; omega, ⟨by dsimp only; omega, ?_⟩, ⟨rfl, rfl, rfl, rfl, rfl, rfl, rfl, trivial⟩, trivial, rfl⟩
     obtain rfl : j = rs.length := by omega
     rw [haj, atM_next]
   ·exact ⟨Nat.zero_le _, hai⟩
  ·(try simp only [zN] at hq1)
   refine WpG.exit ?_
   change WpG _ _ _ _ _
   refine WpG.seq ?_
   obtain rfl : i = rs.length := by omega
   rw [hai, atM_end]
   refine WpG.reg ?_
   refine G.mv rfl ?_
   refine G.mv rfl ?_
   refine G.lenM rfl ?_
   refine G.bin rfl rfl rfl ?_
   rw [beq_self_eq_true]
   refine G.mv rfl ?_
   refine WpOpsG.known 75 true rfl rfl ?_
   refine G.call0 rfl rfl (known10_ok) ?_
   rintro _ _ ⟨rfl, rfl⟩
   refine ⟨rfl, ?_⟩
   change WpOpsG _ _ ((76, _) :: _) _ _
   refine G.pickT rfl rfl ?_
   refine G.mv rfl ?_
   refine WpOpsG.nil ?_
   change WpG _ _ _ _ _
   refine WpG.ret ?_
   refine ⟨_, [], rfl, (hasP_le (by repeat (first | exact trivial | refine ⟨rfl, ?_⟩))), rfl, rfl, rfl, ?_⟩
   exact ⟨rfl, rfl⟩
 ·exact ⟨Nat.zero_le _, rfl⟩
end Go.AM.L10
