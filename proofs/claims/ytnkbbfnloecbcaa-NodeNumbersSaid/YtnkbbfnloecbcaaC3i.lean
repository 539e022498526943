/- Contracts of the functions that the statement reaches. No condition. -/
import Derived.Test.YtnkbbfnloecbcaaC3h
import Derived.Test.YtnkbbfnloecbcaaPLn
import Derived.Test.YtnkbbfnloecbcaaPLk
set_option linter.all false
set_option maxRecDepth 10000
namespace Go.AM.L3
open Go.AM.PL
theorem odd_ok (l : List Nd) (at_ what n : Int) (hl : l.length ≤ 2 ^ 40) (ha : i64 at_) (hw : i64 what) : WpCallG A 10 [.fsl 3 (l.map encD), .v (.int .i64 at_), .v (.int .i64 what), .v (.int .i64 n)] [] (fun v H => ∃ (full : Fl) (l2 : List Nd), l2.length ≤ l.length + 1 ∧ v = .osl 0 ∧ H = [(0, .arr full 3 (l2.map encD))]) := by
 refine WpCallG.intro g10 rfl rfl ?_
 unfold af10
 change WpG _ _ _ _ _
 refine WpG.seq ?_
 refine WpG.reg ?_
 refine G.mv rfl ?_
 refine WpOpsG.nil ?_
 change WpG _ _ _ _ _
 refine WpG.seq ?_
 refine WpG.reg ?_
 refine G.bslice (g := 0) rfl rfl rfl rfl ?_
 refine G.mv rfl ?_
 refine G.app (ds := l.map encD) rfl rfl rfl rfl trivial (by rw [List.length_map]; show (0 + l.length) * 24 ≤ 2 ^ 47; omega) ?_
 change WpOpsG _ _ _ ((0, .arr .yes 3 (l.map encD)) :: _) _
 refine G.mv rfl ?_
 refine WpOpsG.nil ?_
 change WpG _ _ _ _ _
 refine WpG.seq ?_
 refine WpG.seq ?_
 refine WpG.reg ?_
 refine G.mv rfl ?_
 refine G.lenM rfl ?_
 refine G.bin rfl rfl rfl ?_
 refine WpOpsG.nil ?_
 change WpG _ _ _ _ _
 refine WpG.cond rfl (fun hq1 => ?_) (fun hq1 => ?_)
 ·(try simp only [zN] at hq1)
  refine WpG.seq ?_
  refine WpG.reg ?_
  refine G.mv rfl ?_
  refine G.mv rfl ?_
  refine WpOpsG.nil ?_
  change WpG _ _ _ _ _
  refine WpG.ret ?_
  refine ⟨_, [(0, .arr .yes 3 ((l).map encD))], rfl, (hasP_le (by repeat (first | exact trivial | refine ⟨rfl, ?_⟩))), rfl, rfl, rfl, ?_⟩
  exact ⟨_, _, by first | omega | (simp only [List.length_set, List.length_append, List.length_cons, List.length_nil, List.length_take, List.length_drop]; omega), rfl, rfl⟩
 ·(try simp only [zN] at hq1)
  refine WpG.skip ?_
  change WpG _ _ _ _ _
  refine WpG.seq ?_
  refine WpG.reg ?_
  refine G.mv rfl ?_
  refine G.mv rfl ?_
  refine G.lenM rfl ?_
  refine G.subI rfl rfl (by omega) ?_
  rw [show (l.length : Int) - 1 = ((l.length - 1 : Nat) : Int) by omega]
  refine G.call0 rfl rfl (within_ok at_ 0 ((l.length - 1 : Nat) : Int) ha (by decide) (by omega) (by omega)) ?_
  rintro _ _ ⟨rfl, rfl⟩
  refine ⟨rfl, ?_⟩
  change WpOpsG _ _ ((22, _) :: _) _ _
  obtain ⟨k, hk, hk2⟩ := within_nat1 at_ (l.length - 1)
  rw [hk]
  refine G.mv rfl ?_
  refine WpOpsG.nil ?_
  change WpG _ _ _ _ _
  refine WpG.seq ?_
  refine WpG.seq ?_
  refine WpG.reg ?_
  refine G.mv rfl ?_
  refine G.call0 rfl rfl (within_ok what 0 6 hw (by decide) (by decide) (by decide)) ?_
  rintro _ _ ⟨rfl, rfl⟩
  refine ⟨rfl, ?_⟩
  change WpOpsG _ _ ((24, _) :: _) _ _
  obtain ⟨z, hz⟩ : ∃ z, within what 0 6 = z := ⟨_, rfl⟩
  rw [hz]
  refine WpOpsG.nil ?_
  change WpG _ _ _ _ _
  refine WpG.block ?_
  refine WpG.seq ?_
  refine WpG.reg ?_
  refine G.bin rfl rfl rfl ?_
  refine G.mv rfl ?_
  refine WpOpsG.nil ?_
  change WpG _ _ _ _ _
  refine WpG.cond rfl (fun hq2 => ?_) (fun hq2 => ?_)
  ·(try simp only [zN] at hq2)
   refine WpG.reg ?_
   refine G.mv rfl ?_
   refine G.mv rfl ?_
   refine G.mv rfl ?_
   refine G.iaddrO rfl rfl rfl (by omega) (by rw [List.length_map]; omega) ?_
   rw [Int.toNat_natCast]
   refine G.faddrE rfl ?_
   refine G.storeEM ({ (l.getD k ⟨0, 0, 0⟩) with k := n }) rfl rfl rfl (gd17 (⟨0, 0, 0⟩ : Nd) (by omega)) rfl rfl rfl rfl ?_
   refine WpOpsG.nil ?_
   change WpG _ _ _ _ _
   refine WpG.seq ?_
   refine WpG.reg ?_
   refine G.mv rfl ?_
   refine G.mv rfl ?_
   refine WpOpsG.nil ?_
   change WpG _ _ _ _ _
   refine WpG.ret ?_
   refine ⟨_, [(0, .arr .yes 3 ((l.set k { (l.getD k ⟨0, 0, 0⟩) with k := n }).map encD))], rfl, (hasP_le (by repeat (first | exact trivial | refine ⟨rfl, ?_⟩))), rfl, rfl, rfl, ?_⟩
   exact ⟨_, _, by first | omega | (simp only [List.length_set, List.length_append, List.length_cons, List.length_nil, List.length_take, List.length_drop]; omega), rfl, rfl⟩
  ·(try simp only [zN] at hq2)
   refine WpG.seq ?_
   refine WpG.reg ?_
   refine G.bin rfl rfl rfl ?_
   refine G.mv rfl ?_
   refine WpOpsG.nil ?_
   change WpG _ _ _ _ _
   refine WpG.cond rfl (fun hq3 => ?_) (fun hq3 => ?_)
   ·(try simp only [zN] at hq3)
    refine WpG.reg ?_
    refine G.mv rfl ?_
    refine G.mv rfl ?_
    refine G.mv rfl ?_
    refine G.iaddrO rfl rfl rfl (by omega) (by rw [List.length_map]; omega) ?_
    rw [Int.toNat_natCast]
    refine G.faddrE rfl ?_
    refine G.storeEM ({ (l.getD k ⟨0, 0, 0⟩) with p := n }) rfl rfl rfl (gd17 (⟨0, 0, 0⟩ : Nd) (by omega)) rfl rfl rfl rfl ?_
    refine WpOpsG.nil ?_
    change WpG _ _ _ _ _
    refine WpG.seq ?_
    refine WpG.reg ?_
    refine G.mv rfl ?_
    refine G.mv rfl ?_
    refine WpOpsG.nil ?_
    change WpG _ _ _ _ _
    refine WpG.ret ?_
    refine ⟨_, [(0, .arr .yes 3 ((l.set k { (l.getD k ⟨0, 0, 0⟩) with p := n }).map encD))], rfl, (hasP_le (by repeat (first | exact trivial | refine ⟨rfl, ?_⟩))), rfl, rfl, rfl, ?_⟩
    exact ⟨_, _, by first | omega | (simp only [List.length_set, List.length_append, List.length_cons, List.length_nil, List.length_take, List.length_drop]; omega), rfl, rfl⟩
   ·(try simp only [zN] at hq3)
    refine WpG.seq ?_
    refine WpG.seq ?_
    refine WpG.reg ?_
    refine G.bin rfl rfl rfl ?_
    refine G.mv rfl ?_
    refine WpOpsG.nil ?_
    change WpG _ _ _ _ _
    refine WpG.cond rfl (fun hq4 => ?_) (fun hq4 => ?_)
    ·(try simp only [zN] at hq4)
     refine WpG.skip ?_
     change WpG _ _ _ _ _
     refine WpG.cond rfl (fun hq5 => ?_) (fun hq5 => ?_)
     ·(try simp only [zN] at hq5)
      refine WpG.reg ?_
      refine G.mv rfl ?_
      refine G.mv rfl ?_
      refine G.mv rfl ?_
      refine G.iaddrO rfl rfl rfl (by omega) (by rw [List.length_map]; omega) ?_
      rw [Int.toNat_natCast]
      refine G.faddrE rfl ?_
      refine G.storeEM ({ (l.getD k ⟨0, 0, 0⟩) with n := n }) rfl rfl rfl (gd17 (⟨0, 0, 0⟩ : Nd) (by omega)) rfl rfl rfl rfl ?_
      refine WpOpsG.nil ?_
      change WpG _ _ _ _ _
      refine WpG.seq ?_
      refine WpG.reg ?_
      refine G.mv rfl ?_
      refine G.mv rfl ?_
      refine WpOpsG.nil ?_
      change WpG _ _ _ _ _
      refine WpG.ret ?_
      refine ⟨_, [(0, .arr .yes 3 ((l.set k { (l.getD k ⟨0, 0, 0⟩) with n := n }).map encD))], rfl, (hasP_le (by repeat (first | exact trivial | refine ⟨rfl, ?_⟩))), rfl, rfl, rfl, ?_⟩
      exact ⟨_, _, by first | omega | (simp only [List.length_set, List.length_append, List.length_cons, List.length_nil, List.length_take, List.length_drop]; omega), rfl, rfl⟩
     ·(try simp only [zN] at hq5)
      exfalso; omega
    ·(try simp only [zN] at hq4)
     refine WpG.reg ?_
     refine G.bin rfl rfl rfl ?_
     refine G.mv rfl ?_
     refine WpOpsG.nil ?_
     change WpG _ _ _ _ _
     refine WpG.cond rfl (fun hq6 => ?_) (fun hq6 => ?_)
     ·(try simp only [zN] at hq6)
      refine WpG.reg ?_
      refine G.mv rfl ?_
      refine G.mv rfl ?_
      refine G.mv rfl ?_
      refine G.iaddrO rfl rfl rfl (by omega) (by rw [List.length_map]; omega) ?_
      rw [Int.toNat_natCast]
      refine G.faddrE rfl ?_
      refine G.storeEM ({ (l.getD k ⟨0, 0, 0⟩) with n := n }) rfl rfl rfl (gd17 (⟨0, 0, 0⟩ : Nd) (by omega)) rfl rfl rfl rfl ?_
      refine WpOpsG.nil ?_
      change WpG _ _ _ _ _
      refine WpG.seq ?_
      refine WpG.reg ?_
      refine G.mv rfl ?_
      refine G.mv rfl ?_
      refine WpOpsG.nil ?_
      change WpG _ _ _ _ _
      refine WpG.ret ?_
      refine ⟨_, [(0, .arr .yes 3 ((l.set k { (l.getD k ⟨0, 0, 0⟩) with n := n }).map encD))], rfl, (hasP_le (by repeat (first | exact trivial | refine ⟨rfl, ?_⟩))), rfl, rfl, rfl, ?_⟩
      exact ⟨_, _, by first | omega | (simp only [List.length_set, List.length_append, List.length_cons, List.length_nil, List.length_take, List.length_drop]; omega), rfl, rfl⟩
     ·(try simp only [zN] at hq6)
      refine WpG.seq ?_
      refine WpG.reg ?_
      refine G.bin rfl rfl rfl ?_
      refine G.mv rfl ?_
      refine WpOpsG.nil ?_
      change WpG _ _ _ _ _
      refine WpG.cond rfl (fun hq7 => ?_) (fun hq7 => ?_)
      ·(try simp only [zN] at hq7)
       refine WpG.reg ?_
       refine G.mv rfl ?_
       refine G.mv rfl ?_
       refine G.del rfl rfl rfl rfl rfl (by rw [List.length_map]; omega) (by omega) (by decide) rfl ?_
       rw [← List.map_take, ← List.map_drop, ← List.map_append]
       skip
       skip
       skip
       skip
       skip
       refine G.mv rfl ?_
       refine WpOpsG.nil ?_
       change WpG _ _ _ _ _
       refine WpG.seq ?_
       refine WpG.reg ?_
       refine G.mv rfl ?_
       refine G.mv rfl ?_
       refine WpOpsG.nil ?_
       change WpG _ _ _ _ _
       refine WpG.ret ?_
       refine ⟨_, [(0, .arr .no 3 ((l.take k ++ l.drop (k + 1)).map encD))], rfl, (hasP_le (by repeat (first | exact trivial | refine ⟨rfl, ?_⟩))), rfl, rfl, rfl, ?_⟩
       exact ⟨_, _, by first | omega | (simp only [List.length_set, List.length_append, List.length_cons, List.length_nil, List.length_take, List.length_drop]; omega), rfl, rfl⟩
      ·(try simp only [zN] at hq7)
       refine WpG.seq ?_
       refine WpG.reg ?_
       refine G.bin rfl rfl rfl ?_
       refine G.mv rfl ?_
       refine WpOpsG.nil ?_
       change WpG _ _ _ _ _
       refine WpG.cond rfl (fun hq8 => ?_) (fun hq8 => ?_)
       ·(try simp only [zN] at hq8)
        refine WpG.reg ?_
        refine G.mv rfl ?_
        refine G.mv rfl ?_
        refine G.mv rfl ?_
        refine G.iaddrO rfl rfl rfl (by omega) (by rw [List.length_map]; omega) ?_
        rw [Int.toNat_natCast]
        refine G.loadNEM rfl rfl (gd17 (⟨0, 0, 0⟩ : Nd) (by omega)) rfl ?_
        refine G.bsliceF rfl rfl rfl ?_
        change WpOpsG _ _ ((76, .fsl 3 (([(l.getD k ⟨0, 0, 0⟩)] : List Nd).map encD)) :: _) _ _
        refine G.app (ds := ([(l.getD k ⟨0, 0, 0⟩)] : List Nd).map encD) rfl rfl rfl rfl trivial (by rw [List.length_map]; show (l.length + 1) * 24 ≤ 2 ^ 47; omega) ?_
        rw [← List.map_append]
        refine G.mv rfl ?_
        refine WpOpsG.nil ?_
        change WpG _ _ _ _ _
        refine WpG.seq ?_
        refine WpG.reg ?_
        refine G.mv rfl ?_
        refine G.mv rfl ?_
        refine WpOpsG.nil ?_
        change WpG _ _ _ _ _
        refine WpG.ret ?_
        refine ⟨_, [(0, .arr .yes 3 ((l ++ [(l.getD k ⟨0, 0, 0⟩)]).map encD))], rfl, (hasP_le (by repeat (first | exact trivial | refine ⟨rfl, ?_⟩))), rfl, rfl, rfl, ?_⟩
        exact ⟨_, _, by first | omega | (simp only [List.length_set, List.length_append, List.length_cons, List.length_nil, List.length_take, List.length_drop]; omega), rfl, rfl⟩
       ·(try simp only [zN] at hq8)
        refine WpG.reg ?_
        refine G.mv rfl ?_
        refine G.mv rfl ?_
        refine G.mv rfl ?_
        refine G.mv rfl ?_
        refine G.iaddrO rfl rfl rfl (by omega) (by rw [List.length_map]; omega) ?_
        rw [Int.toNat_natCast]
        refine G.faddrE rfl ?_
        refine G.load1EM rfl rfl (gd17 (⟨0, 0, 0⟩ : Nd) (by omega)) rfl ?_
        refine G.mv rfl ?_
        refine G.andK rfl rfl ?_
        refine G.bin rfl rfl rfl ?_
        change WpOpsG _ _ ((34, .v (.int .i64 (IntKind.i64.wrap ((l.getD k ⟨0, 0, 0⟩).n + andI .i64 n 7)))) :: _) _ _
        refine G.iaddrO rfl rfl rfl (by omega) (by rw [List.length_map]; omega) ?_
        rw [Int.toNat_natCast]
        refine G.faddrE rfl ?_
        refine G.storeEM ({ (l.getD k ⟨0, 0, 0⟩) with n := IntKind.i64.wrap ((l.getD k ⟨0, 0, 0⟩).n + andI .i64 n 7) }) rfl rfl rfl (gd17 (⟨0, 0, 0⟩ : Nd) (by omega)) rfl rfl rfl rfl ?_
        refine WpOpsG.nil ?_
        change WpG _ _ _ _ _
        refine WpG.seq ?_
        refine WpG.reg ?_
        refine G.mv rfl ?_
        refine G.mv rfl ?_
        refine WpOpsG.nil ?_
        change WpG _ _ _ _ _
        refine WpG.ret ?_
        refine ⟨_, [(0, .arr .yes 3 ((l.set k { (l.getD k ⟨0, 0, 0⟩) with n := IntKind.i64.wrap ((l.getD k ⟨0, 0, 0⟩).n + andI .i64 n 7) }).map encD))], rfl, (hasP_le (by repeat (first | exact trivial | refine ⟨rfl, ?_⟩))), rfl, rfl, rfl, ?_⟩
        exact ⟨_, _, by first | omega | (simp only [List.length_set, List.length_append, List.length_cons, List.length_nil, List.length_take, List.length_drop]; omega), rfl, rfl⟩
set_option maxHeartbeats 1000000 in
theorem nodeNumbers_ok  : WpCallG A 3 [] [] (fun v H => v = .v (.bool true) ∧ H = []) := by
 refine WpCallG.intro g3 rfl rfl ?_
 unfold af3
 change WpG _ _ _ _ _
 refine WpG.seq ?_
 refine WpG.reg ?_
 refine G.mv rfl ?_
 refine WpOpsG.nil ?_
 change WpG _ _ _ _ _
 refine WpG.seq ?_
 refine WpG.seq ?_
 refine WpG.reg ?_
 refine G.mv rfl ?_
 refine WpOpsG.nil ?_
 change WpG _ _ _ _ _
 refine WpG.block ?_
 refine WpG.loop (S := Nat) (fun k => [(1, .v (.int .i64 (k : Int)))]) (fun _ => []) (fun k => k ≤ 60) (fun k => 60 - k) (fun s => ⟨rfl, rfl⟩) ?_ 0 ?_ (by repeat (first | exact trivial | refine ⟨rfl, ?_⟩)) (by repeat (first | exact trivial | refine ⟨rfl, ?_⟩)) rfl
 ·intro k hk
  refine WpG.seq ?_
  refine WpG.seq ?_
  refine WpG.reg ?_
  refine G.mv rfl ?_
  refine G.bin rfl rfl rfl ?_
  refine WpOpsG.nil ?_
  change WpG _ _ _ _ _
  refine WpG.cond rfl (fun hq1 => ?_) (fun hq1 => ?_)
  ·(try simp only [zN] at hq1)
   refine WpG.skip ?_
   change WpG _ _ _ _ _
   refine WpG.seq ?_
   refine WpG.block ?_
   refine WpG.seq ?_
   refine WpG.reg ?_
   refine G.mv rfl ?_
   refine G.call0 rfl rfl ((tape_ok k (by omega)).ren [(0, 20)]) ?_
   rintro _ _ ⟨_, _, ⟨rfl, rfl⟩, rfl, rfl⟩
   change newOk _ _ [(20, _)] = true ∧ _
   refine ⟨rfl, ?_⟩
   change WpOpsG _ _ ((17, .osl 20) :: _) ([(20, .arr .yes 1 ((tapeL 23 k 400).map encK))] ++ _) _
   refine WpOpsG.freeze 20 rfl ?_
   refine G.build rfl ?_
   refine G.box (g := 11) rfl rfl rfl ?_
   change WpOpsG _ _ _ ((11, tbox (tapeL 23 k 400) 0) :: _) _
   refine G.mv rfl ?_
   refine G.remN rfl rfl (by omega) (by omega) ?_
   rw [show (k : Int) % 7 = ((k % 7 : Nat) : Int) by omega]
   refine G.call (P := [(11, tbox (tapeL 23 k 400) 0)]) rfl (by repeat (first | exact trivial | refine ⟨rfl, ?_⟩)) rfl rfl ((table6_ok (tapeL 23 k 400) 0 (k % 7) 3 (by rw [tapeL_len]; decide) tapeL_i64 (Nat.zero_le _) (by decide) (by omega)).ren [(0, 11), (2, 21)]) ?_
   rintro _ _ ⟨_, _, ⟨x, ks, z, hx, _, rfl, rfl⟩, rfl, rfl⟩
   change newOk _ _ [(21, _), (11, tbox (tapeL 23 k 400) z)] = true ∧ _
   refine ⟨rfl, ?_⟩
   change WpOpsG _ _ ((22, .osl 21) :: _) ([(21, .arr .yes 3 ((Fo.enc (Fo.one x ks)).map encD)), (11, tbox (tapeL 23 k 400) z)] ++ _) _
   have hlx := Fo.tb_len6 hx (by omega)
   obtain ⟨l, hl⟩ : ∃ l, Fo.enc (Fo.one x ks) = l := ⟨_, rfl⟩
   rw [hl] at hlx ⊢
   refine WpOpsG.freeze 21 rfl ?_
   refine G.mv rfl ?_
   refine WpOpsG.nil ?_
   change WpG _ _ _ _ _
   refine WpG.seq ?_
   refine WpG.seq ?_
   refine WpG.reg ?_
   refine G.mv rfl ?_
   refine G.lenM rfl ?_
   refine G.bin rfl rfl rfl ?_
   refine WpOpsG.nil ?_
   change WpG _ _ _ _ _
   refine WpG.cond rfl (fun hq2 => ?_) (fun hq2 => ?_)
   ·(try simp only [zN] at hq2)
    refine WpG.exit ?_
    change WpG _ _ _ _ _
    refine WpG.reg ?_
    refine G.mv rfl ?_
    refine G.addI rfl rfl (by omega) ?_
    refine G.mv rfl ?_
    refine WpOpsG.nil ?_
    exact ⟨k + 1, by omega, by omega, ⟨rfl, trivial⟩, trivial, rfl⟩
   ·(try simp only [zN] at hq2)
    refine WpG.skip ?_
    change WpG _ _ _ _ _
    refine WpG.seq ?_
    refine WpG.seq ?_
    refine WpG.reg ?_
    refine G.mv rfl ?_
    refine G.mv rfl ?_
    refine G.call0 rfl rfl (same3_ok l (k : Int) (by omega) (by omega)) ?_
    rintro _ _ ⟨rfl, rfl⟩
    refine ⟨rfl, ?_⟩
    change WpOpsG _ _ ((28, _) :: _) _ _
    refine G.un rfl rfl ?_
    refine WpOpsG.nil ?_
    change WpG _ _ _ _ _
    refine WpG.cond rfl (fun hq3 => absurd hq3 (by decide)) (fun hq3 => ?_)
    refine WpG.skip ?_
    change WpG _ _ _ _ _
    refine WpG.seq ?_
    refine WpG.reg ?_
    refine G.mv rfl ?_
    refine WpOpsG.nil ?_
    change WpG _ _ _ _ _
    refine WpG.block ?_
    refine WpG.loop (S := Nat) (fun w => [(1, .v (.int .i64 (k : Int))), (2, .fsl 3 (l.map encD)), (3, .v (.int .i64 (w : Int)))]) (fun _ => []) (fun w => w ≤ 7) (fun w => 7 - w) (fun s => ⟨rfl, rfl⟩) ?_ 0 ?_ (by repeat (first | exact trivial | refine ⟨rfl, ?_⟩)) (by repeat (first | exact trivial | refine ⟨rfl, ?_⟩)) rfl
    ·intro w hw
     refine WpG.seq ?_
     refine WpG.seq ?_
     refine WpG.reg ?_
     refine G.mv rfl ?_
     refine G.bin rfl rfl rfl ?_
     refine WpOpsG.nil ?_
     change WpG _ _ _ _ _
     refine WpG.cond rfl (fun hq4 => ?_) (fun hq4 => ?_)
     ·(try simp only [zN] at hq4)
      refine WpG.skip ?_
      change WpG _ _ _ _ _
      refine WpG.seq ?_
      refine WpG.block ?_
      refine WpG.seq ?_
      refine WpG.reg ?_
      refine G.bsliceF rfl rfl rfl ?_
      change WpOpsG _ _ ((34, .fsl 1 (nums3.map encK)) :: _) _ _
      refine G.lenM rfl ?_
      refine G.mv rfl ?_
      refine WpOpsG.nil ?_
      change WpG _ _ _ _ _
      refine WpG.block ?_
      refine WpG.loop (S := Nat) (fun i => [(1, .v (.int .i64 (k : Int))), (2, .fsl 3 (l.map encD)), (3, .v (.int .i64 (w : Int))), (34, .fsl 1 (nums3.map encK)), (35, .v (.int .i64 11)), (36, .v (.int .i64 (i : Int)))]) (fun _ => []) (fun i => i ≤ 11) (fun i => 11 - i) (fun s => ⟨rfl, rfl⟩) ?_ 0 ?_ (by repeat (first | exact trivial | refine ⟨rfl, ?_⟩)) (by repeat (first | exact trivial | refine ⟨rfl, ?_⟩)) rfl
      ·intro i hi
       refine WpG.seq ?_
       refine WpG.reg ?_
       refine G.bin rfl rfl rfl ?_
       refine WpOpsG.nil ?_
       change WpG _ _ _ _ _
       refine WpG.seq ?_
       refine WpG.cond rfl (fun hq5 => ?_) (fun hq5 => ?_)
       ·(try simp only [zN] at hq5)
        refine WpG.skip ?_
        change WpG _ _ _ _ _
        refine WpG.seq ?_
        refine WpG.block ?_
        refine WpG.seq ?_
        refine WpG.reg ?_
        refine G.iaddrM rfl rfl (by omega) (gd17 (0 : Int) (by show _ < 11; omega)) ?_
        rw [Int.toNat_natCast]
        refine G.load1F rfl rfl ?_
        obtain ⟨n, hn⟩ : ∃ n, nums3.getD i 0 = n := ⟨_, rfl⟩
        rw [hn]
        refine G.mv rfl ?_
        refine WpOpsG.nil ?_
        change WpG _ _ _ _ _
        refine WpG.seq ?_
        refine WpG.reg ?_
        refine G.mv rfl ?_
        refine G.mv rfl ?_
        refine G.mv rfl ?_
        refine G.mv rfl ?_
        refine G.call0 rfl rfl ((odd_ok l (k : Int) (w : Int) n (by omega) (by unfold i64; omega) (by unfold i64; omega)).ren [(0, 22)]) ?_
        rintro _ _ ⟨_, _, ⟨full, l2, hl2, rfl, rfl⟩, rfl, rfl⟩
        change newOk _ _ [(22, _)] = true ∧ _
        refine ⟨rfl, ?_⟩
        change WpOpsG _ _ ((44, .osl 22) :: _) ([(22, .arr full 3 (l2.map encD))] ++ _) _
        refine WpOpsG.freeze 22 rfl ?_
        refine G.mv rfl ?_
        refine G.call0 rfl rfl (same3_ok l2 (k : Int) (by omega) (by omega)) ?_
        rintro _ _ ⟨rfl, rfl⟩
        refine ⟨rfl, ?_⟩
        change WpOpsG _ _ ((46, _) :: _) _ _
        refine G.un rfl rfl ?_
        refine WpOpsG.nil ?_
        change WpG _ _ _ _ _
        refine WpG.cond rfl (fun hq6 => absurd hq6 (by decide)) (fun hq6 => ?_)
        refine WpG.skip ?_
        change WpG _ _ _ _ _
        refine WpG.reg ?_
        refine G.addI rfl rfl (by omega) ?_
        refine G.mv rfl ?_
        refine WpOpsG.nil ?_
        exact ⟨i + 1, by omega, by omega, ⟨rfl, rfl, rfl, rfl, rfl, rfl, trivial⟩, trivial, rfl⟩
       ·(try simp only [zN] at hq5)
        refine WpG.exit ?_
        change WpG _ _ _ _ _
        refine WpG.reg ?_
        refine G.mv rfl ?_
        refine G.addI rfl rfl (by omega) ?_
        refine G.mv rfl ?_
        refine WpOpsG.nil ?_
        exact ⟨w + 1, by omega, by omega, ⟨rfl, rfl, rfl, trivial⟩, trivial, rfl⟩
      ·exact Nat.zero_le _
     ·(try simp only [zN] at hq4)
      refine WpG.exit ?_
      change WpG _ _ _ _ _
      refine WpG.reg ?_
      refine G.mv rfl ?_
      refine G.addI rfl rfl (by omega) ?_
      refine G.mv rfl ?_
      refine WpOpsG.nil ?_
      exact ⟨k + 1, by omega, by omega, ⟨rfl, trivial⟩, trivial, rfl⟩
    ·exact Nat.zero_le _
  ·(try simp only [zN] at hq1)
   refine WpG.exit ?_
   change WpG _ _ _ _ _
   refine WpG.seq ?_
   refine WpG.seq ?_
   refine WpG.reg ?_
   refine G.mv rfl ?_
   refine WpOpsG.nil ?_
   change WpG _ _ _ _ _
   refine WpG.block ?_
   refine WpG.loop (S := Nat) (fun d => [(6, .v (.int .i64 (d : Int)))]) (fun _ => []) (fun d => 1 ≤ d ∧ d ≤ 19) (fun d => 19 - d) (fun s => ⟨rfl, rfl⟩) ?_ 1 ?_ (by repeat (first | exact trivial | refine ⟨rfl, ?_⟩)) (by repeat (first | exact trivial | refine ⟨rfl, ?_⟩)) rfl
   ·intro d hd
    refine WpG.seq ?_
    refine WpG.seq ?_
    refine WpG.reg ?_
    refine G.mv rfl ?_
    refine G.bin rfl rfl rfl ?_
    refine WpOpsG.nil ?_
    change WpG _ _ _ _ _
    refine WpG.cond rfl (fun hq7 => ?_) (fun hq7 => ?_)
    ·(try simp only [zN] at hq7)
     refine WpG.skip ?_
     change WpG _ _ _ _ _
     refine WpG.seq ?_
     refine WpG.block ?_
     refine WpG.seq ?_
     refine WpG.reg ?_
     refine G.mv rfl ?_
     refine WpOpsG.nil ?_
     change WpG _ _ _ _ _
     refine WpG.seq ?_
     refine WpG.seq ?_
     refine WpG.reg ?_
     refine G.mv rfl ?_
     refine WpOpsG.nil ?_
     change WpG _ _ _ _ _
     refine WpG.block ?_
     refine WpG.ownNil (g := 21) (k := 7) (w := 3) rfl rfl ?_
     refine WpG.loop (S := Nat × List Nd) (fun s => [(6, .v (.int .i64 (d : Int))), (7, .osl 21), (8, .v (.int .i64 (s.1 : Int)))]) (fun s => [(21, .arr .yes 3 (s.2.map encD))]) (fun s => s.2.length ≤ s.1 ∧ s.1 ≤ 19) (fun s => 19 - s.1) (fun s => ⟨rfl, rfl⟩) ?_ (1, []) ?_ (by repeat (first | exact trivial | refine ⟨rfl, ?_⟩)) (by repeat (first | exact trivial | refine ⟨rfl, ?_⟩)) rfl
     ·rintro ⟨i, L⟩ ⟨hL, hi⟩
      dsimp only at hL hi ⊢
      refine WpG.seq ?_
      refine WpG.seq ?_
      refine WpG.reg ?_
      refine G.mv rfl ?_
      refine G.mv rfl ?_
      refine G.bin rfl rfl rfl ?_
      refine WpOpsG.nil ?_
      change WpG _ _ _ _ _
      refine WpG.cond rfl (fun hq8 => ?_) (fun hq8 => ?_)
      ·(try simp only [zN] at hq8)
       refine WpG.skip ?_
       change WpG _ _ _ _ _
       refine WpG.seq ?_
       refine WpG.block ?_
       refine WpG.reg ?_
       refine G.mv rfl ?_
       refine G.bsliceF rfl rfl rfl ?_
       change WpOpsG _ _ ((59, .fsl 1 (([3, 4] : List Int).map encK)) :: _) _ _
       refine G.mv rfl ?_
       refine G.remN rfl rfl (by omega) (by omega) ?_
       rw [show (i : Int) % 2 = ((i % 2 : Nat) : Int) by omega]
       refine G.iaddrM rfl rfl (by omega) (gd17 (0 : Int) (by show _ < 2; omega)) ?_
       rw [Int.toNat_natCast]
       refine G.load1F rfl rfl ?_
       refine G.build rfl ?_
       refine G.bsliceF rfl rfl rfl ?_
       change WpOpsG _ _ ((65, .fsl 3 (([⟨([3, 4] : List Int).getD (i % 2) 0, 0, 1⟩] : List Nd).map encD)) :: _) _ _
       refine G.app (ds := ([⟨([3, 4] : List Int).getD (i % 2) 0, 0, 1⟩] : List Nd).map encD) rfl rfl rfl rfl trivial (by rw [List.length_map]; show (L.length + 1) * 24 ≤ 2 ^ 47; omega) ?_
       rw [← List.map_append]
       refine G.mv rfl ?_
       refine WpOpsG.nil ?_
       change WpG _ _ _ _ _
       refine WpG.reg ?_
       refine G.mv rfl ?_
       refine G.addI rfl rfl (by omega) ?_
       refine G.mv rfl ?_
       refine WpOpsG.nil ?_
       exact ⟨(i + 1, L ++ [⟨([3, 4] : List Int).getD (i % 2) 0, 0, 1⟩]), by show 19 - (i + 1) < 19 - i; omega, ⟨by dsimp only; rw [List.length_append]; show L.length + 1 ≤ _; omega, by dsimp only; omega⟩, ⟨rfl, rfl, rfl, trivial⟩, ⟨rfl, trivial⟩, rfl⟩
      ·(try simp only [zN] at hq8)
       refine WpG.exit ?_
       change WpG _ _ _ _ _
       refine WpG.seq ?_
       refine WpG.reg ?_
       refine G.mv rfl ?_
       refine G.build rfl ?_
       refine G.bsliceF rfl rfl rfl ?_
       change WpOpsG _ _ ((69, .fsl 3 (([⟨2, 0, 1⟩] : List Nd).map encD)) :: _) _ _
       refine G.app (ds := ([⟨2, 0, 1⟩] : List Nd).map encD) rfl rfl rfl rfl trivial (by rw [List.length_map]; show (L.length + 1) * 24 ≤ 2 ^ 47; omega) ?_
       rw [← List.map_append]
       refine WpOpsG.freeze 21 rfl ?_
       refine G.mv rfl ?_
       refine G.quoN rfl rfl (by omega) (by omega) ?_
       refine G.call0 rfl rfl (same3_ok (L ++ [(⟨2, 0, 1⟩ : Nd)]) ((d : Int) / 2) (by rw [List.length_append]; show L.length + 1 ≤ _; omega) (by omega)) ?_
       rintro _ _ ⟨rfl, rfl⟩
       refine ⟨rfl, ?_⟩
       change WpOpsG _ _ ((73, _) :: _) _ _
       refine G.un rfl rfl ?_
       refine WpOpsG.nil ?_
       change WpG _ _ _ _ _
       refine WpG.cond rfl (fun hq9 => absurd hq9 (by decide)) (fun hq9 => ?_)
       refine WpG.skip ?_
       change WpG _ _ _ _ _
       refine WpG.reg ?_
       refine G.mv rfl ?_
       refine G.addI rfl rfl (by omega) ?_
       refine G.mv rfl ?_
       refine WpOpsG.nil ?_
       exact ⟨d + 1, by omega, by omega, ⟨rfl, trivial⟩, trivial, rfl⟩
     ·exact ⟨by decide, by decide⟩
    ·(try simp only [zN] at hq7)
     refine WpG.exit ?_
     change WpG _ _ _ _ _
     refine WpG.seq ?_
     refine WpG.seq ?_
     refine WpG.reg ?_
     refine G.mv rfl ?_
     refine WpOpsG.nil ?_
     change WpG _ _ _ _ _
     refine WpG.block ?_
     refine WpG.loop (S := Nat) (fun n => [(9, .v (.int .i64 (n : Int)))]) (fun _ => []) (fun n => 1 ≤ n ∧ n ≤ 138) (fun n => 138 - n) (fun s => ⟨rfl, rfl⟩) ?_ 1 ?_ (by repeat (first | exact trivial | refine ⟨rfl, ?_⟩)) (by repeat (first | exact trivial | refine ⟨rfl, ?_⟩)) rfl
     ·intro n hn
      refine WpG.seq ?_
      refine WpG.seq ?_
      refine WpG.reg ?_
      refine G.mv rfl ?_
      refine G.bin rfl rfl rfl ?_
      refine WpOpsG.nil ?_
      change WpG _ _ _ _ _
      refine WpG.cond rfl (fun hq10 => ?_) (fun hq10 => ?_)
      ·(try simp only [zN] at hq10)
       refine WpG.skip ?_
       change WpG _ _ _ _ _
       refine WpG.seq ?_
       refine WpG.block ?_
       refine WpG.seq ?_
       refine WpG.reg ?_
       refine G.mv rfl ?_
       refine G.build rfl ?_
       refine G.bslice (g := 22) rfl rfl rfl rfl ?_
       refine G.mv rfl ?_
       refine WpOpsG.nil ?_
       change WpG _ _ _ _ _
       refine WpG.seq ?_
       refine WpG.seq ?_
       refine WpG.reg ?_
       refine G.mv rfl ?_
       refine WpOpsG.nil ?_
       change WpG _ _ _ _ _
       refine WpG.block ?_
       refine WpG.loop (S := Nat × List Nd) (fun s => [(9, .v (.int .i64 (n : Int))), (10, .osl 22), (11, .v (.int .i64 (s.1 : Int)))]) (fun s => [(22, .arr .yes 3 (s.2.map encD))]) (fun s => s.2.length ≤ s.1 + 1 ∧ s.1 ≤ n) (fun s => n - s.1) (fun s => ⟨rfl, rfl⟩) ?_ (0, [⟨3, 0, (n : Int)⟩]) ?_ (by repeat (first | exact trivial | refine ⟨rfl, ?_⟩)) (by repeat (first | exact trivial | refine ⟨rfl, ?_⟩)) rfl
       ·rintro ⟨i, L⟩ ⟨hL, hi⟩
        dsimp only at hL hi ⊢
        refine WpG.seq ?_
        refine WpG.seq ?_
        refine WpG.reg ?_
        refine G.mv rfl ?_
        refine G.mv rfl ?_
        refine G.bin rfl rfl rfl ?_
        refine WpOpsG.nil ?_
        change WpG _ _ _ _ _
        refine WpG.cond rfl (fun hq11 => ?_) (fun hq11 => ?_)
        ·(try simp only [zN] at hq11)
         refine WpG.skip ?_
         change WpG _ _ _ _ _
         refine WpG.seq ?_
         refine WpG.block ?_
         refine WpG.reg ?_
         refine G.mv rfl ?_
         refine G.mv rfl ?_
         refine G.remN rfl rfl (by omega) (by omega) ?_
         refine G.mv rfl ?_
         refine G.remN rfl rfl (by omega) (by omega) ?_
         refine G.addI rfl rfl (by omega) ?_
         refine G.build rfl ?_
         refine G.bsliceF rfl rfl rfl ?_
         change WpOpsG _ _ ((94, .fsl 3 (([⟨1, (i : Int) % 6, (i : Int) % 40 + 1⟩] : List Nd).map encD)) :: _) _ _
         refine G.app (ds := ([⟨1, (i : Int) % 6, (i : Int) % 40 + 1⟩] : List Nd).map encD) rfl rfl rfl rfl trivial (by rw [List.length_map]; show (L.length + 1) * 24 ≤ 2 ^ 47; omega) ?_
         rw [← List.map_append]
         refine G.mv rfl ?_
         refine WpOpsG.nil ?_
         change WpG _ _ _ _ _
         refine WpG.reg ?_
         refine G.mv rfl ?_
         refine G.addI rfl rfl (by omega) ?_
         refine G.mv rfl ?_
         refine WpOpsG.nil ?_
         exact ⟨(i + 1, L ++ [⟨1, (i : Int) % 6, (i : Int) % 40 + 1⟩]), by show n - (i + 1) < n - i; omega, ⟨by dsimp only; rw [List.length_append]; show L.length + 1 ≤ _; omega, by dsimp only; omega⟩, ⟨rfl, rfl, rfl, trivial⟩, ⟨rfl, trivial⟩, rfl⟩
        ·(try simp only [zN] at hq11)
         refine WpG.exit ?_
         change WpG _ _ _ _ _
         refine WpG.seq ?_
         refine WpG.freeze 22 rfl ?_
         refine WpG.reg ?_
         refine G.mv rfl ?_
         refine G.mv rfl ?_
         refine G.call0 rfl rfl (same3_ok L (n : Int) (by omega) (by omega)) ?_
         rintro _ _ ⟨rfl, rfl⟩
         refine ⟨rfl, ?_⟩
         change WpOpsG _ _ ((98, _) :: _) _ _
         refine G.un rfl rfl ?_
         refine WpOpsG.nil ?_
         change WpG _ _ _ _ _
         refine WpG.cond rfl (fun hq12 => absurd hq12 (by decide)) (fun hq12 => ?_)
         refine WpG.skip ?_
         change WpG _ _ _ _ _
         refine WpG.reg ?_
         refine G.mv rfl ?_
         refine G.addI rfl rfl (by omega) ?_
         refine G.mv rfl ?_
         refine WpOpsG.nil ?_
         exact ⟨n + 7, by omega, by omega, ⟨rfl, trivial⟩, trivial, rfl⟩
       ·exact ⟨Nat.le_refl _, Nat.zero_le _⟩
      ·(try simp only [zN] at hq10)
       refine WpG.exit ?_
       change WpG _ _ _ _ _
       refine WpG.seq ?_
       refine WpG.reg ?_
       refine G.build rfl ?_
       refine G.build rfl ?_
       refine G.build rfl ?_
       refine G.bsliceF rfl rfl rfl ?_
       change WpOpsG _ _ ((103, .fsl 3 (([⟨4, 0, 4611686018427387904⟩, ⟨4, 0, 4611686018427387904⟩, ⟨2, 0, 4611686018427387904⟩] : List Nd).map encD)) :: _) _ _
       refine G.call0 rfl rfl (same3_ok [⟨4, 0, 4611686018427387904⟩, ⟨4, 0, 4611686018427387904⟩, ⟨2, 0, 4611686018427387904⟩] 1 (by decide) (by decide)) ?_
       rintro _ _ ⟨rfl, rfl⟩
       refine ⟨rfl, ?_⟩
       change WpOpsG _ _ ((104, _) :: _) _ _
       refine G.mv rfl ?_
       refine WpOpsG.known 105 true rfl rfl ?_
       refine G.call0 rfl rfl (known3_ok) ?_
       rintro _ _ ⟨rfl, rfl⟩
       refine ⟨rfl, ?_⟩
       change WpOpsG _ _ ((106, _) :: _) _ _
       refine G.pickT rfl rfl ?_
       refine G.mv rfl ?_
       refine WpOpsG.nil ?_
       change WpG _ _ _ _ _
       refine WpG.ret ?_
       refine ⟨_, [], rfl, (hasP_le (by repeat (first | exact trivial | refine ⟨rfl, ?_⟩))), rfl, rfl, rfl, ?_⟩
       exact ⟨rfl, rfl⟩
     ·exact ⟨Nat.le_refl _, by decide⟩
   ·exact ⟨Nat.le_refl _, by decide⟩
 ·exact Nat.zero_le _
end Go.AM.L3
