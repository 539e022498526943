/- Contracts of the functions that the statement reaches. No condition. -/
import Derived.Test.YtabhoinefficpaaC10d
set_option linter.all false
set_option maxRecDepth 10000
namespace Go.AM.L10
open Go.AM.PL
theorem all_ok (l : List Rn) (dep : List (List Bool)) (hn : l.length ≤ 2 ^ 20) (hd : dep.length ≤ 2 ^ 50) (hd2 : ∀ r ∈ dep, r.length ≤ 2 ^ 50) : WpCallG A 16 [.fsl 2 (l.map encN), .fsl 1 (dep.map encBs)] [] (fun v H => v = .fsl 3 ((allV l dep).map encMv) ∧ H = []) := by
 refine WpCallG.intro g16 rfl rfl ?_
 unfold af16
 change WpG _ _ _ _ _
 refine WpG.seq ?_
 refine WpG.reg ?_
 refine G.mv rfl ?_
 refine WpOpsG.nil ?_
 change WpG _ _ _ _ _
 refine WpG.seq ?_
 refine WpG.reg ?_
 refine G.mv rfl ?_
 refine WpOpsG.nil ?_
 change WpG _ _ _ _ _
 refine WpG.seq ?_
 refine WpG.seq ?_
 refine WpG.reg ?_
 refine G.mv rfl ?_
 refine G.lenM rfl ?_
 refine G.mv rfl ?_
 refine WpOpsG.nil ?_
 change WpG _ _ _ _ _
 refine WpG.block ?_
 refine WpG.ownNil (g := 20) (k := 5) (w := 3) rfl rfl ?_
 refine WpG.loop (S := Nat) (fun i => [(0, .fsl 2 (l.map encN)), (1, .fsl 1 (dep.map encBs)), (5, .osl 20), (10, .v (.int .i64 (l.length : Int))), (11, .v (.int .i64 ((i : Nat) : Int)))]) (fun i => [(20, .arr .yes 3 ((allM l dep i).map encMv))]) (fun i => i ≤ l.length) (fun i => l.length - i) (fun s => ⟨rfl, rfl⟩) ?_ 0 ?_ (by repeat (first | exact trivial | refine ⟨rfl, ?_⟩)) (by repeat (first | exact trivial | refine ⟨rfl, ?_⟩)) rfl
 ·intro i hI
  refine WpG.seq ?_
  refine WpG.reg ?_
  refine G.bin rfl rfl rfl ?_
  refine WpOpsG.nil ?_
  change WpG _ _ _ _ _
  refine WpG.seq ?_
  refine WpG.cond rfl (fun hq1 => ?_) (fun hq1 => ?_)
  ·(try simp only [zN] at hq1)
   refine WpG.skip ?_
   change WpG _ _ _ _ _
   refine WpG.seq ?_
   refine WpG.block ?_
   refine WpG.seq ?_
   refine WpG.reg ?_
   refine G.mv rfl ?_
   refine G.mv rfl ?_
   refine WpOpsG.nil ?_
   change WpG _ _ _ _ _
   refine WpG.seq ?_
   refine WpG.reg ?_
   refine G.mv rfl ?_
   refine G.addI rfl rfl (by omega) ?_
   rw [show (i : Int) + 1 = ((i + 1 + 0 : Nat) : Int) by omega]
   refine G.mv rfl ?_
   refine WpOpsG.nil ?_
   change WpG _ _ _ _ _
   refine WpG.block ?_
   refine WpG.loop (S := Nat) (fun k => [(0, .fsl 2 (l.map encN)), (1, .fsl 1 (dep.map encBs)), (5, .osl 20), (6, .v (.int .i64 ((i : Nat) : Int))), (7, .v (.int .i64 ((i + 1 + k : Nat) : Int))), (10, .v (.int .i64 (l.length : Int))), (11, .v (.int .i64 ((i : Nat) : Int)))]) (fun k => [(20, .arr .yes 3 (((allM l dep i) ++ rowM l dep i k).map encMv))]) (fun k => k ≤ l.length - (i + 1)) (fun k => l.length - k) (fun s => ⟨rfl, rfl⟩) ?_ 0 ?_ (by repeat (first | exact trivial | refine ⟨rfl, ?_⟩)) ⟨by rw [show rowM l dep i 0 = [] from rfl, List.append_nil]; rfl, trivial⟩ rfl
   ·intro k hk
    refine WpG.seq ?_
    refine WpG.seq ?_
    refine WpG.reg ?_
    refine G.mv rfl ?_
    refine G.mv rfl ?_
    refine G.lenM rfl ?_
    refine G.bin rfl rfl rfl ?_
    refine WpOpsG.nil ?_
    change WpG _ _ _ _ _
    refine WpG.cond rfl (fun hq2 => ?_) (fun hq2 => ?_)
    ·(try simp only [zN] at hq2)
     refine WpG.skip ?_
     change WpG _ _ _ _ _
     refine WpG.seq ?_
     refine WpG.block ?_
     refine WpG.seq ?_
     refine WpG.reg ?_
     refine G.mv rfl ?_
     refine G.mv rfl ?_
     refine G.build rfl ?_
     refine G.box (g := 10) rfl rfl rfl ?_
     refine G.storeB rfl rfl rfl rfl rfl rfl ?_
     refine WpOpsG.nil ?_
     change WpG _ _ _ _ _
     refine WpG.seq ?_
     refine WpG.reg ?_
     refine G.mv rfl ?_
     refine G.mv rfl ?_
     refine G.loadNB rfl rfl rfl ?_
     refine G.call0 rfl rfl (may_ok l dep (i : Int) ((i + 1 + k : Nat) : Int) false (by omega) hd hd2) ?_
     rintro _ _ ⟨rfl, rfl⟩
     refine ⟨rfl, ?_⟩
     change WpOpsG _ _ ((28, _) :: _) _ _
     refine WpOpsG.nil ?_
     change WpG _ _ _ _ _
     refine WpG.cond rfl (fun hq3 => ?_) (fun hq3 => ?_)
     ·(try simp only [zN] at hq3)
      have hcm : mayV l dep (i : Int) ((i + 1 + k : Nat) : Int) = true := hq3
      have q1 := allM_len (l := l) (dep := dep) i
      have q2 := rowM_len (l := l) (dep := dep) (i := i) k
      have q3 : 2 * l.length * i ≤ 2 * 2 ^ 20 * 2 ^ 20 := Nat.mul_le_mul (by omega) (by omega)
      refine WpG.reg ?_
      refine G.mv rfl ?_
      refine G.loadNB rfl rfl rfl ?_
      refine G.mv rfl ?_
      refine G.mv rfl ?_
      refine G.build rfl ?_
      refine G.bsliceF rfl rfl rfl ?_
      change WpOpsG _ _ ((34, .fsl 3 (([⟨(i : Int), ((i + 1 + k : Nat) : Int), false⟩, ⟨(i : Int), ((i + 1 + k : Nat) : Int), true⟩] : List Mv).map encMv)) :: _) _ _
      refine G.app rfl rfl rfl rfl trivial (by rw [List.length_map, List.length_append]; show (_ + 2) * 24 ≤ 2 ^ 47; omega) ?_
      rw [← List.map_append]
      refine G.mv rfl ?_
      refine WpOpsG.nil ?_
      change WpG _ _ _ _ _
      refine WpG.reg ?_
      refine G.mv rfl ?_
      refine G.addI rfl rfl (by omega) ?_
      refine G.mv rfl ?_
      refine WpOpsG.nil ?_
      refine ⟨k + 1, by omega, by omega, ⟨rfl, rfl, rfl, rfl, ?_, rfl, rfl, trivial⟩, ⟨?_, trivial⟩, rfl⟩
      ·rw [show ((i + 1 + (k + 1) : Nat) : Int) = ((i + 1 + k : Nat) : Int) + 1 by omega]; rfl
      ·rw [rowM_snoc, ← List.append_assoc]
       unfold cellM
       first
        | (rw [if_neg hcm, List.append_nil]; rfl)
        | (rw [if_pos hcm]; rfl)
     ·(try simp only [zN] at hq3)
      have hcm : ¬ mayV l dep (i : Int) ((i + 1 + k : Nat) : Int) = true := by rw [hq3]; decide
      refine WpG.skip ?_
      change WpG _ _ _ _ _
      refine WpG.reg ?_
      refine G.mv rfl ?_
      refine G.addI rfl rfl (by omega) ?_
      refine G.mv rfl ?_
      refine WpOpsG.nil ?_
      refine ⟨k + 1, by omega, by omega, ⟨rfl, rfl, rfl, rfl, ?_, rfl, rfl, trivial⟩, ⟨?_, trivial⟩, rfl⟩
      ·rw [show ((i + 1 + (k + 1) : Nat) : Int) = ((i + 1 + k : Nat) : Int) + 1 by omega]; rfl
      ·rw [rowM_snoc, ← List.append_assoc]
       unfold cellM
       first
        | (rw [if_neg hcm, List.append_nil]; rfl)
        | (rw [if_pos hcm]; rfl)
    ·(try simp only [zN] at hq2)
     refine WpG.exit ?_
     change WpG _ _ _ _ _
     refine WpG.reg ?_
     refine G.addI rfl rfl (by omega) ?_
     refine G.mv rfl ?_
     refine WpOpsG.nil ?_
     refine ⟨i + 1, by omega, by omega, ⟨rfl, rfl, rfl, rfl, rfl, trivial⟩, ⟨?_, trivial⟩, rfl⟩
     rw [allM_snoc, show l.length - (i + 1) = k by omega]; rfl
   ·exact Nat.zero_le _
  ·(try simp only [zN] at hq1)
   refine WpG.exit ?_
   change WpG _ _ _ _ _
   refine WpG.seq ?_
   rw [show i = l.length by omega]
   refine WpG.freeze 20 rfl ?_
   refine WpG.reg ?_
   refine G.mv rfl ?_
   refine G.mv rfl ?_
   refine WpOpsG.nil ?_
   change WpG _ _ _ _ _
   refine WpG.ret ?_
   refine ⟨_, [], rfl, (hasP_le (by repeat (first | exact trivial | refine ⟨rfl, ?_⟩))), rfl, rfl, rfl, ?_⟩
   exact ⟨rfl, rfl⟩
 ·exact Nat.zero_le _
theorem rall_ok (l : List Rn) (dep : List (List Bool)) (hn : l.length ≤ 2 ^ 20) (hd : dep.length ≤ 2 ^ 50) (hsq : ∀ r ∈ dep, r.length = dep.length) : WpCallG A 26 [.fsl 2 (l.map encN), .fsl 1 (dep.map encBs)] [] (fun v H => v = .fsl 3 ((allV l dep).map encMv) ∧ H = []) := by
 refine WpCallG.intro g26 rfl rfl ?_
 unfold af26
 change WpG _ _ _ _ _
 refine WpG.seq ?_
 refine WpG.reg ?_
 refine G.mv rfl ?_
 refine WpOpsG.nil ?_
 change WpG _ _ _ _ _
 refine WpG.seq ?_
 refine WpG.reg ?_
 refine G.mv rfl ?_
 refine WpOpsG.nil ?_
 change WpG _ _ _ _ _
 refine WpG.seq ?_
 refine WpG.seq ?_
 refine WpG.reg ?_
 refine G.mv rfl ?_
 refine G.lenM rfl ?_
 refine G.mv rfl ?_
 refine WpOpsG.nil ?_
 change WpG _ _ _ _ _
 refine WpG.block ?_
 refine WpG.ownNil (g := 20) (k := 5) (w := 3) rfl rfl ?_
 refine WpG.loop (S := Nat) (fun i => [(0, .fsl 2 (l.map encN)), (1, .fsl 1 (dep.map encBs)), (5, .osl 20), (10, .v (.int .i64 (l.length : Int))), (11, .v (.int .i64 ((i : Nat) : Int)))]) (fun i => [(20, .arr .yes 3 ((allM l dep i).map encMv))]) (fun i => i ≤ l.length) (fun i => l.length - i) (fun s => ⟨rfl, rfl⟩) ?_ 0 ?_ (by repeat (first | exact trivial | refine ⟨rfl, ?_⟩)) (by repeat (first | exact trivial | refine ⟨rfl, ?_⟩)) rfl
 ·intro i hI
  refine WpG.seq ?_
  refine WpG.reg ?_
  refine G.bin rfl rfl rfl ?_
  refine WpOpsG.nil ?_
  change WpG _ _ _ _ _
  refine WpG.seq ?_
  refine WpG.cond rfl (fun hq1 => ?_) (fun hq1 => ?_)
  ·(try simp only [zN] at hq1)
   refine WpG.skip ?_
   change WpG _ _ _ _ _
   refine WpG.seq ?_
   refine WpG.block ?_
   refine WpG.seq ?_
   refine WpG.reg ?_
   refine G.mv rfl ?_
   refine G.mv rfl ?_
   refine WpOpsG.nil ?_
   change WpG _ _ _ _ _
   refine WpG.seq ?_
   refine WpG.reg ?_
   refine G.mv rfl ?_
   refine G.addI rfl rfl (by omega) ?_
   rw [show (i : Int) + 1 = ((i + 1 + 0 : Nat) : Int) by omega]
   refine G.mv rfl ?_
   refine WpOpsG.nil ?_
   change WpG _ _ _ _ _
   refine WpG.block ?_
   refine WpG.loop (S := Nat) (fun k => [(0, .fsl 2 (l.map encN)), (1, .fsl 1 (dep.map encBs)), (5, .osl 20), (6, .v (.int .i64 ((i : Nat) : Int))), (7, .v (.int .i64 ((i + 1 + k : Nat) : Int))), (10, .v (.int .i64 (l.length : Int))), (11, .v (.int .i64 ((i : Nat) : Int)))]) (fun k => [(20, .arr .yes 3 (((allM l dep i) ++ rowM l dep i k).map encMv))]) (fun k => k ≤ l.length - (i + 1)) (fun k => l.length - k) (fun s => ⟨rfl, rfl⟩) ?_ 0 ?_ (by repeat (first | exact trivial | refine ⟨rfl, ?_⟩)) ⟨by rw [show rowM l dep i 0 = [] from rfl, List.append_nil]; rfl, trivial⟩ rfl
   ·intro k hk
    refine WpG.seq ?_
    refine WpG.seq ?_
    refine WpG.reg ?_
    refine G.mv rfl ?_
    refine G.mv rfl ?_
    refine G.lenM rfl ?_
    refine G.bin rfl rfl rfl ?_
    refine WpOpsG.nil ?_
    change WpG _ _ _ _ _
    refine WpG.cond rfl (fun hq2 => ?_) (fun hq2 => ?_)
    ·(try simp only [zN] at hq2)
     refine WpG.skip ?_
     change WpG _ _ _ _ _
     refine WpG.seq ?_
     refine WpG.block ?_
     refine WpG.seq ?_
     refine WpG.reg ?_
     refine G.mv rfl ?_
     refine G.mv rfl ?_
     refine G.build rfl ?_
     refine G.box (g := 10) rfl rfl rfl ?_
     refine G.storeB rfl rfl rfl rfl rfl rfl ?_
     refine WpOpsG.nil ?_
     change WpG _ _ _ _ _
     refine WpG.seq ?_
     refine WpG.reg ?_
     refine G.mv rfl ?_
     refine G.mv rfl ?_
     refine G.loadNB rfl rfl rfl ?_
     refine G.call0 rfl rfl (rmay_ok l dep (i : Int) ((i + 1 + k : Nat) : Int) false (by omega) hd hsq) ?_
     rintro _ _ ⟨rfl, rfl⟩
     refine ⟨rfl, ?_⟩
     change WpOpsG _ _ ((28, _) :: _) _ _
     refine WpOpsG.nil ?_
     change WpG _ _ _ _ _
     refine WpG.cond rfl (fun hq3 => ?_) (fun hq3 => ?_)
     ·(try simp only [zN] at hq3)
      have hcm : mayV l dep (i : Int) ((i + 1 + k : Nat) : Int) = true := hq3
      have q1 := allM_len (l := l) (dep := dep) i
      have q2 := rowM_len (l := l) (dep := dep) (i := i) k
      have q3 : 2 * l.length * i ≤ 2 * 2 ^ 20 * 2 ^ 20 := Nat.mul_le_mul (by omega) (by omega)
      refine WpG.reg ?_
      refine G.mv rfl ?_
      refine G.loadNB rfl rfl rfl ?_
      refine G.mv rfl ?_
      refine G.mv rfl ?_
      refine G.build rfl ?_
      refine G.bsliceF rfl rfl rfl ?_
      change WpOpsG _ _ ((34, .fsl 3 (([⟨(i : Int), ((i + 1 + k : Nat) : Int), false⟩, ⟨(i : Int), ((i + 1 + k : Nat) : Int), true⟩] : List Mv).map encMv)) :: _) _ _
      refine G.app rfl rfl rfl rfl trivial (by rw [List.length_map, List.length_append]; show (_ + 2) * 24 ≤ 2 ^ 47; omega) ?_
      rw [← List.map_append]
      refine G.mv rfl ?_
      refine WpOpsG.nil ?_
      change WpG _ _ _ _ _
      refine WpG.reg ?_
      refine G.mv rfl ?_
      refine G.addI rfl rfl (by omega) ?_
      refine G.mv rfl ?_
      refine WpOpsG.nil ?_
      refine ⟨k + 1, by omega, by omega, ⟨rfl, rfl, rfl, rfl, ?_, rfl, rfl, trivial⟩, ⟨?_, trivial⟩, rfl⟩
      ·rw [show ((i + 1 + (k + 1) : Nat) : Int) = ((i + 1 + k : Nat) : Int) + 1 by omega]; rfl
      ·rw [rowM_snoc, ← List.append_assoc]
       unfold cellM
       first
        | (rw [if_neg hcm, List.append_nil]; rfl)
        | (rw [if_pos hcm]; rfl)
     ·(try simp only [zN] at hq3)
      have hcm : ¬ mayV l dep (i : Int) ((i + 1 + k : Nat) : Int) = true := by rw [hq3]; decide
      refine WpG.skip ?_
      change WpG _ _ _ _ _
      refine WpG.reg ?_
      refine G.mv rfl ?_
      refine G.addI rfl rfl (by omega) ?_
      refine G.mv rfl ?_
      refine WpOpsG.nil ?_
      refine ⟨k + 1, by omega, by omega, ⟨rfl, rfl, rfl, rfl, ?_, rfl, rfl, trivial⟩, ⟨?_, trivial⟩, rfl⟩
      ·rw [show ((i + 1 + (k + 1) : Nat) : Int) = ((i + 1 + k : Nat) : Int) + 1 by omega]; rfl
      ·rw [rowM_snoc, ← List.append_assoc]
       unfold cellM
       first
        | (rw [if_neg hcm, List.append_nil]; rfl)
        | (rw [if_pos hcm]; rfl)
    ·(try simp only [zN] at hq2)
     refine WpG.exit ?_
     change WpG _ _ _ _ _
     refine WpG.reg ?_
     refine G.addI rfl rfl (by omega) ?_
     refine G.mv rfl ?_
     refine WpOpsG.nil ?_
     refine ⟨i + 1, by omega, by omega, ⟨rfl, rfl, rfl, rfl, rfl, trivial⟩, ⟨?_, trivial⟩, rfl⟩
     rw [allM_snoc, show l.length - (i + 1) = k by omega]; rfl
   ·exact Nat.zero_le _
  ·(try simp only [zN] at hq1)
   refine WpG.exit ?_
   change WpG _ _ _ _ _
   refine WpG.seq ?_
   rw [show i = l.length by omega]
   refine WpG.freeze 20 rfl ?_
   refine WpG.reg ?_
   refine G.mv rfl ?_
   refine G.mv rfl ?_
   refine WpOpsG.nil ?_
   change WpG _ _ _ _ _
   refine WpG.ret ?_
   refine ⟨_, [], rfl, (hasP_le (by repeat (first | exact trivial | refine ⟨rfl, ?_⟩))), rfl, rfl, rfl, ?_⟩
   exact ⟨rfl, rfl⟩
 ·exact Nat.zero_le _
end Go.AM.L10
