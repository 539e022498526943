/- Contracts of the functions that the statement reaches. No condition. -/
import Derived.Test.YtabhoinefficpaaC10c
set_option linter.all false
set_option maxRecDepth 10000
namespace Go.AM.L10
open Go.AM.PL
theorem places_ok (l : List Rn) (mi mj : Int) (mr : Bool) (hn : l.length ≤ 2 ^ 50) : WpCallG A 39 [.fsl 2 (l.map encN), .agg [.v (.int .i64 mi), .v (.int .i64 mj), .v (.bool mr)]] [] (fun v H => v = .v (.bool (plc l mi mj)) ∧ H = []) := by
 refine WpCallG.intro g39 rfl rfl ?_
 unfold af39
 change WpG _ _ _ _ _
 refine WpG.seq ?_
 refine WpG.reg ?_
 refine G.box (g := 10) rfl rfl rfl ?_
 refine G.mv rfl ?_
 refine WpOpsG.nil ?_
 change WpG _ _ _ _ _
 refine WpG.seq ?_
 refine WpG.reg ?_
 refine G.faddrB rfl ?_
 refine G.load1B rfl rfl rfl ?_
 refine G.bin rfl rfl rfl ?_
 refine G.mv rfl ?_
 apply G.andS rfl rfl rfl rfl rfl rfl
 case hB =>
  intro hs1
  (try simp only [zN] at hs1)
  refine G.faddrB rfl ?_
  refine G.load1B rfl rfl rfl ?_
  refine G.faddrB rfl ?_
  refine G.load1B rfl rfl rfl ?_
  refine G.bin rfl rfl rfl ?_
  refine WpOpsG.nil ?_
  exact ⟨rfl, (by repeat (first | exact LLe.refl _ | refine LLe.cons rfl ?_)), (by repeat (first | exact HLe.refl _ | refine HLe.cons rfl ?_)), rfl⟩
 refine G.mv rfl ?_
 apply G.andS rfl rfl rfl rfl rfl rfl
 case hB =>
  intro hs2
  (try simp only [zN] at hs2)
  refine G.faddrB rfl ?_
  refine G.load1B rfl rfl rfl ?_
  refine G.mv rfl ?_
  refine G.lenM rfl ?_
  refine G.bin rfl rfl rfl ?_
  refine WpOpsG.nil ?_
  exact ⟨rfl, (by repeat (first | exact LLe.refl _ | refine LLe.cons rfl ?_)), (by repeat (first | exact HLe.refl _ | refine HLe.cons rfl ?_)), rfl⟩
 refine G.mv rfl ?_
 refine WpOpsG.nil ?_
 change WpG _ _ _ _ _
 refine WpG.ret ?_
 refine ⟨_, [], rfl, (hasP_le (by repeat (first | exact trivial | refine ⟨rfl, ?_⟩))), rfl, rfl, rfl, ?_⟩
 exact ⟨rfl, rfl⟩
theorem may43_ok (dep : List (List Bool)) (p : Int) (r : Rn) (hd : dep.length ≤ 2 ^ 50) (hd2 : ∀ r ∈ dep, r.length ≤ 2 ^ 50) : WpCallG A 43 [.agg (encN r), .fptr [.v (.int .i64 p)] 0, .fptr [.fsl 1 (dep.map encBs)] 0] [] (fun v H => v = .v (.bool (blkM dep p r)) ∧ H = []) := by
 refine WpCallG.intro g43 rfl rfl ?_
 unfold af43
 change WpG _ _ _ _ _
 refine WpG.seq ?_
 refine WpG.reg ?_
 refine G.box (g := 10) rfl rfl rfl ?_
 refine G.mv rfl ?_
 refine WpOpsG.nil ?_
 change WpG _ _ _ _ _
 refine WpG.seq ?_
 refine WpG.reg ?_
 refine G.faddrB rfl ?_
 refine G.load1B rfl rfl rfl ?_
 refine G.load1F rfl rfl ?_
 refine G.bin rfl rfl rfl ?_
 refine G.mv rfl ?_
 apply G.orS rfl rfl rfl rfl rfl rfl
 case hB =>
  intro hs1
  (try simp only [zN] at hs1)
  refine G.load1F rfl rfl ?_
  refine G.bin rfl rfl rfl ?_
  refine G.mv rfl ?_
  apply G.andS rfl rfl rfl rfl rfl rfl
  case hB =>
   intro hs2
   (try simp only [zN] at hs2)
   refine G.faddrB rfl ?_
   refine G.load1B rfl rfl rfl ?_
   refine G.bin rfl rfl rfl ?_
   refine WpOpsG.nil ?_
   exact ⟨rfl, (by repeat (first | exact LLe.refl _ | refine LLe.cons rfl ?_)), (by repeat (first | exact HLe.refl _ | refine HLe.cons rfl ?_)), rfl⟩
  refine G.mv rfl ?_
  apply G.andS rfl rfl rfl rfl rfl rfl
  case hB =>
   intro hs3
   (try simp only [zN] at hs3)
   refine G.load1F rfl rfl ?_
   refine G.load1F rfl rfl ?_
   refine G.faddrB rfl ?_
   refine G.load1B rfl rfl rfl ?_
   refine G.call0 rfl rfl (depends_ok dep p r.p hd hd2) ?_
   rintro _ _ ⟨rfl, rfl⟩
   refine ⟨rfl, ?_⟩
   change WpOpsG _ _ ((22, _) :: _) _ _
   refine WpOpsG.nil ?_
   exact ⟨rfl, (by repeat (first | exact LLe.refl _ | refine LLe.cons rfl ?_)), (by repeat (first | exact HLe.refl _ | refine HLe.cons rfl ?_)), rfl⟩
  refine WpOpsG.nil ?_
  exact ⟨rfl, (by repeat (first | exact LLe.refl _ | refine LLe.cons rfl ?_)), (by repeat (first | exact HLe.refl _ | refine HLe.cons rfl ?_)), rfl⟩
 refine G.mv rfl ?_
 refine WpOpsG.nil ?_
 change WpG _ _ _ _ _
 refine WpG.ret ?_
 refine ⟨_, [], rfl, (hasP_le (by repeat (first | exact trivial | refine ⟨rfl, ?_⟩))), rfl, rfl, rfl, ?_⟩
 exact ⟨rfl, rfl⟩
theorem idx43_ok (l : List Rn) (dep : List (List Bool)) (p : Int) (hn : l.length ≤ 2 ^ 50) (hd : dep.length ≤ 2 ^ 50) (hd2 : ∀ r ∈ dep, r.length ≤ 2 ^ 50) : WpCallG A 59 [.fsl 2 (l.map encN), .fn 43 [.fptr [.v (.int .i64 p)] 0, .fptr [.fsl 1 (dep.map encBs)] 0]] [] (fun v H => ∃ z : Int, v = .v (.int .i64 z) ∧ (0 ≤ z ↔ l.any (blkM dep p) = true) ∧ H = []) := by
 refine WpCallG.intro g59 rfl rfl ?_
 unfold af59
 change WpG _ _ _ _ _
 refine WpG.seq ?_
 refine WpG.reg ?_
 refine G.mv rfl ?_
 refine WpOpsG.nil ?_
 change WpG _ _ _ _ _
 refine WpG.seq ?_
 refine WpG.seq ?_
 refine WpG.reg ?_
 refine G.mv rfl ?_
 refine G.lenM rfl ?_
 refine G.mv rfl ?_
 refine WpOpsG.nil ?_
 change WpG _ _ _ _ _
 refine WpG.block ?_
 refine WpG.loop (S := Nat) (fun i => [(0, .fsl 2 (l.map encN)), (1, .fn 43 [.fptr [.v (.int .i64 p)] 0, .fptr [.fsl 1 (dep.map encBs)] 0]), (7, .v (.int .i64 (l.length : Int))), (8, .v (.int .i64 ((i : Nat) : Int)))]) (fun _ => []) (fun i => i ≤ l.length ∧ (l.take i).any (blkM dep p) = false) (fun i => l.length - i) (fun s => ⟨rfl, rfl⟩) ?_ 0 ?_ (by repeat (first | exact trivial | refine ⟨rfl, ?_⟩)) (by repeat (first | exact trivial | refine ⟨rfl, ?_⟩)) rfl
 ·rintro i ⟨hI, hA⟩
  refine WpG.seq ?_
  refine WpG.reg ?_
  refine G.bin rfl rfl rfl ?_
  refine WpOpsG.nil ?_
  change WpG _ _ _ _ _
  refine WpG.seq ?_
  refine WpG.cond rfl (fun hq1 => ?_) (fun hq1 => ?_)
  ·(try simp only [zN] at hq1)
   refine WpG.skip ?_
   change WpG _ _ _ _ _
   refine WpG.seq ?_
   refine WpG.block ?_
   refine WpG.seq ?_
   refine WpG.reg ?_
   refine G.mv rfl ?_
   refine G.mv rfl ?_
   refine WpOpsG.nil ?_
   change WpG _ _ _ _ _
   refine WpG.seq ?_
   refine WpG.reg ?_
   refine G.mv rfl ?_
   refine G.mv rfl ?_
   refine G.mv rfl ?_
   refine G.iaddrN rfl rfl (List.getElem?_eq_getElem (by omega)) ?_
   refine G.loadNF rfl rfl ?_
   refine G.callv0 rfl rfl rfl (may43_ok dep p l[i] hd hd2) ?_
   rintro _ _ ⟨rfl, rfl⟩
   refine ⟨rfl, ?_⟩
   change WpOpsG _ _ ((16, _) :: _) _ _
   refine WpOpsG.nil ?_
   change WpG _ _ _ _ _
   refine WpG.cond rfl (fun hq2 => ?_) (fun hq2 => ?_)
   ·(try simp only [zN] at hq2)
    have hyes := hq2
    refine WpG.seq ?_
    refine WpG.reg ?_
    refine G.mv rfl ?_
    refine G.mv rfl ?_
    refine WpOpsG.nil ?_
    change WpG _ _ _ _ _
    refine WpG.ret ?_
    refine ⟨_, [], rfl, (hasP_le (by repeat (first | exact trivial | refine ⟨rfl, ?_⟩))), rfl, rfl, rfl, ?_⟩
    exact ⟨(i : Int), rfl, ⟨fun _ => any_at (by omega) hyes, fun _ => by omega⟩, rfl⟩
   ·(try simp only [zN] at hq2)
    have hno := hq2
    refine WpG.skip ?_
    change WpG _ _ _ _ _
    refine WpG.reg ?_
    refine G.addI rfl rfl (by omega) ?_
    refine G.mv rfl ?_
    refine WpOpsG.nil ?_
    refine ⟨i + 1, by omega, ⟨by omega, ?_⟩, ⟨rfl, rfl, rfl, rfl, trivial⟩, trivial, rfl⟩
    rw [any_take (by omega), hA, Bool.false_or]; exact hno
  ·(try simp only [zN] at hq1)
   refine WpG.exit ?_
   change WpG _ _ _ _ _
   refine WpG.seq ?_
   refine WpG.reg ?_
   refine G.mv rfl ?_
   refine WpOpsG.nil ?_
   change WpG _ _ _ _ _
   refine WpG.ret ?_
   refine ⟨_, [], rfl, (hasP_le (by repeat (first | exact trivial | refine ⟨rfl, ?_⟩))), rfl, rfl, rfl, ?_⟩
   refine ⟨-1, rfl, ⟨fun h => by omega, fun h => ?_⟩, rfl⟩
   rw [show l.take i = l from List.take_of_length_le (by omega), h] at hA; cases hA
 ·exact ⟨Nat.zero_le _, rfl⟩
theorem con43_ok (l : List Rn) (dep : List (List Bool)) (p : Int) (hn : l.length ≤ 2 ^ 50) (hd : dep.length ≤ 2 ^ 50) (hd2 : ∀ r ∈ dep, r.length ≤ 2 ^ 50) : WpCallG A 42 [.fsl 2 (l.map encN), .fn 43 [.fptr [.v (.int .i64 p)] 0, .fptr [.fsl 1 (dep.map encBs)] 0]] [] (fun v H => v = .v (.bool (l.any (blkM dep p))) ∧ H = []) := by
 refine WpCallG.intro g42 rfl rfl ?_
 unfold af42
 change WpG _ _ _ _ _
 refine WpG.seq ?_
 refine WpG.reg ?_
 refine G.mv rfl ?_
 refine WpOpsG.nil ?_
 change WpG _ _ _ _ _
 refine WpG.seq ?_
 refine WpG.reg ?_
 refine G.mv rfl ?_
 refine G.mv rfl ?_
 refine G.call0 rfl rfl (idx43_ok l dep p hn hd hd2) ?_
 rintro _ _ ⟨z, rfl, hz, rfl⟩
 refine ⟨rfl, ?_⟩
 change WpOpsG _ _ ((7, _) :: _) _ _
 refine G.bin rfl rfl rfl ?_
 refine G.mv rfl ?_
 refine WpOpsG.nil ?_
 change WpG _ _ _ _ _
 refine WpG.ret ?_
 refine ⟨_, [], rfl, (hasP_le (by repeat (first | exact trivial | refine ⟨rfl, ?_⟩))), rfl, rfl, rfl, ?_⟩
 rw [show decide (z ≥ 0) = l.any (blkM dep p) by rw [Bool.eq_iff_iff, decide_eq_true_eq]; exact hz]; exact ⟨rfl, rfl⟩
theorem may_ok (l : List Rn) (dep : List (List Bool)) (mi mj : Int) (mr : Bool) (hn : l.length ≤ 2 ^ 50) (hd : dep.length ≤ 2 ^ 50) (hd2 : ∀ r ∈ dep, r.length ≤ 2 ^ 50) : WpCallG A 20 [.fsl 2 (l.map encN), .fsl 1 (dep.map encBs), .agg [.v (.int .i64 mi), .v (.int .i64 mj), .v (.bool mr)]] [] (fun v H => v = .v (.bool (mayV l dep mi mj)) ∧ H = []) := by
 refine WpCallG.intro g20 rfl rfl ?_
 unfold af20
 change WpG _ _ _ _ _
 refine WpG.seq ?_
 refine WpG.reg ?_
 refine G.box (g := 10) rfl rfl rfl ?_
 refine G.box (g := 11) rfl rfl rfl ?_
 refine G.mv rfl ?_
 refine WpOpsG.nil ?_
 change WpG _ _ _ _ _
 refine WpG.seq ?_
 refine WpG.seq ?_
 refine WpG.reg ?_
 refine G.mv rfl ?_
 refine G.loadNB rfl rfl rfl ?_
 refine G.call0 rfl rfl (places_ok l mi mj mr hn) ?_
 rintro _ _ ⟨rfl, rfl⟩
 refine ⟨rfl, ?_⟩
 change WpOpsG _ _ ((10, _) :: _) _ _
 refine G.un rfl rfl ?_
 refine G.mv rfl ?_
 apply G.orS rfl rfl rfl rfl rfl rfl
 case hB =>
  intro hs1
  (try simp only [zN] at hs1)
  refine G.mv rfl ?_
  have hpl := plc_iff.1 hs1
  refine G.faddrB rfl ?_
  refine G.load1B rfl rfl rfl ?_
  refine G.iaddrM rfl rfl (by omega) (gd17 (⟨0, 0⟩ : Rn) (by omega)) ?_
  try rw [Int.toNat_natCast]
  refine G.faddrF rfl ?_
  refine G.load1F rfl rfl ?_
  refine G.mv rfl ?_
  refine G.faddrB rfl ?_
  refine G.load1B rfl rfl rfl ?_
  refine G.iaddrM rfl rfl (by omega) (gd17 (⟨0, 0⟩ : Rn) (by omega)) ?_
  try rw [Int.toNat_natCast]
  refine G.faddrF rfl ?_
  refine G.load1F rfl rfl ?_
  refine G.bin rfl rfl rfl ?_
  refine WpOpsG.nil ?_
  exact ⟨rfl, (by repeat (first | exact LLe.refl _ | refine LLe.cons rfl ?_)), (by repeat (first | exact HLe.refl _ | refine HLe.cons rfl ?_)), rfl⟩
 refine WpOpsG.nil ?_
 change WpG _ _ _ _ _
 refine WpG.cond rfl (fun hq2 => ?_) (fun hq2 => ?_)
 ·(try simp only [zN] at hq2)
  have hno : mayV l dep mi mj = false := may_0 fun c => by
   rcases hq2 with h | h
   ·rw [plc_iff.2 c.1] at h; cases h
   ·exact h c.2
  refine WpG.seq ?_
  refine WpG.reg ?_
  refine G.mv rfl ?_
  refine WpOpsG.nil ?_
  change WpG _ _ _ _ _
  refine WpG.ret ?_
  refine ⟨_, [], rfl, (hasP_le (by repeat (first | exact trivial | refine ⟨rfl, ?_⟩))), rfl, rfl, rfl, ?_⟩
  rw [hno]; exact ⟨rfl, rfl⟩
 ·(try simp only [zN] at hq2)
  have hpl := plc_iff.1 hq2.1
  have hpp := hq2.2
  obtain ⟨i, rfl⟩ : ∃ i : Nat, mi = i := ⟨mi.toNat, by omega⟩
  obtain ⟨j, rfl⟩ : ∃ j : Nat, mj = j := ⟨mj.toNat, by omega⟩
  rw [Int.toNat_natCast, Int.toNat_natCast] at hpp
  refine WpG.skip ?_
  change WpG _ _ _ _ _
  refine WpG.seq ?_
  refine WpG.reg ?_
  refine G.mv rfl ?_
  refine G.faddrB rfl ?_
  refine G.load1B rfl rfl rfl ?_
  refine G.iaddrM rfl rfl (by omega) (gd17 (⟨0, 0⟩ : Rn) (by omega)) ?_
  try rw [Int.toNat_natCast]
  refine G.faddrF rfl ?_
  refine G.load1F rfl rfl ?_
  refine G.box (g := 12) rfl rfl rfl ?_
  refine G.storeB rfl rfl rfl rfl rfl rfl ?_
  refine WpOpsG.nil ?_
  change WpG _ _ _ _ _
  refine WpG.seq ?_
  refine WpG.reg ?_
  refine G.mv rfl ?_
  refine G.faddrB rfl ?_
  refine G.load1B rfl rfl rfl ?_
  refine G.addI rfl rfl (by omega) ?_
  rw [show (i : Int) + 1 = ((i + 1 : Nat) : Int) by omega]
  refine G.faddrB rfl ?_
  refine G.load1B rfl rfl rfl ?_
  refine G.slMid (n := i + 1) (m := j) rfl rfl rfl (by omega) (by omega) ?_
  refine G.mkfn rfl ?_
  refine G.lend rfl rfl (con43_ok (midV l i j) dep (rnD l i).p (by rw [mid_len (by omega)]; omega) hd hd2) ?_
  rintro _ _ ⟨rfl, rfl⟩
  refine ⟨rfl, trivial, rfl, ?_⟩
  change WpOpsG _ _ ((41, _) :: _) _ _
  refine G.un rfl rfl ?_
  refine G.mv rfl ?_
  refine WpOpsG.nil ?_
  change WpG _ _ _ _ _
  refine WpG.ret ?_
  refine ⟨_, [], rfl, (hasP_le (by repeat (first | exact trivial | refine ⟨rfl, ?_⟩))), rfl, rfl, rfl, ?_⟩
  rw [may_1 (by omega) (by omega) hpp]; exact ⟨rfl, rfl⟩
theorem rmay_ok (l : List Rn) (dep : List (List Bool)) (mi mj : Int) (mr : Bool) (hn : l.length ≤ 2 ^ 50) (hd : dep.length ≤ 2 ^ 50) (hsq : ∀ r ∈ dep, r.length = dep.length) : WpCallG A 27 [.fsl 2 (l.map encN), .fsl 1 (dep.map encBs), .agg [.v (.int .i64 mi), .v (.int .i64 mj), .v (.bool mr)]] [] (fun v H => v = .v (.bool (mayV l dep mi mj)) ∧ H = []) := by
 refine WpCallG.intro g27 rfl rfl ?_
 unfold af27
 change WpG _ _ _ _ _
 refine WpG.seq ?_
 refine WpG.reg ?_
 refine G.box (g := 10) rfl rfl rfl ?_
 refine G.mv rfl ?_
 refine WpOpsG.nil ?_
 change WpG _ _ _ _ _
 refine WpG.seq ?_
 refine WpG.seq ?_
 refine WpG.reg ?_
 refine G.faddrB rfl ?_
 refine G.load1B rfl rfl rfl ?_
 refine G.bin rfl rfl rfl ?_
 refine G.mv rfl ?_
 apply G.orS rfl rfl rfl rfl rfl rfl
 case hB =>
  intro hs1
  (try simp only [zN] at hs1)
  refine G.faddrB rfl ?_
  refine G.load1B rfl rfl rfl ?_
  refine G.faddrB rfl ?_
  refine G.load1B rfl rfl rfl ?_
  refine G.bin rfl rfl rfl ?_
  refine WpOpsG.nil ?_
  exact ⟨rfl, (by repeat (first | exact LLe.refl _ | refine LLe.cons rfl ?_)), (by repeat (first | exact HLe.refl _ | refine HLe.cons rfl ?_)), rfl⟩
 refine G.mv rfl ?_
 apply G.orS rfl rfl rfl rfl rfl rfl
 case hB =>
  intro hs2
  (try simp only [zN] at hs2)
  refine G.faddrB rfl ?_
  refine G.load1B rfl rfl rfl ?_
  refine G.mv rfl ?_
  refine G.lenM rfl ?_
  refine G.bin rfl rfl rfl ?_
  refine WpOpsG.nil ?_
  exact ⟨rfl, (by repeat (first | exact LLe.refl _ | refine LLe.cons rfl ?_)), (by repeat (first | exact HLe.refl _ | refine HLe.cons rfl ?_)), rfl⟩
 refine G.mv rfl ?_
 apply G.orS rfl rfl rfl rfl rfl rfl
 case hB =>
  intro hs3
  (try simp only [zN] at hs3)
  refine G.mv rfl ?_
  refine G.faddrB rfl ?_
  refine G.load1B rfl rfl rfl ?_
  refine G.iaddrM rfl rfl (by omega) (gd17 (⟨0, 0⟩ : Rn) (by omega)) ?_
  try rw [Int.toNat_natCast]
  refine G.faddrF rfl ?_
  refine G.load1F rfl rfl ?_
  refine G.mv rfl ?_
  refine G.faddrB rfl ?_
  refine G.load1B rfl rfl rfl ?_
  refine G.iaddrM rfl rfl (by omega) (gd17 (⟨0, 0⟩ : Rn) (by omega)) ?_
  try rw [Int.toNat_natCast]
  refine G.faddrF rfl ?_
  refine G.load1F rfl rfl ?_
  refine G.bin rfl rfl rfl ?_
  refine WpOpsG.nil ?_
  exact ⟨rfl, (by repeat (first | exact LLe.refl _ | refine LLe.cons rfl ?_)), (by repeat (first | exact HLe.refl _ | refine HLe.cons rfl ?_)), rfl⟩
 refine WpOpsG.nil ?_
 change WpG _ _ _ _ _
 refine WpG.cond rfl (fun hq4 => ?_) (fun hq4 => ?_)
 ·(try simp only [zN] at hq4)
  have hno : mayV l dep mi mj = false := may_0 fun c => by
   have c2 : (l.getD mi.toNat ⟨0, 0⟩).p = (l.getD mj.toNat ⟨0, 0⟩).p := c.2
   omega
  refine WpG.seq ?_
  refine WpG.reg ?_
  refine G.mv rfl ?_
  refine WpOpsG.nil ?_
  change WpG _ _ _ _ _
  refine WpG.ret ?_
  refine ⟨_, [], rfl, (hasP_le (by repeat (first | exact trivial | refine ⟨rfl, ?_⟩))), rfl, rfl, rfl, ?_⟩
  rw [hno]; exact ⟨rfl, rfl⟩
 ·(try simp only [zN] at hq4)
  have hpp := hq4.2
  obtain ⟨i, rfl⟩ : ∃ i : Nat, mi = i := ⟨mi.toNat, by omega⟩
  obtain ⟨j, rfl⟩ : ∃ j : Nat, mj = j := ⟨mj.toNat, by omega⟩
  rw [Int.toNat_natCast, Int.toNat_natCast] at hpp
  refine WpG.skip ?_
  change WpG _ _ _ _ _
  refine WpG.seq ?_
  refine WpG.reg ?_
  refine G.mv rfl ?_
  refine G.faddrB rfl ?_
  refine G.load1B rfl rfl rfl ?_
  refine G.iaddrM rfl rfl (by omega) (gd17 (⟨0, 0⟩ : Rn) (by omega)) ?_
  try rw [Int.toNat_natCast]
  refine G.faddrF rfl ?_
  refine G.load1F rfl rfl ?_
  refine G.mv rfl ?_
  refine WpOpsG.nil ?_
  change WpG _ _ _ _ _
  refine WpG.seq ?_
  refine WpG.seq ?_
  refine WpG.reg ?_
  refine G.mv rfl ?_
  refine G.faddrB rfl ?_
  refine G.load1B rfl rfl rfl ?_
  refine G.addI rfl rfl (by omega) ?_
  rw [show (i : Int) + 1 = ((i + 1 : Nat) : Int) by omega]
  refine G.faddrB rfl ?_
  refine G.load1B rfl rfl rfl ?_
  refine G.slMid (n := i + 1) (m := j) rfl rfl rfl (by omega) (by omega) ?_
  change WpOpsG _ _ ((54, .fsl 2 ((midV l i j).map encN)) :: _) _ _
  have hml : (midV l i j).length = j - (i + 1) := mid_len (by omega)
  obtain ⟨M, hM⟩ : ∃ M, (midV l i j) = M := ⟨_, rfl⟩
  rw [hM] at hml ⊢
  refine G.lenM rfl ?_
  refine G.mv rfl ?_
  refine WpOpsG.nil ?_
  change WpG _ _ _ _ _
  refine WpG.block ?_
  refine WpG.loop (S := Nat) (fun k => [(1, .fsl 1 (dep.map encBs)), (7, .v (.int .i64 (rnD l i).p)), (54, .fsl 2 (M.map encN)), (55, .v (.int .i64 (M.length : Int))), (56, .v (.int .i64 ((k : Nat) : Int)))]) (fun _ => []) (fun k => k ≤ M.length ∧ (M.take k).any (blkM dep (rnD l i).p) = false) (fun k => M.length - k) (fun s => ⟨rfl, rfl⟩) ?_ 0 ?_ (by repeat (first | exact trivial | refine ⟨rfl, ?_⟩)) (by repeat (first | exact trivial | refine ⟨rfl, ?_⟩)) rfl
  ·rintro k ⟨hI, hA⟩
   refine WpG.seq ?_
   refine WpG.reg ?_
   refine G.bin rfl rfl rfl ?_
   refine WpOpsG.nil ?_
   change WpG _ _ _ _ _
   refine WpG.seq ?_
   refine WpG.cond rfl (fun hq5 => ?_) (fun hq5 => ?_)
   ·(try simp only [zN] at hq5)
    refine WpG.skip ?_
    change WpG _ _ _ _ _
    refine WpG.seq ?_
    refine WpG.block ?_
    refine WpG.seq ?_
    refine WpG.reg ?_
    refine G.iaddrN rfl rfl (List.getElem?_eq_getElem (by omega)) ?_
    refine G.loadNF rfl rfl ?_
    refine G.box (g := 11) rfl rfl rfl ?_
    refine G.storeB rfl rfl rfl rfl rfl rfl ?_
    refine WpOpsG.nil ?_
    change WpG _ _ _ _ _
    refine WpG.seq ?_
    refine WpG.reg ?_
    refine G.faddrB rfl ?_
    refine G.load1B rfl rfl rfl ?_
    refine G.mv rfl ?_
    refine G.bin rfl rfl rfl ?_
    refine G.mv rfl ?_
    apply G.orS rfl rfl rfl rfl rfl rfl
    case hB =>
     intro hs6
     (try simp only [zN] at hs6)
     refine G.mv rfl ?_
     refine G.bin rfl rfl rfl ?_
     refine G.mv rfl ?_
     apply G.andS rfl rfl rfl rfl rfl rfl
     case hB =>
      intro hs7
      (try simp only [zN] at hs7)
      refine G.faddrB rfl ?_
      refine G.load1B rfl rfl rfl ?_
      refine G.bin rfl rfl rfl ?_
      refine WpOpsG.nil ?_
      exact ⟨rfl, (by repeat (first | exact LLe.refl _ | refine LLe.cons rfl ?_)), (by repeat (first | exact HLe.refl _ | refine HLe.cons rfl ?_)), rfl⟩
     refine G.mv rfl ?_
     apply G.andS rfl rfl rfl rfl rfl rfl
     case hB =>
      intro hs8
      (try simp only [zN] at hs8)
      refine G.mv rfl ?_
      refine G.mv rfl ?_
      refine G.faddrB rfl ?_
      refine G.load1B rfl rfl rfl ?_
      refine G.call0 rfl rfl (rdepends_ok dep (rnD l i).p M[k].p hd hsq) ?_
      rintro _ _ ⟨rfl, rfl⟩
      refine ⟨rfl, ?_⟩
      change WpOpsG _ _ ((77, _) :: _) _ _
      refine WpOpsG.nil ?_
      exact ⟨rfl, (by repeat (first | exact LLe.refl _ | refine LLe.cons rfl ?_)), (by repeat (first | exact HLe.refl _ | refine HLe.cons rfl ?_)), rfl⟩
     refine WpOpsG.nil ?_
     exact ⟨rfl, (by repeat (first | exact LLe.refl _ | refine LLe.cons rfl ?_)), (by repeat (first | exact HLe.refl _ | refine HLe.cons rfl ?_)), rfl⟩
    refine WpOpsG.nil ?_
    change WpG _ _ _ _ _
    refine WpG.cond rfl (fun hq9 => ?_) (fun hq9 => ?_)
    ·(try simp only [zN] at hq9)
     have hyes : blkM dep (rnD l i).p M[k] = true := may_yes hq9
     refine WpG.seq ?_
     refine WpG.reg ?_
     refine G.mv rfl ?_
     refine WpOpsG.nil ?_
     change WpG _ _ _ _ _
     refine WpG.ret ?_
     refine ⟨_, [], rfl, (hasP_le (by repeat (first | exact trivial | refine ⟨rfl, ?_⟩))), rfl, rfl, rfl, ?_⟩
     rw [may_1 (by omega) (by omega) hpp, hM, any_at (by omega) hyes]; exact ⟨rfl, rfl⟩
    ·(try simp only [zN] at hq9)
     have hbn : blkM dep (rnD l i).p M[k] = false := may_no hq9
     refine WpG.skip ?_
     change WpG _ _ _ _ _
     refine WpG.reg ?_
     refine G.addI rfl rfl (by omega) ?_
     refine G.mv rfl ?_
     refine WpOpsG.nil ?_
     refine ⟨k + 1, by omega, ⟨by omega, ?_⟩, ⟨rfl, rfl, rfl, rfl, rfl, trivial⟩, trivial, rfl⟩
     rw [any_take (by omega), hA, Bool.false_or]; exact hbn
   ·(try simp only [zN] at hq5)
    refine WpG.exit ?_
    change WpG _ _ _ _ _
    refine WpG.seq ?_
    refine WpG.reg ?_
    refine G.mv rfl ?_
    refine WpOpsG.nil ?_
    change WpG _ _ _ _ _
    refine WpG.ret ?_
    refine ⟨_, [], rfl, (hasP_le (by repeat (first | exact trivial | refine ⟨rfl, ?_⟩))), rfl, rfl, rfl, ?_⟩
    rw [may_1 (by omega) (by omega) hpp, hM]
    rw [show M.take k = M from List.take_of_length_le (by omega)] at hA
    rw [hA]; exact ⟨rfl, rfl⟩
  ·exact ⟨Nat.zero_le _, rfl⟩
end Go.AM.L10
