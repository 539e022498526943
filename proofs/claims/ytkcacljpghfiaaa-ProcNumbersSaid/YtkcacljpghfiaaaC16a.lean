/- Contracts of the functions that the statement reaches. No condition. -/
import Derived.Test.YtkcacljpghfiaaaB16
import Derived.Test.YtkcacljpghfiaaaPL16
set_option linter.all false
set_option maxRecDepth 10000
namespace Go.AM.L16
open Go.AM.PL
theorem rlen_ok (l : List Nat) (ps : List Pr) : WpCallG A 20 [.bptr 0 0] [(0, .box [.osl 1, .fsl 3 (ps.map encPr)]), (1, .arr .yes 1 ((l).map encJ))] (fun v H => v = .v (.int .i64 (l.length : Int)) ∧ H = [(0, .box [.osl 1, .fsl 3 (ps.map encPr)]), (1, .arr .yes 1 ((l).map encJ))]) := by
 refine WpCallG.intro g20 rfl rfl ?_
 unfold af20
 change WpG _ _ _ _ _
 refine WpG.seq ?_
 refine WpG.reg ?_
 refine G.mv rfl ?_
 refine WpOpsG.nil ?_
 change WpG _ _ _ _ _
 refine WpG.seq ?_
 refine WpG.reg ?_
 refine G.mv rfl ?_
 refine G.nilcB rfl ?_
 refine G.faddrB rfl ?_
 refine G.load1B rfl rfl rfl ?_
 refine G.lenOM rfl rfl ?_
 refine G.mv rfl ?_
 refine WpOpsG.nil ?_
 change WpG _ _ _ _ _
 refine WpG.ret ?_
 refine ⟨_, [(0, .box [.osl 1, .fsl 3 (ps.map encPr)]), (1, .arr .yes 1 ((l).map encJ))], rfl, (hasP_le (by repeat (first | exact trivial | refine ⟨rfl, ?_⟩))), rfl, rfl, rfl, ?_⟩
 exact ⟨rfl, rfl⟩
theorem isnan_ok (x : Int) : WpCallG A 50 [.v (.int .i64 x)] [] (fun v H => v = .v (.bool false) ∧ H = []) := by
 refine WpCallG.intro g50 rfl rfl ?_
 unfold af50
 change WpG _ _ _ _ _
 refine WpG.seq ?_
 refine WpG.reg ?_
 refine G.mv rfl ?_
 refine WpOpsG.nil ?_
 change WpG _ _ _ _ _
 refine WpG.seq ?_
 refine WpG.reg ?_
 refine G.mv rfl ?_
 refine G.mv rfl ?_
 refine G.bin rfl rfl rfl ?_
 rw [bne_self_eq_false]
 refine G.mv rfl ?_
 refine WpOpsG.nil ?_
 change WpG _ _ _ _ _
 refine WpG.ret ?_
 refine ⟨_, [], rfl, (hasP_le (by repeat (first | exact trivial | refine ⟨rfl, ?_⟩))), rfl, rfl, rfl, ?_⟩
 exact ⟨rfl, rfl⟩
theorem cmp_ok (x y : Int) : WpCallG A 49 [.v (.int .i64 x), .v (.int .i64 y)] [] (fun v H => v = .v (.int .i64 (cmpV x y)) ∧ H = []) := by
 refine WpCallG.intro g49 rfl rfl ?_
 unfold af49
 change WpG _ _ _ _ _
 refine WpG.seq ?_
 refine WpG.reg ?_
 refine G.mv rfl ?_
 refine WpOpsG.nil ?_
 change WpG _ _ _ _ _
 refine WpG.seq ?_
 refine WpG.reg ?_
 refine G.mv rfl ?_
 refine G.call0 rfl rfl (isnan_ok x) ?_
 rintro _ _ ⟨rfl, rfl⟩
 refine ⟨rfl, ?_⟩
 change WpOpsG _ _ ((8, _) :: _) _ _
 refine G.mv rfl ?_
 refine WpOpsG.nil ?_
 change WpG _ _ _ _ _
 refine WpG.seq ?_
 refine WpG.reg ?_
 refine G.mv rfl ?_
 refine G.call0 rfl rfl (isnan_ok y) ?_
 rintro _ _ ⟨rfl, rfl⟩
 refine ⟨rfl, ?_⟩
 change WpOpsG _ _ ((10, _) :: _) _ _
 refine G.mv rfl ?_
 refine WpOpsG.nil ?_
 change WpG _ _ _ _ _
 refine WpG.seq ?_
 refine WpG.seq ?_
 refine WpG.reg ?_
 refine G.mv rfl ?_
 refine WpOpsG.nil ?_
 change WpG _ _ _ _ _
 refine WpG.cond rfl (fun hq1 => absurd hq1 (by decide)) (fun hq1 => ?_)
 refine WpG.skip ?_
 change WpG _ _ _ _ _
 refine WpG.seq ?_
 refine WpG.seq ?_
 refine WpG.reg ?_
 refine G.mv rfl ?_
 refine WpOpsG.nil ?_
 change WpG _ _ _ _ _
 refine WpG.cond rfl (fun hq2 => absurd hq2 (by decide)) (fun hq2 => ?_)
 refine WpG.skip ?_
 change WpG _ _ _ _ _
 refine WpG.seq ?_
 refine WpG.seq ?_
 refine WpG.reg ?_
 refine G.mv rfl ?_
 refine G.mv rfl ?_
 refine G.bin rfl rfl rfl ?_
 refine WpOpsG.nil ?_
 change WpG _ _ _ _ _
 refine WpG.cond rfl (fun hq3 => ?_) (fun hq3 => ?_)
 ·(try simp only [zN] at hq3)
  have h1 : cmpV x y = -1 := if_pos hq3
  refine WpG.seq ?_
  refine WpG.reg ?_
  refine G.mv rfl ?_
  refine WpOpsG.nil ?_
  change WpG _ _ _ _ _
  refine WpG.ret ?_
  refine ⟨_, [], rfl, (hasP_le (by repeat (first | exact trivial | refine ⟨rfl, ?_⟩))), rfl, rfl, rfl, ?_⟩
  rw [h1]; exact ⟨rfl, rfl⟩
 ·(try simp only [zN] at hq3)
  have h1 : ¬ x < y := by omega
  refine WpG.skip ?_
  change WpG _ _ _ _ _
  refine WpG.seq ?_
  refine WpG.seq ?_
  refine WpG.reg ?_
  refine G.mv rfl ?_
  refine G.mv rfl ?_
  refine G.bin rfl rfl rfl ?_
  refine WpOpsG.nil ?_
  change WpG _ _ _ _ _
  refine WpG.cond rfl (fun hq4 => ?_) (fun hq4 => ?_)
  ·(try simp only [zN] at hq4)
   have h2 : cmpV x y = 1 := by unfold cmpV; rw [if_neg h1, if_pos (by omega)]
   refine WpG.seq ?_
   refine WpG.reg ?_
   refine G.mv rfl ?_
   refine WpOpsG.nil ?_
   change WpG _ _ _ _ _
   refine WpG.ret ?_
   refine ⟨_, [], rfl, (hasP_le (by repeat (first | exact trivial | refine ⟨rfl, ?_⟩))), rfl, rfl, rfl, ?_⟩
   rw [h2]; exact ⟨rfl, rfl⟩
  ·(try simp only [zN] at hq4)
   have h2 : cmpV x y = 0 := by unfold cmpV; rw [if_neg h1, if_neg (by omega)]
   refine WpG.skip ?_
   change WpG _ _ _ _ _
   refine WpG.seq ?_
   refine WpG.reg ?_
   refine G.mv rfl ?_
   refine WpOpsG.nil ?_
   change WpG _ _ _ _ _
   refine WpG.ret ?_
   refine ⟨_, [], rfl, (hasP_le (by repeat (first | exact trivial | refine ⟨rfl, ?_⟩))), rfl, rfl, rfl, ?_⟩
   rw [h2]; exact ⟨rfl, rfl⟩
theorem cor_ok (a b : Int) : WpCallG A 48 [.fsl 1 (([a, b] : List Int).map encK)] [] (fun v H => v = .v (.int .i64 (orV a b)) ∧ H = []) := by
 refine WpCallG.intro g48 rfl rfl ?_
 unfold af48
 change WpG _ _ _ _ _
 refine WpG.seq ?_
 refine WpG.reg ?_
 refine G.mv rfl ?_
 refine WpOpsG.nil ?_
 change WpG _ _ _ _ _
 refine WpG.seq ?_
 refine WpG.reg ?_
 refine G.mv rfl ?_
 refine WpOpsG.nil ?_
 change WpG _ _ _ _ _
 refine WpG.seq ?_
 refine WpG.seq ?_
 refine WpG.reg ?_
 refine G.mv rfl ?_
 refine G.lenM rfl ?_
 refine G.mv rfl ?_
 refine WpOpsG.nil ?_
 change WpG _ _ _ _ _
 refine WpG.block ?_
 refine WpG.loop (S := Nat) (fun i => [(3, .v (.int .i64 0)), (6, .fsl 1 (([a, b] : List Int).map encK)), (7, .v (.int .i64 ((2 : Nat) : Int))), (8, .v (.int .i64 ((i : Nat) : Int)))]) (fun _ => []) (fun i => i ≤ 2 ∧ (1 ≤ i → a = 0) ∧ (2 ≤ i → b = 0)) (fun i => 2 - i) (fun s => ⟨rfl, rfl⟩) ?_ 0 ?_ (by repeat (first | exact trivial | refine ⟨rfl, ?_⟩)) (by repeat (first | exact trivial | refine ⟨rfl, ?_⟩)) rfl
 ·rintro i ⟨hi, ha, hb⟩
  refine WpG.seq ?_
  refine WpG.reg ?_
  refine G.bin rfl rfl rfl ?_
  refine WpOpsG.nil ?_
  change WpG _ _ _ _ _
  refine WpG.seq ?_
  refine WpG.cond rfl (fun hq1 => ?_) (fun hq1 => ?_)
  ·(try simp only [zN] at hq1)
   refine WpG.skip ?_
   change WpG _ _ _ _ _
   refine WpG.seq ?_
   refine WpG.block ?_
   refine WpG.seq ?_
   refine WpG.reg ?_
   refine G.iaddrM rfl rfl (by omega) (gd17 (0 : Int) (by show _ < 2; omega)) ?_
   rw [Int.toNat_natCast]
   refine G.load1F rfl rfl ?_
   refine G.mv rfl ?_
   refine WpOpsG.nil ?_
   change WpG _ _ _ _ _
   refine WpG.seq ?_
   refine WpG.reg ?_
   refine G.mv rfl ?_
   refine G.mv rfl ?_
   refine G.bin rfl rfl rfl ?_
   refine WpOpsG.nil ?_
   change WpG _ _ _ _ _
   refine WpG.cond rfl (fun hq2 => ?_) (fun hq2 => ?_)
   ·(try simp only [zN] at hq2)
    have hne := hq2
    refine WpG.seq ?_
    refine WpG.reg ?_
    refine G.mv rfl ?_
    refine G.mv rfl ?_
    refine WpOpsG.nil ?_
    change WpG _ _ _ _ _
    refine WpG.ret ?_
    refine ⟨_, [], rfl, (hasP_le (by repeat (first | exact trivial | refine ⟨rfl, ?_⟩))), rfl, rfl, rfl, ?_⟩
    rcases (show i = 0 ∨ i = 1 by omega) with rfl | rfl
    ·have hne : a ≠ 0 := by simpa using hne
     rw [show orV a b = a from if_pos hne]; exact ⟨rfl, rfl⟩
    ·rw [show orV a b = b from if_neg (by rw [ha (by omega)]; decide)]; exact ⟨rfl, rfl⟩
   ·(try simp only [zN] at hq2)
    have heq := hq2
    refine WpG.skip ?_
    change WpG _ _ _ _ _
    refine WpG.reg ?_
    refine G.addI rfl rfl (by omega) ?_
    refine G.mv rfl ?_
    refine WpOpsG.nil ?_
    rcases (show i = 0 ∨ i = 1 by omega) with rfl | rfl
    ·have heq : a = 0 := by simpa using heq
     exact ⟨1, by omega, ⟨by omega, fun _ => heq, fun h => by omega⟩, ⟨rfl, rfl, rfl, rfl, trivial⟩, trivial, rfl⟩
    ·have heq : b = 0 := by simpa using heq
     exact ⟨2, by omega, ⟨by omega, fun _ => ha (by omega), fun _ => heq⟩, ⟨rfl, rfl, rfl, rfl, trivial⟩, trivial, rfl⟩
  ·(try simp only [zN] at hq1)
   refine WpG.exit ?_
   change WpG _ _ _ _ _
   refine WpG.seq ?_
   refine WpG.reg ?_
   refine G.mv rfl ?_
   refine G.mv rfl ?_
   refine WpOpsG.nil ?_
   change WpG _ _ _ _ _
   refine WpG.ret ?_
   refine ⟨_, [], rfl, (hasP_le (by repeat (first | exact trivial | refine ⟨rfl, ?_⟩))), rfl, rfl, rfl, ?_⟩
   have h1 := ha (by omega)
   have h2 := hb (by omega)
   subst h1 h2
   exact ⟨rfl, rfl⟩
 ·exact ⟨by omega, fun h => by omega, fun h => by omega⟩
theorem rless_ok (l : List Nat) (ps : List Pr) (i j : Nat) (hi : i < l.length) (hj : j < l.length) (hl : ∀ x ∈ l, x < ps.length) (hn : l.length ≤ 2 ^ 40) : WpCallG A 44 [.bptr 0 0, .v (.int .i64 (i : Int)), .v (.int .i64 (j : Int))] [(0, .box [.osl 1, .fsl 3 (ps.map encPr)]), (1, .arr .yes 1 ((l).map encJ))] (fun v H => v = .v (.bool (lessV ps (nat0 l i) (nat0 l j))) ∧ H = [(0, .box [.osl 1, .fsl 3 (ps.map encPr)]), (1, .arr .yes 1 ((l).map encJ))]) := by
 have hli := hl _ (nat0_mem hi)
 have hlj := hl _ (nat0_mem hj)
 refine WpCallG.intro g44 rfl rfl ?_
 unfold af44
 change WpG _ _ _ _ _
 refine WpG.seq ?_
 refine WpG.reg ?_
 refine G.mv rfl ?_
 refine WpOpsG.nil ?_
 change WpG _ _ _ _ _
 refine WpG.seq ?_
 refine WpG.reg ?_
 refine G.mv rfl ?_
 refine G.nilcB rfl ?_
 refine G.faddrB rfl ?_
 refine G.load1B rfl rfl rfl ?_
 refine G.mv rfl ?_
 refine G.iaddrO rfl rfl rfl (by omega) (by rw [List.length_map]; omega) ?_
 rw [Int.toNat_natCast]
 refine G.load1EM rfl rfl (nat0_at (by omega)) rfl ?_
 refine G.mv rfl ?_
 refine G.nilcB rfl ?_
 refine G.faddrB rfl ?_
 refine G.load1B rfl rfl rfl ?_
 refine G.mv rfl ?_
 refine G.iaddrO rfl rfl rfl (by omega) (by rw [List.length_map]; omega) ?_
 rw [Int.toNat_natCast]
 refine G.load1EM rfl rfl (nat0_at (by omega)) rfl ?_
 refine G.mv rfl ?_
 refine G.mv rfl ?_
 refine WpOpsG.nil ?_
 change WpG _ _ _ _ _
 refine WpG.seq ?_
 refine WpG.reg ?_
 refine G.mv rfl ?_
 refine G.nilcB rfl ?_
 refine G.faddrB rfl ?_
 refine G.load1B rfl rfl rfl ?_
 refine G.mv rfl ?_
 refine G.iaddrM rfl rfl (by omega) (by rw [Int.toNat_natCast]; exact prD_at (by omega)) ?_
 refine G.faddrF rfl ?_
 refine G.load1F rfl rfl ?_
 refine G.mv rfl ?_
 refine G.nilcB rfl ?_
 refine G.faddrB rfl ?_
 refine G.load1B rfl rfl rfl ?_
 refine G.mv rfl ?_
 refine G.iaddrM rfl rfl (by omega) (by rw [Int.toNat_natCast]; exact prD_at (by omega)) ?_
 refine G.faddrF rfl ?_
 refine G.load1F rfl rfl ?_
 refine G.call0 rfl rfl (cmp_ok (prD ps (nat0 l i)).prio (prD ps (nat0 l j)).prio) ?_
 rintro _ _ ⟨rfl, rfl⟩
 refine ⟨rfl, ?_⟩
 change WpOpsG _ _ ((39, _) :: _) _ _
 refine G.mv rfl ?_
 refine G.mv rfl ?_
 refine G.call0 rfl rfl (cmp_ok (nat0 l i : Int) (nat0 l j : Int)) ?_
 rintro _ _ ⟨rfl, rfl⟩
 refine ⟨rfl, ?_⟩
 change WpOpsG _ _ ((42, _) :: _) _ _
 refine G.bsliceF rfl rfl rfl ?_
 change WpOpsG _ _ ((43, .fsl 1 (([cmpV (prD ps (nat0 l i)).prio (prD ps (nat0 l j)).prio, cmpV (nat0 l i : Int) (nat0 l j : Int)] : List Int).map encK)) :: _) _ _
 refine G.call0 rfl rfl (cor_ok (cmpV (prD ps (nat0 l i)).prio (prD ps (nat0 l j)).prio) (cmpV (nat0 l i : Int) (nat0 l j : Int))) ?_
 rintro _ _ ⟨rfl, rfl⟩
 refine ⟨rfl, ?_⟩
 change WpOpsG _ _ ((44, _) :: _) _ _
 refine G.bin rfl rfl rfl ?_
 rw [or_less]
 refine G.mv rfl ?_
 refine WpOpsG.nil ?_
 change WpG _ _ _ _ _
 refine WpG.ret ?_
 refine ⟨_, [(0, .box [.osl 1, .fsl 3 (ps.map encPr)]), (1, .arr .yes 1 ((l).map encJ))], rfl, (hasP_le (by repeat (first | exact trivial | refine ⟨rfl, ?_⟩))), rfl, rfl, rfl, ?_⟩
 exact ⟨rfl, rfl⟩
theorem rswap_ok (l : List Nat) (ps : List Pr) (i j : Nat) (hi : i < l.length) (hj : j < l.length) (hn : l.length ≤ 2 ^ 40) : WpCallG A 47 [.bptr 0 0, .v (.int .i64 (i : Int)), .v (.int .i64 (j : Int))] [(0, .box [.osl 1, .fsl 3 (ps.map encPr)]), (1, .arr .yes 1 ((l).map encJ))] (fun v H => v = .tup [] ∧ H = [(0, .box [.osl 1, .fsl 3 (ps.map encPr)]), (1, .arr .yes 1 ((swpJ l i j).map encJ))]) := by
 refine WpCallG.intro g47 rfl rfl ?_
 unfold af47
 change WpG _ _ _ _ _
 refine WpG.reg ?_
 refine G.mv rfl ?_
 refine G.nilcB rfl ?_
 refine G.faddrB rfl ?_
 refine G.load1B rfl rfl rfl ?_
 refine G.mv rfl ?_
 refine G.mv rfl ?_
 refine G.nilcB rfl ?_
 refine G.faddrB rfl ?_
 refine G.load1B rfl rfl rfl ?_
 refine G.mv rfl ?_
 refine G.mv rfl ?_
 refine G.nilcB rfl ?_
 refine G.faddrB rfl ?_
 refine G.load1B rfl rfl rfl ?_
 refine G.mv rfl ?_
 refine G.iaddrO rfl rfl rfl (by omega) (by rw [List.length_map]; omega) ?_
 rw [Int.toNat_natCast]
 refine G.load1EM rfl rfl (nat0_at (by omega)) rfl ?_
 refine G.mv rfl ?_
 refine G.nilcB rfl ?_
 refine G.faddrB rfl ?_
 refine G.load1B rfl rfl rfl ?_
 refine G.mv rfl ?_
 refine G.iaddrO rfl rfl rfl (by omega) (by rw [List.length_map]; omega) ?_
 rw [Int.toNat_natCast]
 refine G.load1EM rfl rfl (nat0_at (by omega)) rfl ?_
 refine G.iaddrO rfl rfl rfl (by omega) (by rw [List.length_map]; omega) ?_
 rw [Int.toNat_natCast]
 refine G.storeEM (nat0 l j) rfl rfl rfl (nat0_at (by omega)) rfl rfl rfl rfl ?_
 refine G.iaddrO rfl rfl rfl (by omega) (by rw [List.length_map, List.length_set]; omega) ?_
 rw [Int.toNat_natCast]
 refine G.storeEM (nat0 l i) rfl rfl rfl (nat0_at (by rw [List.length_set]; omega)) rfl rfl rfl rfl ?_
 rw [swp_set]
 refine WpOpsG.nil ?_
 refine ⟨_, [(0, .box [.osl 1, .fsl 3 (ps.map encPr)]), (1, .arr .yes 1 ((swpJ l i j).map encJ))], rfl, (hasP_le (by repeat (first | exact trivial | refine ⟨rfl, ?_⟩))), rfl, rfl, rfl, ?_⟩
 exact ⟨rfl, rfl⟩
theorem rpush_ok (l : List Nat) (ps : List Pr) (x : Nat) (hn : l.length ≤ 2 ^ 40) : WpCallG A 46 [.bptr 0 0, .ifc 3 (.v (.int .i64 (x : Int)))] [(0, .box [.osl 1, .fsl 3 (ps.map encPr)]), (1, .arr .yes 1 ((l).map encJ))] (fun v H => v = .tup [] ∧ H = [(0, .box [.osl 1, .fsl 3 (ps.map encPr)]), (1, .arr .yes 1 ((l ++ [x]).map encJ))]) := by
 refine WpCallG.intro g46 rfl rfl ?_
 unfold af46
 change WpG _ _ _ _ _
 refine WpG.reg ?_
 refine G.mv rfl ?_
 refine G.mv rfl ?_
 refine G.nilcB rfl ?_
 refine G.faddrB rfl ?_
 refine G.load1B rfl rfl rfl ?_
 refine G.mv rfl ?_
 refine G.asrt rfl ?_
 refine G.bsliceF rfl rfl rfl ?_
 change WpOpsG _ _ ((11, .fsl 1 (([x] : List Nat).map encJ)) :: _) _ _
 refine G.app rfl rfl rfl rfl trivial (by rw [List.length_map]; show (l.length + 1) * 8 ≤ 2 ^ 47; omega) ?_
 rw [← List.map_append]
 refine G.nilcB rfl ?_
 refine G.faddrB rfl ?_
 refine G.storeB rfl rfl rfl rfl rfl rfl ?_
 refine WpOpsG.nil ?_
 refine ⟨_, [(0, .box [.osl 1, .fsl 3 (ps.map encPr)]), (1, .arr .yes 1 ((l ++ [x]).map encJ))], rfl, (hasP_le (by repeat (first | exact trivial | refine ⟨rfl, ?_⟩))), rfl, rfl, rfl, ?_⟩
 exact ⟨rfl, rfl⟩
theorem rpop_ok (l : List Nat) (ps : List Pr) (h0 : 0 < l.length) (hn : l.length ≤ 2 ^ 40) : WpCallG A 45 [.bptr 0 0] [(0, .box [.osl 1, .fsl 3 (ps.map encPr)]), (1, .arr .yes 1 ((l).map encJ))] (fun v H => v = .ifc 3 (.v (.int .i64 (nat0 l (l.length - 1) : Int))) ∧ H = [(0, .box [.osl 1, .fsl 3 (ps.map encPr)]), (1, .arr .no 1 ((l.take (l.length - 1)).map encJ))]) := by
 refine WpCallG.intro g45 rfl rfl ?_
 unfold af45
 change WpG _ _ _ _ _
 refine WpG.seq ?_
 refine WpG.reg ?_
 refine G.mv rfl ?_
 refine WpOpsG.nil ?_
 change WpG _ _ _ _ _
 refine WpG.seq ?_
 refine WpG.reg ?_
 refine G.mv rfl ?_
 refine G.nilcB rfl ?_
 refine G.faddrB rfl ?_
 refine G.load1B rfl rfl rfl ?_
 refine G.lenOM rfl rfl ?_
 refine G.subI rfl rfl (by omega) ?_
 rw [show (l.length : Int) - 1 = ((l.length - 1 : Nat) : Int) by omega]
 refine G.mv rfl ?_
 refine WpOpsG.nil ?_
 change WpG _ _ _ _ _
 refine WpG.seq ?_
 refine WpG.reg ?_
 refine G.mv rfl ?_
 refine G.nilcB rfl ?_
 refine G.faddrB rfl ?_
 refine G.load1B rfl rfl rfl ?_
 refine G.mv rfl ?_
 refine G.iaddrO rfl rfl rfl (by omega) (by rw [List.length_map]; omega) ?_
 rw [Int.toNat_natCast]
 refine G.load1EM rfl rfl (nat0_at (by omega)) rfl ?_
 refine G.mv rfl ?_
 refine WpOpsG.nil ?_
 change WpG _ _ _ _ _
 refine WpG.seq ?_
 refine WpG.reg ?_
 refine G.mv rfl ?_
 refine G.mv rfl ?_
 refine G.nilcB rfl ?_
 refine G.faddrB rfl ?_
 refine G.load1B rfl rfl rfl ?_
 refine G.mv rfl ?_
 refine G.slPre (hi := l.length - 1) rfl rfl rfl (by rw [List.length_map]; omega) ?_
 rw [← List.map_take]
 refine G.nilcB rfl ?_
 refine G.faddrB rfl ?_
 refine G.storeB rfl rfl rfl rfl rfl rfl ?_
 refine WpOpsG.nil ?_
 change WpG _ _ _ _ _
 refine WpG.seq ?_
 refine WpG.reg ?_
 refine G.mv rfl ?_
 refine G.mkifc rfl ?_
 refine G.mv rfl ?_
 refine WpOpsG.nil ?_
 change WpG _ _ _ _ _
 refine WpG.ret ?_
 refine ⟨_, [(0, .box [.osl 1, .fsl 3 (ps.map encPr)]), (1, .arr .no 1 ((l.take (l.length - 1)).map encJ))], rfl, (hasP_le (by repeat (first | exact trivial | refine ⟨rfl, ?_⟩))), rfl, rfl, rfl, ?_⟩
 exact ⟨rfl, rfl⟩
end Go.AM.L16
