/- Contracts of the functions that the statement reaches. No condition. -/
import Derived.Test.YthmcocmhalhbfaaC9c
set_option linter.all false
set_option maxRecDepth 10000
namespace Go.AM.L9
open Go.AM.PL
theorem gaps_ok (l : List Rn) (p : Int) (hn : l.length ≤ 2 ^ 40) (hN : ∀ r ∈ l, okN r) (h1 : ∀ r ∈ l, 1 ≤ r.n) (hw : wlen l ≤ 2 ^ 40) : WpCallG A 22 [.fsl 2 (l.map encN), .v (.int .i64 p)] [] (fun v H => v = .v (.int .i64 (gapV l p)) ∧ H = []) := by
 have hw0 : 0 ≤ wlen l := by unfold wlen; omega
 refine WpCallG.intro g22 rfl rfl ?_
 unfold af22
 change WpG _ _ _ _ _
 refine WpG.seq ?_
 refine WpG.reg ?_
 refine G.mv rfl ?_
 refine WpOpsG.nil ?_
 change WpG _ _ _ _ _
 refine WpG.seq ?_
 refine WpG.reg ?_
 refine G.mv rfl ?_
 refine G.mv rfl ?_
 refine G.call0 rfl rfl ((spans_ok l p hn hN h1 hw).ren [(0, 20)]) ?_
 rintro _ _ ⟨_, _, ⟨rfl, rfl⟩, rfl, rfl⟩
 change newOk _ _ [(20, _)] = true ∧ _
 refine ⟨rfl, ?_⟩
 change WpOpsG _ _ ((10, .osl 20) :: _) ([(20, .arr .yes 2 ((spV p 0 l).map encSp))] ++ _) _
 refine WpOpsG.freeze 20 rfl ?_
 refine G.mv rfl ?_
 refine WpOpsG.nil ?_
 change WpG _ _ _ _ _
 refine WpG.seq ?_
 refine WpG.seq ?_
 obtain ⟨b, hb⟩ : ∃ b, spV p 0 l = b := ⟨_, rfl⟩
 have hbl := sp_len p l 0
 rw [hb] at hbl
 have hbs := sp_rng p l h1
 rw [hb] at hbs
 rw [hb]
 refine WpG.reg ?_
 refine G.mv rfl ?_
 refine G.lenM rfl ?_
 refine G.bin rfl rfl rfl ?_
 refine WpOpsG.nil ?_
 change WpG _ _ _ _ _
 refine WpG.cond rfl (fun hq1 => ?_) (fun hq1 => ?_)
 ·(try simp only [zN] at hq1)
  refine WpG.seq ?_
  refine WpG.reg ?_
  refine G.mv rfl ?_
  refine WpOpsG.nil ?_
  change WpG _ _ _ _ _
  refine WpG.ret ?_
  refine ⟨_, [], rfl, (hasP_le (by repeat (first | exact trivial | refine ⟨rfl, ?_⟩))), rfl, rfl, rfl, ?_⟩
  have e : gapV l p = -1 := by unfold gapV; rw [hb, if_pos (List.length_eq_zero_iff.1 (by omega))]
  rw [e]; exact ⟨rfl, rfl⟩
 ·(try simp only [zN] at hq1)
  refine WpG.skip ?_
  change WpG _ _ _ _ _
  refine WpG.seq ?_
  have hb0 : 0 < b.length := by omega
  have hs0 := hbs (spD b 0) (spD_mem hb0)
  have hsL := hbs (spD b (b.length - 1)) (spD_mem (by omega))
  unfold spD at hs0 hsL
  refine WpG.reg ?_
  refine G.mv rfl ?_
  refine G.iaddrM (m := 0) rfl rfl (by decide) (gd17 ((0, 0) : Sp) (by show 0 < _; omega)) ?_
  rw [show (0 : Int).toNat = 0 from rfl]
  refine G.faddrF rfl ?_
  refine G.load1F rfl rfl ?_
  refine G.mv rfl ?_
  refine G.mv rfl ?_
  refine G.mv rfl ?_
  refine G.lenM rfl ?_
  refine G.subI rfl rfl (by omega) ?_
  rw [show (b.length : Int) - 1 = ((b.length - 1 : Nat) : Int) by omega]
  refine G.iaddrM rfl rfl (by omega) (gd17 ((0, 0) : Sp) (by omega)) ?_
  rw [Int.toNat_natCast]
  refine G.faddrF rfl ?_
  refine G.load1F rfl rfl ?_
  refine G.ckcall0 rfl rfl rfl (ulen_ok l (by omega) hN) ?_
  rintro _ _ ⟨rfl, rfl⟩
  refine ⟨rfl, ?_⟩
  change WpOpsG _ _ ((19, _) :: _) _ _
  rw [total_wlen h1 (by omega)]
  refine G.addI rfl rfl (by omega) ?_
  refine G.subI rfl rfl (by omega) ?_
  refine G.mv rfl ?_
  refine WpOpsG.nil ?_
  change WpG _ _ _ _ _
  refine WpG.seq ?_
  refine WpG.seq ?_
  refine WpG.reg ?_
  refine G.mv rfl ?_
  refine WpOpsG.nil ?_
  change WpG _ _ _ _ _
  refine WpG.block ?_
  refine WpG.loop (S := Nat) (fun i => [(5, .fsl 2 (b.map encSp)), (6, .v (.int .i64 (gapI b (wlen l) i))), (7, .v (.int .i64 ((i + 1 : Nat) : Int)))]) (fun _ => []) (fun i => i + 1 ≤ b.length) (fun i => b.length - i) (fun s => ⟨rfl, rfl⟩) ?_ 0 ?_ (by repeat (first | exact trivial | refine ⟨rfl, ?_⟩)) (by repeat (first | exact trivial | refine ⟨rfl, ?_⟩)) rfl
  ·intro i hI
   refine WpG.seq ?_
   refine WpG.seq ?_
   refine WpG.reg ?_
   refine G.mv rfl ?_
   refine G.mv rfl ?_
   refine G.lenM rfl ?_
   refine G.bin rfl rfl rfl ?_
   refine WpOpsG.nil ?_
   change WpG _ _ _ _ _
   refine WpG.cond rfl (fun hq2 => ?_) (fun hq2 => ?_)
   ·(try simp only [zN] at hq2)
    refine WpG.skip ?_
    change WpG _ _ _ _ _
    refine WpG.seq ?_
    refine WpG.block ?_
    have hsi := hbs (spD b i) (spD_mem (by omega))
    have hsj := hbs (spD b (i + 1)) (spD_mem (by omega))
    unfold spD at hsi hsj
    refine WpG.reg ?_
    refine G.mv rfl ?_
    refine G.mv rfl ?_
    refine G.mv rfl ?_
    refine G.iaddrM rfl rfl (by omega) (gd17 ((0, 0) : Sp) (by omega)) ?_
    rw [Int.toNat_natCast]
    refine G.faddrF rfl ?_
    refine G.load1F rfl rfl ?_
    refine G.mv rfl ?_
    refine G.mv rfl ?_
    refine G.subI rfl rfl (by omega) ?_
    rw [show ((i + 1 : Nat) : Int) - 1 = (i : Int) by omega]
    refine G.iaddrM rfl rfl (by omega) (gd17 ((0, 0) : Sp) (by omega)) ?_
    rw [Int.toNat_natCast]
    refine G.faddrF rfl ?_
    refine G.load1F rfl rfl ?_
    refine G.subI rfl rfl (by omega) ?_
    refine G.mx rfl rfl ?_
    refine G.mv rfl ?_
    refine WpOpsG.nil ?_
    change WpG _ _ _ _ _
    refine WpG.reg ?_
    refine G.mv rfl ?_
    refine G.addI rfl rfl (by omega) ?_
    refine G.mv rfl ?_
    refine WpOpsG.nil ?_
    exact ⟨i + 1, by omega, by show i + 1 + 1 ≤ _; omega, ⟨rfl, rfl, rfl, trivial⟩, trivial, rfl⟩
   ·(try simp only [zN] at hq2)
    refine WpG.exit ?_
    change WpG _ _ _ _ _
    refine WpG.seq ?_
    refine WpG.reg ?_
    refine G.mv rfl ?_
    refine G.mv rfl ?_
    refine WpOpsG.nil ?_
    change WpG _ _ _ _ _
    refine WpG.ret ?_
    refine ⟨_, [], rfl, (hasP_le (by repeat (first | exact trivial | refine ⟨rfl, ?_⟩))), rfl, rfl, rfl, ?_⟩
    have e : gapV l p = gapI b (wlen l) i := by unfold gapV; rw [hb, if_neg (fun c => by subst c; simp at hb0), show b.length - 1 = i by omega]
    rw [e]; exact ⟨rfl, rfl⟩
  ·exact (by omega : 0 + 1 ≤ b.length)
theorem holds_ok (C : List Ch) (P : List Pt) (ts : List (List GV)) (l : List Rn) (hC : C.length ≤ 2 ^ 50) (hP : P.length ≤ 2 ^ 50) (hPp : ∀ p ∈ P, i64 p.per) (hn : l.length ≤ 2 ^ 40) (hN : ∀ r ∈ l, okN r) (h1 : ∀ r ∈ l, 1 ≤ r.n) (hw : wlen l ≤ 2 ^ 40) : WpCallG A 16 [.agg [.fsl 11 (P.map encP), .fsl 6 (C.map encC), .fsl 1 ts], .fsl 2 (l.map encN)] [] (fun v H => v = .v (.int .i64 (holdV C P l)) ∧ H = []) := by
 refine WpCallG.intro g16 rfl rfl ?_
 unfold af16
 change WpG _ _ _ _ _
 refine WpG.seq ?_
 refine WpG.reg ?_
 refine G.box (g := 10) rfl rfl rfl ?_
 refine G.mv rfl ?_
 refine WpOpsG.nil ?_
 change WpG _ _ _ _ _
 refine WpG.seq ?_
 refine WpG.seq ?_
 refine WpG.reg ?_
 refine G.faddrB rfl ?_
 refine G.load1B rfl rfl rfl ?_
 refine G.lenM rfl ?_
 refine G.mv rfl ?_
 refine WpOpsG.nil ?_
 change WpG _ _ _ _ _
 refine WpG.block ?_
 refine WpG.loop (S := Nat) (fun i => [(1, .fsl 2 (l.map encN)), (2, .bptr 10 0), (11, .fsl 6 (C.map encC)), (12, .v (.int .i64 (C.length : Int))), (13, .v (.int .i64 (i : Int)))]) (fun i => [(10, .box [.fsl 11 (P.map encP), .fsl 6 (C.map encC), .fsl 1 ts])]) (fun i => i ≤ C.length ∧ (C.take i).any (lateBad l) = false) (fun i => C.length - i) (fun s => ⟨rfl, rfl⟩) ?_ 0 ?_ (by repeat (first | exact trivial | refine ⟨rfl, ?_⟩)) (by repeat (first | exact trivial | refine ⟨rfl, ?_⟩)) rfl
 ·rintro i ⟨hI, hA⟩
  refine WpG.seq ?_
  refine WpG.reg ?_
  refine G.bin rfl rfl rfl ?_
  refine WpOpsG.nil ?_
  change WpG _ _ _ _ _
  refine WpG.seq ?_
  refine WpG.cond rfl (fun hq1 => ?_) (fun hq1 => ?_)
  ·(try simp only [zN] at hq1)
   refine WpG.skip ?_
   change WpG _ _ _ _ _
   refine WpG.seq ?_
   refine WpG.block ?_
   refine WpG.seq ?_
   refine WpG.reg ?_
   refine G.iaddrN rfl rfl (List.getElem?_eq_getElem (by omega)) ?_
   refine G.loadNF rfl rfl ?_
   refine G.box (g := 11) rfl rfl rfl ?_
   refine G.storeB rfl rfl rfl rfl rfl rfl ?_
   refine WpOpsG.nil ?_
   change WpG _ _ _ _ _
   refine WpG.seq ?_
   refine WpG.reg ?_
   refine G.mv rfl ?_
   refine G.faddrB rfl ?_
   refine G.load1B rfl rfl rfl ?_
   refine G.faddrB rfl ?_
   refine G.load1B rfl rfl rfl ?_
   refine G.call0 rfl rfl (late_ok l C[i].fr C[i].to hn hN h1 hw) ?_
   rintro _ _ ⟨rfl, rfl⟩
   refine ⟨rfl, ?_⟩
   change WpOpsG _ _ ((22, _) :: _) _ _
   refine G.mv rfl ?_
   refine WpOpsG.nil ?_
   change WpG _ _ _ _ _
   refine WpG.seq ?_
   refine WpG.reg ?_
   refine G.faddrB rfl ?_
   refine G.load1B rfl rfl rfl ?_
   refine G.bin rfl rfl rfl ?_
   refine G.mv rfl ?_
   apply G.andS rfl rfl rfl rfl rfl rfl
   case hB =>
    intro hs2
    (try simp only [zN] at hs2)
    refine G.mv rfl ?_
    refine G.faddrB rfl ?_
    refine G.load1B rfl rfl rfl ?_
    refine G.bin rfl rfl rfl ?_
    refine G.mv rfl ?_
    apply G.orS rfl rfl rfl rfl rfl rfl
    case hB =>
     intro hs3
     (try simp only [zN] at hs3)
     refine G.mv rfl ?_
     refine G.bin rfl rfl rfl ?_
     refine WpOpsG.nil ?_
     exact ⟨rfl, (by repeat (first | exact LLe.refl _ | refine LLe.cons rfl ?_)), (by repeat (first | exact HLe.refl _ | refine HLe.cons rfl ?_)), rfl⟩
    refine WpOpsG.nil ?_
    exact ⟨rfl, (by repeat (first | exact LLe.refl _ | refine LLe.cons rfl ?_)), (by repeat (first | exact HLe.refl _ | refine HLe.cons rfl ?_)), rfl⟩
   refine WpOpsG.nil ?_
   change WpG _ _ _ _ _
   refine WpG.cond rfl (fun hq4 => ?_) (fun hq4 => ?_)
   ·(try simp only [zN] at hq4)
    refine WpG.seq ?_
    refine WpG.reg ?_
    refine G.mv rfl ?_
    refine WpOpsG.nil ?_
    change WpG _ _ _ _ _
    refine WpG.ret ?_
    refine ⟨_, [], rfl, (hasP_le (by repeat (first | exact trivial | refine ⟨rfl, ?_⟩))), rfl, rfl, rfl, ?_⟩
    have hLB : lateBad l C[i] = true := by
     unfold lateBad
     rw [Bool.and_eq_true, Bool.or_eq_true, decide_eq_true_eq, decide_eq_true_eq, beq_iff_eq]; omega
    rw [hold_late (P := P) (i := i) (by omega) hLB]; exact ⟨rfl, rfl⟩
   ·(try simp only [zN] at hq4)
    refine WpG.skip ?_
    change WpG _ _ _ _ _
    refine WpG.reg ?_
    refine G.addI rfl rfl (by omega) ?_
    refine G.mv rfl ?_
    refine WpOpsG.nil ?_
    refine ⟨i + 1, by omega, ⟨by omega, ?_⟩, ⟨rfl, rfl, rfl, rfl, rfl, trivial⟩, ⟨rfl, trivial⟩, rfl⟩
    rw [any_take (by omega), hA, Bool.false_or]
    unfold lateBad
    rw [Bool.and_eq_false_iff, Bool.or_eq_false_iff, decide_eq_false_iff_not, decide_eq_false_iff_not, beq_eq_false_iff_ne]
    omega
  ·(try simp only [zN] at hq1)
   refine WpG.exit ?_
   change WpG _ _ _ _ _
   refine WpG.seq ?_
   refine WpG.seq ?_
   have hAll : C.any (lateBad l) = false := by rw [List.take_of_length_le (by omega)] at hA; exact hA
   refine WpG.reg ?_
   refine G.faddrB rfl ?_
   refine G.load1B rfl rfl rfl ?_
   refine G.lenM rfl ?_
   refine G.mv rfl ?_
   refine WpOpsG.nil ?_
   change WpG _ _ _ _ _
   refine WpG.block ?_
   refine WpG.loop (S := Nat) (fun i => [(1, .fsl 2 (l.map encN)), (38, .fsl 11 (P.map encP)), (39, .v (.int .i64 (P.length : Int))), (40, .v (.int .i64 (i : Int)))]) (fun _ => []) (fun i => i ≤ P.length ∧ ∀ k (h : k < P.length), k < i → shortBad l k P[k] = false) (fun i => P.length - i) (fun s => ⟨rfl, rfl⟩) ?_ 0 ?_ (by repeat (first | exact trivial | refine ⟨rfl, ?_⟩)) (by repeat (first | exact trivial | refine ⟨rfl, ?_⟩)) rfl
   ·rintro i ⟨hI, hS⟩
    refine WpG.seq ?_
    refine WpG.reg ?_
    refine G.bin rfl rfl rfl ?_
    refine WpOpsG.nil ?_
    change WpG _ _ _ _ _
    refine WpG.seq ?_
    refine WpG.cond rfl (fun hq5 => ?_) (fun hq5 => ?_)
    ·(try simp only [zN] at hq5)
     refine WpG.skip ?_
     change WpG _ _ _ _ _
     refine WpG.seq ?_
     refine WpG.block ?_
     refine WpG.seq ?_
     refine WpG.reg ?_
     refine G.mv rfl ?_
     refine G.iaddrN rfl rfl (List.getElem?_eq_getElem (by omega)) ?_
     refine G.loadNF rfl rfl ?_
     refine G.box (g := 12) rfl rfl rfl ?_
     refine G.mv rfl ?_
     refine G.storeB rfl rfl rfl rfl rfl rfl ?_
     refine WpOpsG.nil ?_
     change WpG _ _ _ _ _
     refine WpG.seq ?_
     refine WpG.reg ?_
     refine G.faddrB rfl ?_
     refine G.load1B rfl rfl rfl ?_
     refine G.bin rfl rfl rfl ?_
     refine G.mv rfl ?_
     apply G.andS rfl rfl rfl rfl rfl rfl
     case hB =>
      intro hs6
      (try simp only [zN] at hs6)
      refine G.mv rfl ?_
      refine G.mv rfl ?_
      refine G.faddrB rfl ?_
      refine G.load1B rfl rfl rfl ?_
      refine G.faddrB rfl ?_
      refine G.load1B rfl rfl rfl ?_
      refine G.ckcall0 rfl rfl rfl (budget_ok l (i : Int) P[i].per hn hN h1 hw (hPp _ (List.getElem_mem (by omega)))) ?_
      rintro _ _ ⟨rfl, rfl⟩
      refine ⟨rfl, ?_⟩
      change WpOpsG _ _ ((53, _) :: _) _ _
      refine G.bin rfl rfl rfl ?_
      refine WpOpsG.nil ?_
      exact ⟨rfl, (by repeat (first | exact LLe.refl _ | refine LLe.cons rfl ?_)), (by repeat (first | exact HLe.refl _ | refine HLe.cons rfl ?_)), rfl⟩
     refine WpOpsG.nil ?_
     change WpG _ _ _ _ _
     refine WpG.cond rfl (fun hq7 => ?_) (fun hq7 => ?_)
     ·(try simp only [zN] at hq7)
      refine WpG.seq ?_
      refine WpG.reg ?_
      refine G.mv rfl ?_
      refine WpOpsG.nil ?_
      change WpG _ _ _ _ _
      refine WpG.ret ?_
      refine ⟨_, [], rfl, (hasP_le (by repeat (first | exact trivial | refine ⟨rfl, ?_⟩))), rfl, rfl, rfl, ?_⟩
      have hSB : shortBad l i P[i] = true := by unfold shortBad; rw [Bool.and_eq_true, decide_eq_true_eq, decide_eq_true_eq]; omega
      rw [hold_short hAll (i := i) (by omega) hSB]; exact ⟨rfl, rfl⟩
     ·(try simp only [zN] at hq7)
      refine WpG.skip ?_
      change WpG _ _ _ _ _
      refine WpG.reg ?_
      refine G.addI rfl rfl (by omega) ?_
      refine G.mv rfl ?_
      refine WpOpsG.nil ?_
      refine ⟨i + 1, by omega, ⟨by omega, fun k hk hki => ?_⟩, ⟨rfl, rfl, rfl, rfl, trivial⟩, trivial, rfl⟩
      by_cases c : k = i
      ·subst c; unfold shortBad; rw [Bool.and_eq_false_iff, decide_eq_false_iff_not, decide_eq_false_iff_not]; omega
      ·exact hS k hk (by omega)
    ·(try simp only [zN] at hq5)
     refine WpG.exit ?_
     change WpG _ _ _ _ _
     refine WpG.seq ?_
     refine WpG.reg ?_
     refine G.mv rfl ?_
     refine WpOpsG.nil ?_
     change WpG _ _ _ _ _
     refine WpG.ret ?_
     refine ⟨_, [], rfl, (hasP_le (by repeat (first | exact trivial | refine ⟨rfl, ?_⟩))), rfl, rfl, rfl, ?_⟩
     rw [hold_ok hAll (fun k hk => hS k hk (by omega))]; exact ⟨rfl, rfl⟩
   ·exact ⟨Nat.zero_le _, fun k _ h => by omega⟩
 ·exact ⟨Nat.zero_le _, rfl⟩
end Go.AM.L9
