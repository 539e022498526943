/- Contracts of the functions that the statement reaches. No condition. -/
import Derived.Test.YtffhonjjccndpaaC6e
import Derived.Test.YtffhonjjccndpaaK6b
import Derived.Test.YtffhonjjccndpaaPL6d
set_option linter.all false
set_option maxRecDepth 10000
namespace Go.AM.L6
open Go.AM.PL
theorem known6_ok  : WpCallG A 11 [] [] (fun v H => v = .v (.bool true) ∧ H = []) := by
 have hkl : kl6.length = 6 := rfl
 refine WpCallG.intro g11 rfl rfl ?_
 unfold af11
 change WpG _ _ _ _ _
 refine WpG.seq ?_
 refine WpG.reg ?_
 refine G.mv rfl ?_
 refine WpOpsG.nil ?_
 change WpG _ _ _ _ _
 refine WpG.seq ?_
 refine WpG.reg ?_
 refine G.build rfl ?_
 refine G.build rfl ?_
 refine G.build rfl ?_
 refine G.build rfl ?_
 refine G.build rfl ?_
 refine G.build rfl ?_
 refine G.bsliceF rfl rfl rfl ?_
 change WpOpsG _ _ ((12, .fsl 2 (kl6.map encN)) :: _) _ _
 refine G.mv rfl ?_
 refine WpOpsG.nil ?_
 change WpG _ _ _ _ _
 refine WpG.seq ?_
 refine WpG.reg ?_
 refine G.call0 rfl rfl (nil1 (best6_ok [] (by decide))) ?_
 rintro _ _ ⟨rfl, rfl⟩
 refine ⟨rfl, ?_⟩
 change WpOpsG _ _ ((14, _) :: _) _ _
 rw [show bestR [] = (⟨0, 0, 0, 0⟩ : Ft) by decide +kernel]
 refine G.mv rfl ?_
 refine G.ext rfl rfl ?_
 refine G.ext rfl rfl ?_
 refine G.ext rfl rfl ?_
 refine G.mv rfl ?_
 refine G.mv rfl ?_
 refine G.mv rfl ?_
 refine WpOpsG.nil ?_
 change WpG _ _ _ _ _
 refine WpG.seq ?_
 refine WpG.reg ?_
 refine G.mv rfl ?_
 refine G.call0 rfl rfl (table6_ok kl6 (by decide)) ?_
 rintro _ _ ⟨rfl, rfl⟩
 refine ⟨rfl, ?_⟩
 change WpOpsG _ _ ((19, _) :: _) _ _
 rw [show tableV kl6 = k6t by decide +kernel]
 refine G.mv rfl ?_
 refine WpOpsG.nil ?_
 change WpG _ _ _ _ _
 refine WpG.seq ?_
 refine WpG.reg ?_
 refine G.mv rfl ?_
 refine G.call0 rfl rfl (period6_ok kl6 (by decide)) ?_
 rintro _ _ ⟨rfl, rfl⟩
 refine ⟨rfl, ?_⟩
 change WpOpsG _ _ ((21, _) :: _) _ _
 rw [show perV kl6 = 2 by decide +kernel]
 refine G.bin rfl rfl rfl ?_
 refine G.mv rfl ?_
 refine WpOpsG.known 23 true rfl rfl ?_
 refine G.mv rfl ?_
 refine G.bin rfl rfl rfl ?_
 refine G.pickT rfl rfl ?_
 refine G.mv rfl ?_
 refine WpOpsG.known 27 true rfl rfl ?_
 refine G.mv rfl ?_
 refine G.bin rfl rfl rfl ?_
 refine G.pickT rfl rfl ?_
 refine G.mv rfl ?_
 refine WpOpsG.known 31 true rfl rfl ?_
 refine G.mv rfl ?_
 refine G.bin rfl rfl rfl ?_
 refine G.pickT rfl rfl ?_
 refine G.mv rfl ?_
 refine WpOpsG.known 35 true rfl rfl ?_
 refine G.mv rfl ?_
 refine G.lenM rfl ?_
 refine G.bin rfl rfl rfl ?_
 refine G.pickT rfl rfl ?_
 refine G.mv rfl ?_
 refine WpOpsG.known 40 true rfl rfl ?_
 refine G.mv rfl ?_
 refine G.iaddrF rfl rfl (by omega) rfl ?_
 refine G.loadNF rfl rfl ?_
 refine G.build rfl ?_
 refine G.beq rfl rfl rfl ?_
 refine G.pickT rfl rfl ?_
 refine G.mv rfl ?_
 refine WpOpsG.known 47 true rfl rfl ?_
 refine G.mv rfl ?_
 refine G.slTake (n := 4) rfl rfl (by omega) ?_
 refine G.call0 rfl rfl (table6_ok (kl6.take 4) (by decide)) ?_
 rintro _ _ ⟨rfl, rfl⟩
 refine ⟨rfl, ?_⟩
 change WpOpsG _ _ ((50, _) :: _) _ _
 rw [show tableV (kl6.take 4) = ([⟨3, 0, 4⟩, ⟨1, 0, 1⟩, ⟨1, 1, 1⟩, ⟨1, 0, 1⟩, ⟨1, 1, 1⟩] : List Nd) by decide +kernel]
 refine G.lenM rfl ?_
 refine G.bin rfl rfl rfl ?_
 refine G.pickT rfl rfl ?_
 refine G.mv rfl ?_
 refine WpOpsG.known 54 true rfl rfl ?_
 refine G.mv rfl ?_
 refine G.slTake (n := 1) rfl rfl (by omega) ?_
 refine G.call0 rfl rfl (table6_ok (kl6.take 1) (by decide)) ?_
 rintro _ _ ⟨rfl, rfl⟩
 refine ⟨rfl, ?_⟩
 change WpOpsG _ _ ((57, _) :: _) _ _
 rw [show tableV (kl6.take 1) = ([⟨1, 0, 1⟩] : List Nd) by decide +kernel]
 refine G.lenM rfl ?_
 refine G.bin rfl rfl rfl ?_
 refine G.pickT rfl rfl ?_
 refine G.mv rfl ?_
 refine WpOpsG.known 61 true rfl rfl ?_
 refine G.mv rfl ?_
 refine G.call0 rfl rfl (plain6_ok kl6 (by decide)) ?_
 rintro _ _ ⟨rfl, rfl⟩
 refine ⟨rfl, ?_⟩
 change WpOpsG _ _ ((63, _) :: _) _ _
 rw [show plainV kl6 = ([⟨3, 0, 6⟩, ⟨1, 0, 1⟩, ⟨1, 1, 1⟩, ⟨1, 0, 1⟩, ⟨1, 1, 1⟩, ⟨1, 0, 1⟩, ⟨1, 1, 1⟩] : List Nd) by decide +kernel]
 refine G.lenM rfl ?_
 refine G.bin rfl rfl rfl ?_
 refine G.pickT rfl rfl ?_
 refine G.mv rfl ?_
 refine WpOpsG.known 67 true rfl rfl ?_
 refine G.call0 rfl rfl (nil1 (plain6_ok [] (by decide))) ?_
 rintro _ _ ⟨rfl, rfl⟩
 refine ⟨rfl, ?_⟩
 change WpOpsG _ _ ((68, _) :: _) _ _
 rw [show plainV [] = ([] : List Nd) by decide +kernel]
 refine G.lenM rfl ?_
 refine G.bin rfl rfl rfl ?_
 refine G.pickT rfl rfl ?_
 refine G.mv rfl ?_
 refine WpOpsG.known 72 true rfl rfl ?_
 refine G.call0 rfl rfl (nil1 (period6_ok [] (by decide))) ?_
 rintro _ _ ⟨rfl, rfl⟩
 refine ⟨rfl, ?_⟩
 change WpOpsG _ _ ((73, _) :: _) _ _
 rw [show perV [] = 0 by decide +kernel]
 refine G.bin rfl rfl rfl ?_
 refine G.pickT rfl rfl ?_
 refine G.mv rfl ?_
 refine WpOpsG.nil ?_
 change WpG _ _ _ _ _
 refine WpG.ret ?_
 refine ⟨_, [], rfl, (hasP_le (by repeat (first | exact trivial | refine ⟨rfl, ?_⟩))), rfl, rfl, rfl, ?_⟩
 exact ⟨rfl, rfl⟩
theorem foldPeriods_ok (t : List Int) (n : Int) (ht : t.length ≤ 2 ^ 50) (hi : ∀ x ∈ t, i64 x) : WpCallG A 4 [.fsl 1 (t.map encK), .v (.int .i64 n)] [] (fun v H => v = .v (.bool true) ∧ H = []) := by
 refine WpCallG.intro g4 rfl rfl ?_
 unfold af4
 change WpG _ _ _ _ _
 refine WpG.seq ?_
 refine WpG.reg ?_
 refine G.mv rfl ?_
 refine WpOpsG.nil ?_
 change WpG _ _ _ _ _
 refine WpG.seq ?_
 refine WpG.reg ?_
 refine G.mv rfl ?_
 refine G.build rfl ?_
 refine G.box (g := 11) rfl rfl rfl ?_
 change WpOpsG _ _ _ ((11, tbox t 0) :: _) _
 refine G.call (P := [(11, tbox t 0)]) rfl (by repeat (first | exact trivial | refine ⟨rfl, ?_⟩)) rfl rfl ((truns_ok t 0 2 8 ht hi (Nat.zero_le _) (by decide) (by decide)).ren [(0, 11)]) ?_
 rintro _ _ ⟨_, _, ⟨rfl, rfl⟩, rfl, rfl⟩
 change newOk _ _ [(11, tbox t _)] = true ∧ _
 refine ⟨rfl, ?_⟩
 change WpOpsG _ _ ((17, .fsl 2 ((tapeRuns t 0 2 8).1.map encN)) :: _) ([(11, tbox t _)] ++ _) _
 have hL := tapeRuns_ok t 0 2 8 (by decide) (by decide) (Nat.zero_le _)
 obtain ⟨L, hLs⟩ : ∃ rs, rs = (tapeRuns t 0 2 8).1 := ⟨_, rfl⟩
 rw [← hLs] at hL ⊢
 have hLl : L.length ≤ 8 := by have := hL.2.2.1; omega
 refine G.mv rfl ?_
 refine WpOpsG.nil ?_
 change WpG _ _ _ _ _
 refine WpG.seq ?_
 refine WpG.reg ?_
 refine G.mv rfl ?_
 refine G.andK rfl rfl ?_
 obtain ⟨q, eq, hq⟩ := and_rng1 n 7 (by decide)
 rw [show andI .i64 n 7 = (q : Int) from eq]
 refine G.addI rfl rfl (by omega) ?_
 refine G.mv rfl ?_
 refine WpOpsG.nil ?_
 change WpG _ _ _ _ _
 refine WpG.seq ?_
 refine WpG.reg ?_
 refine G.mv rfl ?_
 refine G.mv rfl ?_
 refine G.call0 rfl rfl ((nil1 (nil3 (again6_ok [] L [] (1 + (q : Int)) (by decide) (by omega) (by decide) (by omega)))).ren [(0, 20)]) ?_
 rintro _ _ ⟨_, _, ⟨m, hag, rfl, rfl⟩, rfl, rfl⟩
 change newOk _ _ [(20, _)] = true ∧ _
 refine ⟨rfl, ?_⟩
 change WpOpsG _ _ ((23, .osl 20) :: _) ([(20, .arr .yes 2 (([] ++ repR m L ++ []).map encN))] ++ _) _
 rw [List.nil_append, List.append_nil]
 refine WpOpsG.freeze 20 rfl ?_
 have hpr := per_row hL.2.1 hLl (by omega) hag
 have hrl := repR_len L m
 have hml : 1 * L.length ≤ m * L.length := Nat.mul_le_mul_right _ hpr.1
 have hPL := per_pos (l := L) (by omega)
 have hPR := per_pos (l := repR m L) (by omega)
 have hQP := per_rep (l := L) (by omega) hpr.1
 obtain ⟨row, hrow⟩ : ∃ r, repR m L = r := ⟨_, rfl⟩
 rw [hrow] at hrl hPR hQP ⊢
 change WpOpsG _ _ ((23, .fsl 2 (row.map encN)) :: _) _ _
 refine G.mv rfl ?_
 refine WpOpsG.nil ?_
 change WpG _ _ _ _ _
 refine WpG.seq ?_
 refine WpG.reg ?_
 refine G.mv rfl ?_
 refine G.call0 rfl rfl (period6_ok L (by omega)) ?_
 rintro _ _ ⟨rfl, rfl⟩
 refine ⟨rfl, ?_⟩
 change WpOpsG _ _ ((25, _) :: _) _ _
 refine G.mv rfl ?_
 refine G.call0 rfl rfl (period6_ok row (by omega)) ?_
 rintro _ _ ⟨rfl, rfl⟩
 refine ⟨rfl, ?_⟩
 change WpOpsG _ _ ((27, _) :: _) _ _
 obtain ⟨P, hP⟩ : ∃ p, perV L = p := ⟨_, rfl⟩
 obtain ⟨Q, hQ⟩ : ∃ p, perV row = p := ⟨_, rfl⟩
 rw [hP] at hPL hQP ⊢
 rw [hQ] at hPR hQP ⊢
 have hm1 := mod_i hPL.2.1
 have hm2 := mod_i hPR.2.1
 refine G.mv rfl ?_
 refine G.mv rfl ?_
 refine WpOpsG.nil ?_
 change WpG _ _ _ _ _
 refine WpG.seq ?_
 refine WpG.seq ?_
 refine WpG.reg ?_
 refine G.mv rfl ?_
 refine G.bin rfl rfl rfl ?_
 rw [decide_eq_false (by omega)]
 refine G.mv rfl ?_
 refine WpOpsG.known 30 false rfl rfl ?_
 refine G.mv rfl ?_
 refine G.bin rfl rfl rfl ?_
 rw [decide_eq_false (by omega)]
 refine G.pickF rfl rfl ?_
 refine G.mv rfl ?_
 refine WpOpsG.known 34 false rfl rfl ?_
 refine G.mv rfl ?_
 refine G.lenM rfl ?_
 refine G.mv rfl ?_
 refine G.remN rfl rfl (by omega) (by omega) ?_
 refine G.bin rfl rfl rfl ?_
 rw [hm1]
 refine G.pickF rfl rfl ?_
 refine G.mv rfl ?_
 refine WpOpsG.known 41 false rfl rfl ?_
 refine G.mv rfl ?_
 refine G.lenM rfl ?_
 refine G.mv rfl ?_
 refine G.remN rfl rfl (by omega) (by omega) ?_
 refine G.bin rfl rfl rfl ?_
 rw [hm2]
 refine G.pickF rfl rfl ?_
 refine G.mv rfl ?_
 refine WpOpsG.known 48 false rfl rfl ?_
 refine G.mv rfl ?_
 refine G.mv rfl ?_
 refine G.bin rfl rfl rfl ?_
 rw [decide_eq_false (by omega)]
 refine G.pickF rfl rfl ?_
 refine WpOpsG.nil ?_
 change WpG _ _ _ _ _
 refine WpG.cond rfl (fun hq1 => absurd hq1 (by decide)) (fun hq1 => ?_)
 refine WpG.skip ?_
 change WpG _ _ _ _ _
 refine WpG.seq ?_
 refine WpG.seq ?_
 refine WpG.reg ?_
 refine G.mv rfl ?_
 refine G.mv rfl ?_
 refine WpOpsG.nil ?_
 change WpG _ _ _ _ _
 refine WpG.block ?_
 refine WpG.loop (S := Nat) (fun i => [(4, .v (.bool false)), (7, .fsl 2 (row.map encN)), (9, .v (.int .i64 (Q : Int))), (10, .v (.int .i64 (i : Int)))]) (fun _ => []) (fun i => Q ≤ i ∧ i ≤ row.length) (fun i => row.length - i) (fun s => ⟨rfl, rfl⟩) ?_ Q ?_ (by repeat (first | exact trivial | refine ⟨rfl, ?_⟩)) (by repeat (first | exact trivial | refine ⟨rfl, ?_⟩)) rfl
 ·rintro i ⟨hi0, hi1⟩
  refine WpG.seq ?_
  refine WpG.seq ?_
  refine WpG.reg ?_
  refine G.mv rfl ?_
  refine G.mv rfl ?_
  refine G.lenM rfl ?_
  refine G.bin rfl rfl rfl ?_
  refine WpOpsG.nil ?_
  change WpG _ _ _ _ _
  refine WpG.cond rfl (fun hq2 => ?_) (fun hq2 => ?_)
  ·(try simp only [zN] at hq2)
   refine WpG.skip ?_
   change WpG _ _ _ _ _
   refine WpG.seq ?_
   refine WpG.block ?_
   refine WpG.seq ?_
   refine WpG.reg ?_
   refine G.mv rfl ?_
   refine G.mv rfl ?_
   refine G.iaddrN rfl rfl (List.getElem?_eq_getElem (by omega)) ?_
   refine G.loadNF rfl rfl ?_
   refine G.mv rfl ?_
   refine G.mv rfl ?_
   refine G.mv rfl ?_
   refine G.subI rfl rfl (by omega) ?_
   rw [show (i : Int) - (Q : Int) = ((i - Q : Nat) : Int) by omega]
   refine G.iaddrN rfl rfl (List.getElem?_eq_getElem (by omega)) ?_
   have he : row[i]'(by omega) = row[i - Q]'(by omega) := by
    have h1 := hPR.2.2.2 i (by omega) (by omega)
    rw [List.getElem?_eq_getElem (by omega), List.getElem?_eq_getElem (by omega)] at h1
    exact Option.some.inj h1
   rw [he]
   refine G.loadNF rfl rfl ?_
   refine G.beq rfl rfl rfl ?_
   simp only [beq_self_eq_true, Bool.and_self]
   refine WpOpsG.nil ?_
   change WpG _ _ _ _ _
   refine WpG.cond rfl (fun hq3 => absurd hq3 (by decide)) (fun hq3 => ?_)
   refine WpG.skip ?_
   change WpG _ _ _ _ _
   refine WpG.reg ?_
   refine G.mv rfl ?_
   refine G.addI rfl rfl (by omega) ?_
   refine G.mv rfl ?_
   refine WpOpsG.nil ?_
   exact ⟨i + 1, by omega, ⟨by omega, by omega⟩, ⟨rfl, rfl, rfl, rfl, trivial⟩, trivial, rfl⟩
  ·(try simp only [zN] at hq2)
   refine WpG.exit ?_
   change WpG _ _ _ _ _
   refine WpG.seq ?_
   refine WpG.reg ?_
   refine G.mv rfl ?_
   refine G.call0 rfl rfl (best6_ok row (by omega)) ?_
   rintro _ _ ⟨rfl, rfl⟩
   refine ⟨rfl, ?_⟩
   change WpOpsG _ _ ((73, _) :: _) _ _
   obtain ⟨o, hoE⟩ : ∃ o, bestR row = o := ⟨_, rfl⟩
   have hfo := fit_len hoE
   rw [hoE]
   have hi51 : (o.p : Int) * (o.n : Int) = ((o.p * o.n : Nat) : Int) := by rw [Int.natCast_mul]
   have hfit : (o.n : Int) = 0 ∨ ((o.a : Int) + (o.p : Int) * (o.n : Int) ≤ (row.length : Int) ∧ 2 ≤ (o.n : Int)) := by rw [hi51]; omega
   refine G.mv rfl ?_
   refine G.ext rfl rfl ?_
   refine G.ext rfl rfl ?_
   refine G.ext rfl rfl ?_
   refine G.mv rfl ?_
   refine G.mv rfl ?_
   refine G.mv rfl ?_
   refine WpOpsG.nil ?_
   change WpG _ _ _ _ _
   refine WpG.seq ?_
   refine WpG.reg ?_
   refine G.mv rfl ?_
   refine G.lenM rfl ?_
   refine G.bin rfl rfl rfl ?_
   refine G.mv rfl ?_
   apply G.orS rfl rfl rfl rfl rfl rfl
   case hB =>
    intro hs4
    (try simp only [zN] at hs4)
    refine G.mv rfl ?_
    refine G.bin rfl rfl rfl ?_
    refine WpOpsG.nil ?_
    exact ⟨rfl, (by repeat (first | exact LLe.refl _ | refine LLe.cons rfl ?_)), (by repeat (first | exact HLe.refl _ | refine HLe.cons rfl ?_)), rfl⟩
   refine G.mv rfl ?_
   apply G.orS rfl rfl rfl rfl rfl rfl
   case hB =>
    intro hs5
    (try simp only [zN] at hs5)
    refine G.mv rfl ?_
    refine G.mv rfl ?_
    refine G.mv rfl ?_
    refine G.mulI rfl rfl (by omega) ?_
    refine G.addI rfl rfl (by omega) ?_
    refine G.mv rfl ?_
    refine G.lenM rfl ?_
    refine G.bin rfl rfl rfl ?_
    refine G.mv rfl ?_
    apply G.andS rfl rfl rfl rfl rfl rfl
    case hB =>
     intro hs6
     (try simp only [zN] at hs6)
     refine G.mv rfl ?_
     refine G.bin rfl rfl rfl ?_
     refine WpOpsG.nil ?_
     exact ⟨rfl, (by repeat (first | exact LLe.refl _ | refine LLe.cons rfl ?_)), (by repeat (first | exact HLe.refl _ | refine HLe.cons rfl ?_)), rfl⟩
    refine WpOpsG.nil ?_
    exact ⟨rfl, (by repeat (first | exact LLe.refl _ | refine LLe.cons rfl ?_)), (by repeat (first | exact HLe.refl _ | refine HLe.cons rfl ?_)), rfl⟩
   refine G.mv rfl ?_
   rw [or3_true hfit]
   refine WpOpsG.known 98 true rfl rfl ?_
   refine G.call0 rfl rfl (known6_ok) ?_
   rintro _ _ ⟨rfl, rfl⟩
   refine ⟨rfl, ?_⟩
   change WpOpsG _ _ ((99, _) :: _) _ _
   refine G.pickT rfl rfl ?_
   refine G.mv rfl ?_
   refine WpOpsG.nil ?_
   change WpG _ _ _ _ _
   refine WpG.ret ?_
   refine ⟨_, [], rfl, (hasP_le (by repeat (first | exact trivial | refine ⟨rfl, ?_⟩))), rfl, rfl, rfl, ?_⟩
   exact ⟨rfl, rfl⟩
 ·exact ⟨Nat.le_refl _, hPR.2.2.1⟩
end Go.AM.L6
