/- Contracts of the functions that the statement reaches. No condition. -/
import Derived.Test.YtkcacljpghfiaaaC16f
set_option linter.all false
set_option maxRecDepth 10000
namespace Go.AM.L16
open Go.AM.PL
theorem reset16_ok (ps : List Pr) (hn : ps.length ≤ 1000) : WpCallG A 17 [.bptr 0 0] [(0, .box [.osl 1]), (1, .arr .yes 3 (ps.map encPr))] (fun v H => v = .tup [] ∧ H = [(0, .box [.osl 1]), (1, .arr .yes 3 ((ps.map rstP).map encPr))]) := by
 refine WpCallG.intro g17 rfl rfl ?_
 unfold af17
 change WpG _ _ _ _ _
 refine WpG.seq ?_
 refine WpG.reg ?_
 refine G.mv rfl ?_
 refine G.nilcB rfl ?_
 refine G.faddrB rfl ?_
 refine G.load1B rfl rfl rfl ?_
 refine G.lenOM rfl rfl ?_
 refine G.mv rfl ?_
 refine WpOpsG.nil ?_
 change WpG _ _ _ _ _
 refine WpG.block ?_
 refine WpG.loop (S := Nat × List Pr) (fun s => [(0, .bptr 0 0), (6, .osl 1), (7, .v (.int .i64 (ps.length : Int))), (8, .v (.int .i64 (s.1 : Int)))]) (fun s => [(0, .box [.osl 1]), (1, .arr .yes 3 (s.2.map encPr))]) (fun s => s.1 ≤ ps.length ∧ s.2.length = ps.length ∧ ∀ k, k < ps.length → prD s.2 k = if k < s.1 then rstP (prD ps k) else prD ps k) (fun s => ps.length - s.1) (fun s => ⟨rfl, rfl⟩) ?_ (0, ps) ?_ (by repeat (first | exact trivial | refine ⟨rfl, ?_⟩)) (by repeat (first | exact trivial | refine ⟨rfl, ?_⟩)) rfl
 ·rintro ⟨i, qs⟩ ⟨hI, hql, hq⟩
  dsimp only at hI hql hq ⊢
  refine WpG.seq ?_
  refine WpG.reg ?_
  refine G.bin rfl rfl rfl ?_
  refine WpOpsG.nil ?_
  change WpG _ _ _ _ _
  refine WpG.seq ?_
  refine WpG.cond rfl (fun hq1 => ?_) (fun hq1 => ?_)
  ·(try simp only [zN] at hq1)
   refine WpG.skip ?_
   change WpG _ _ _ _ _
   refine WpG.seq ?_
   refine WpG.block ?_
   refine WpG.seq ?_
   refine WpG.reg ?_
   refine G.mv rfl ?_
   refine G.mv rfl ?_
   refine WpOpsG.nil ?_
   change WpG _ _ _ _ _
   refine WpG.reg ?_
   refine G.mv rfl ?_
   refine G.nilcB rfl ?_
   refine G.faddrB rfl ?_
   refine G.load1B rfl rfl rfl ?_
   refine G.mv rfl ?_
   refine G.mv rfl ?_
   refine G.nilcB rfl ?_
   refine G.faddrB rfl ?_
   refine G.load1B rfl rfl rfl ?_
   refine G.mv rfl ?_
   refine G.iaddrO rfl rfl rfl (by omega) (by rw [List.length_map]; omega) ?_
   rw [Int.toNat_natCast]
   refine G.faddrE rfl ?_
   refine G.storeEM ({ prD qs i with wake := 0 }) rfl rfl rfl (prD_at (by omega)) rfl rfl rfl rfl ?_
   refine G.iaddrO rfl rfl rfl (by omega) (by rw [List.length_map, List.length_set]; omega) ?_
   rw [Int.toNat_natCast]
   refine G.faddrE rfl ?_
   refine G.storeEM ({ prD qs i with wake := 0, ended := false }) rfl rfl rfl (List.getElem?_set_self (by omega)) rfl rfl rfl rfl ?_
   rw [List.set_set]
   refine WpOpsG.nil ?_
   change WpG _ _ _ _ _
   refine WpG.reg ?_
   refine G.addI rfl rfl (by omega) ?_
   refine G.mv rfl ?_
   refine WpOpsG.nil ?_
   exact ⟨(i + 1, qs.set i { prD qs i with wake := 0, ended := false }), by show _ - (i + 1) < _ - i; omega, ⟨by dsimp only; omega, by dsimp only; rw [List.length_set]; exact hql, fun k hk => by dsimp only; exact rst_step (by omega) hq hk⟩, ⟨rfl, rfl, rfl, rfl, trivial⟩, ⟨rfl, rfl, trivial⟩, rfl⟩
  ·(try simp only [zN] at hq1)
   refine WpG.exit ?_
   refine ⟨_, [(0, .box [.osl 1]), (1, .arr .yes 3 (qs.map encPr))], rfl, (hasP_le (by repeat (first | exact trivial | refine ⟨rfl, ?_⟩))), rfl, rfl, rfl, ?_⟩
   rw [show qs = ps.map rstP from rst_all hql (fun k hk => by rw [hq k hk, if_pos (by omega)])]; exact ⟨rfl, rfl⟩
 ·exact ⟨Nat.zero_le _, rfl, fun k _ => by dsimp only; rw [if_neg (by omega)]⟩
theorem known16_ok  : WpCallG A 8 [] [] (fun v H => v = .v (.bool true) ∧ H = []) := by
 refine WpCallG.intro g8 rfl rfl ?_
 unfold af8
 change WpG _ _ _ _ _
 refine WpG.seq ?_
 refine WpG.reg ?_
 refine G.mv rfl ?_
 refine WpOpsG.nil ?_
 change WpG _ _ _ _ _
 refine WpG.seq ?_
 refine WpG.reg ?_
 refine G.build rfl ?_
 refine G.build rfl ?_
 refine G.bsliceF rfl rfl rfl ?_
 change WpOpsG _ _ ((11, .fsl 2 (([(0, 5), (0, 3)] : List Sp).map encSp)) :: _) _ _
 refine G.call0 rfl rfl ((new16_ok [(0, 5), (0, 3)] (by decide) (by decide)).ren [(0, 20), (1, 21)]) ?_
 rintro _ _ ⟨_, _, ⟨rfl, rfl⟩, rfl, rfl⟩
 change newOk _ _ [(20, _), (21, _)] = true ∧ _
 refine ⟨rfl, ?_⟩
 change WpOpsG _ _ ((12, .bptr 20 0) :: _) ([(20, .box [.osl 21]), (21, .arr .yes 3 ((newP [(0, 5), (0, 3)]).map encPr))] ++ _) _
 refine G.mv rfl ?_
 refine WpOpsG.nil ?_
 change WpG _ _ _ _ _
 refine WpG.seq ?_
 refine WpG.seq ?_
 refine WpG.reg ?_
 refine G.mv rfl ?_
 refine G.eqnilB rfl ?_
 refine G.mv rfl ?_
 refine WpOpsG.known 15 false rfl rfl ?_
 refine G.call0 rfl rfl (nil1 (newN16_ok [] (by decide) (by decide))) ?_
 rintro _ _ ⟨rfl, rfl⟩
 refine ⟨rfl, ?_⟩
 change WpOpsG _ _ ((16, _) :: _) _ _
 refine G.eqnilP rfl ?_
 refine G.pickF rfl rfl ?_
 refine WpOpsG.nil ?_
 change WpG _ _ _ _ _
 refine WpG.cond rfl (fun hq1 => absurd hq1 (by decide)) (fun hq1 => ?_)
 refine WpG.skip ?_
 change WpG _ _ _ _ _
 refine WpG.seq ?_
 refine WpG.reg ?_
 refine G.mv rfl ?_
 refine G.lend rfl rfl (pick_ok (newP [(0, 5), (0, 3)]) 0 (by decide)) ?_
 rintro _ _ ⟨rfl, rfl⟩
 refine ⟨rfl, trivial, rfl, ?_⟩
 change WpOpsG _ _ ((20, _) :: _) _ _
 rw [show pickV (newP [(0, 5), (0, 3)]) 0 = 1 by decide +kernel]
 refine G.mv rfl ?_
 refine WpOpsG.nil ?_
 change WpG _ _ _ _ _
 refine WpG.seq ?_
 refine WpG.reg ?_
 refine G.mv rfl ?_
 refine G.call (P := [(20, .box [.osl 21]), (21, .arr .yes 3 ((newP [(0, 5), (0, 3)]).map encPr))]) rfl (by repeat (first | exact trivial | refine ⟨rfl, ?_⟩)) rfl rfl ((sleep16_ok (newP [(0, 5), (0, 3)]) 1 10 (by decide)).ren [(0, 20), (1, 21)]) ?_
 rintro _ _ ⟨_, _, ⟨rfl, rfl⟩, rfl, rfl⟩
 change newOk _ _ [(20, _), (21, _)] = true ∧ _
 refine ⟨rfl, ?_⟩
 change WpOpsG _ _ ((22, _) :: _) ([(20, .box [.osl 21]), (21, .arr .yes 3 ((sleepV (newP [(0, 5), (0, 3)]) 1 10).map encPr))] ++ _) _
 rw [show isV (newP [(0, 5), (0, 3)]) 1 = true by decide +kernel]
 refine G.mv rfl ?_
 refine WpOpsG.nil ?_
 change WpG _ _ _ _ _
 refine WpG.seq ?_
 refine WpG.reg ?_
 refine G.mv rfl ?_
 refine G.lend rfl rfl (pick_ok (sleepV (newP [(0, 5), (0, 3)]) 1 10) 9 (by decide)) ?_
 rintro _ _ ⟨rfl, rfl⟩
 refine ⟨rfl, trivial, rfl, ?_⟩
 change WpOpsG _ _ ((24, _) :: _) _ _
 rw [show pickV (sleepV (newP [(0, 5), (0, 3)]) 1 10) 9 = 0 by decide +kernel]
 refine G.mv rfl ?_
 refine G.lend rfl rfl (pick_ok (sleepV (newP [(0, 5), (0, 3)]) 1 10) 10 (by decide)) ?_
 rintro _ _ ⟨rfl, rfl⟩
 refine ⟨rfl, trivial, rfl, ?_⟩
 change WpOpsG _ _ ((26, _) :: _) _ _
 rw [show pickV (sleepV (newP [(0, 5), (0, 3)]) 1 10) 10 = 1 by decide +kernel]
 refine G.mv rfl ?_
 refine G.mv rfl ?_
 refine WpOpsG.nil ?_
 change WpG _ _ _ _ _
 refine WpG.seq ?_
 refine WpG.reg ?_
 refine G.mv rfl ?_
 refine G.lend rfl rfl (next16_ok (sleepV (newP [(0, 5), (0, 3)]) 1 10) 0 (by decide)) ?_
 rintro _ _ ⟨rfl, rfl⟩
 refine ⟨rfl, trivial, rfl, ?_⟩
 change WpOpsG _ _ ((28, _) :: _) _ _
 rw [show nextP (sleepV (newP [(0, 5), (0, 3)]) 1 10) 0 = 10 by decide +kernel]
 refine G.mv rfl ?_
 refine WpOpsG.nil ?_
 change WpG _ _ _ _ _
 refine WpG.seq ?_
 refine WpG.reg ?_
 refine G.mv rfl ?_
 refine G.call (P := [(20, .box [.osl 21]), (21, .arr .yes 3 ((sleepV (newP [(0, 5), (0, 3)]) 1 10).map encPr))]) rfl (by repeat (first | exact trivial | refine ⟨rfl, ?_⟩)) rfl rfl ((end16_ok (sleepV (newP [(0, 5), (0, 3)]) 1 10) 1 (by decide)).ren [(0, 20), (1, 21)]) ?_
 rintro _ _ ⟨_, _, ⟨rfl, rfl⟩, rfl, rfl⟩
 change newOk _ _ [(20, _), (21, _)] = true ∧ _
 refine ⟨rfl, ?_⟩
 change WpOpsG _ _ ((30, _) :: _) ([(20, .box [.osl 21]), (21, .arr .yes 3 ((endV (sleepV (newP [(0, 5), (0, 3)]) 1 10) 1).map encPr))] ++ _) _
 rw [show isV (sleepV (newP [(0, 5), (0, 3)]) 1 10) 1 = true by decide +kernel]
 refine G.mv rfl ?_
 refine WpOpsG.nil ?_
 change WpG _ _ _ _ _
 refine WpG.seq ?_
 refine WpG.reg ?_
 refine G.mv rfl ?_
 refine G.call (P := [(20, .box [.osl 21]), (21, .arr .yes 3 ((endV (sleepV (newP [(0, 5), (0, 3)]) 1 10) 1).map encPr))]) rfl (by repeat (first | exact trivial | refine ⟨rfl, ?_⟩)) rfl rfl ((end16_ok (endV (sleepV (newP [(0, 5), (0, 3)]) 1 10) 1) 0 (by decide)).ren [(0, 20), (1, 21)]) ?_
 rintro _ _ ⟨_, _, ⟨rfl, rfl⟩, rfl, rfl⟩
 change newOk _ _ [(20, _), (21, _)] = true ∧ _
 refine ⟨rfl, ?_⟩
 change WpOpsG _ _ ((32, _) :: _) ([(20, .box [.osl 21]), (21, .arr .yes 3 ((endV (endV (sleepV (newP [(0, 5), (0, 3)]) 1 10) 1) 0).map encPr))] ++ _) _
 rw [show isV (endV (sleepV (newP [(0, 5), (0, 3)]) 1 10) 1) 0 = true by decide +kernel]
 refine G.mv rfl ?_
 refine WpOpsG.nil ?_
 change WpG _ _ _ _ _
 refine WpG.seq ?_
 refine WpG.reg ?_
 refine G.mv rfl ?_
 refine G.bin rfl rfl rfl ?_
 refine G.mv rfl ?_
 refine WpOpsG.known 35 true rfl rfl ?_
 refine G.mv rfl ?_
 refine G.pickT rfl rfl ?_
 refine G.mv rfl ?_
 refine WpOpsG.known 38 true rfl rfl ?_
 refine G.mv rfl ?_
 refine G.bin rfl rfl rfl ?_
 refine G.pickT rfl rfl ?_
 refine G.mv rfl ?_
 refine WpOpsG.known 42 true rfl rfl ?_
 refine G.mv rfl ?_
 refine G.bin rfl rfl rfl ?_
 refine G.pickT rfl rfl ?_
 refine G.mv rfl ?_
 refine WpOpsG.known 46 true rfl rfl ?_
 refine G.mv rfl ?_
 refine G.bin rfl rfl rfl ?_
 refine G.pickT rfl rfl ?_
 refine G.mv rfl ?_
 refine WpOpsG.known 50 true rfl rfl ?_
 refine G.mv rfl ?_
 refine G.pickT rfl rfl ?_
 refine G.mv rfl ?_
 refine WpOpsG.known 53 true rfl rfl ?_
 refine G.mv rfl ?_
 refine G.pickT rfl rfl ?_
 refine G.mv rfl ?_
 refine WpOpsG.known 56 true rfl rfl ?_
 refine G.mv rfl ?_
 refine G.lend rfl rfl (pick_ok (endV (endV (sleepV (newP [(0, 5), (0, 3)]) 1 10) 1) 0) 99 (by decide)) ?_
 rintro _ _ ⟨rfl, rfl⟩
 refine ⟨rfl, trivial, rfl, ?_⟩
 change WpOpsG _ _ ((58, _) :: _) _ _
 rw [show pickV (endV (endV (sleepV (newP [(0, 5), (0, 3)]) 1 10) 1) 0) 99 = -1 by decide +kernel]
 refine G.bin rfl rfl rfl ?_
 refine G.pickT rfl rfl ?_
 refine G.mv rfl ?_
 refine WpOpsG.known 61 true rfl rfl ?_
 refine G.mv rfl ?_
 refine G.lend rfl rfl (ended16_ok (endV (endV (sleepV (newP [(0, 5), (0, 3)]) 1 10) 1) 0) 1 (by decide)) ?_
 rintro _ _ ⟨rfl, rfl⟩
 refine ⟨rfl, trivial, rfl, ?_⟩
 change WpOpsG _ _ ((63, _) :: _) _ _
 rw [show endedV (endV (endV (sleepV (newP [(0, 5), (0, 3)]) 1 10) 1) 0) 1 = true by decide +kernel]
 refine G.pickT rfl rfl ?_
 refine G.mv rfl ?_
 refine WpOpsG.known 65 true rfl rfl ?_
 refine G.mv rfl ?_
 refine G.lend rfl rfl (ended16_ok (endV (endV (sleepV (newP [(0, 5), (0, 3)]) 1 10) 1) 0) 7 (by decide)) ?_
 rintro _ _ ⟨rfl, rfl⟩
 refine ⟨rfl, trivial, rfl, ?_⟩
 change WpOpsG _ _ ((67, _) :: _) _ _
 rw [show endedV (endV (endV (sleepV (newP [(0, 5), (0, 3)]) 1 10) 1) 0) 7 = true by decide +kernel]
 refine G.pickT rfl rfl ?_
 refine G.mv rfl ?_
 refine WpOpsG.known 69 true rfl rfl ?_
 refine G.mv rfl ?_
 refine G.lend rfl rfl (wake16_ok (endV (endV (sleepV (newP [(0, 5), (0, 3)]) 1 10) 1) 0) 7 (by decide)) ?_
 rintro _ _ ⟨rfl, rfl⟩
 refine ⟨rfl, trivial, rfl, ?_⟩
 change WpOpsG _ _ ((71, _) :: _) _ _
 rw [show wakeV (endV (endV (sleepV (newP [(0, 5), (0, 3)]) 1 10) 1) 0) 7 = 0 by decide +kernel]
 refine G.bin rfl rfl rfl ?_
 refine G.pickT rfl rfl ?_
 refine G.mv rfl ?_
 refine WpOpsG.known 74 true rfl rfl ?_
 refine G.mv rfl ?_
 refine G.call (P := [(20, .box [.osl 21]), (21, .arr .yes 3 ((endV (endV (sleepV (newP [(0, 5), (0, 3)]) 1 10) 1) 0).map encPr))]) rfl (by repeat (first | exact trivial | refine ⟨rfl, ?_⟩)) rfl rfl ((sleep16_ok (endV (endV (sleepV (newP [(0, 5), (0, 3)]) 1 10) 1) 0) 2 1 (by decide)).ren [(0, 20), (1, 21)]) ?_
 rintro _ _ ⟨_, _, ⟨rfl, rfl⟩, rfl, rfl⟩
 change newOk _ _ [(20, _), (21, _)] = true ∧ _
 refine ⟨rfl, ?_⟩
 change WpOpsG _ _ ((76, _) :: _) ([(20, .box [.osl 21]), (21, .arr .yes 3 ((sleepV (endV (endV (sleepV (newP [(0, 5), (0, 3)]) 1 10) 1) 0) 2 1).map encPr))] ++ _) _
 rw [show isV (endV (endV (sleepV (newP [(0, 5), (0, 3)]) 1 10) 1) 0) 2 = false by decide +kernel]
 refine G.un rfl rfl ?_
 refine G.pickT rfl rfl ?_
 refine G.mv rfl ?_
 refine WpOpsG.known 79 true rfl rfl ?_
 refine G.mv rfl ?_
 refine G.lend rfl rfl (next16_ok (sleepV (endV (endV (sleepV (newP [(0, 5), (0, 3)]) 1 10) 1) 0) 2 1) 0 (by decide)) ?_
 rintro _ _ ⟨rfl, rfl⟩
 refine ⟨rfl, trivial, rfl, ?_⟩
 change WpOpsG _ _ ((81, _) :: _) _ _
 rw [show nextP (sleepV (endV (endV (sleepV (newP [(0, 5), (0, 3)]) 1 10) 1) 0) 2 1) 0 = -1 by decide +kernel]
 refine G.bin rfl rfl rfl ?_
 refine G.pickT rfl rfl ?_
 refine G.mv rfl ?_
 refine WpOpsG.nil ?_
 change WpG _ _ _ _ _
 refine WpG.ret ?_
 refine ⟨_, [], rfl, (hasP_le (by repeat (first | exact trivial | refine ⟨rfl, ?_⟩))), rfl, rfl, rfl, ?_⟩
 exact ⟨rfl, rfl⟩
end Go.AM.L16
