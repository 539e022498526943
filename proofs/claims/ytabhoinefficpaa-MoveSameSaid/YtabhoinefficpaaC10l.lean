/- Contracts of the functions that the statement reaches. No condition. -/
import Derived.Test.YtabhoinefficpaaC10j
set_option linter.all false
set_option maxRecDepth 10000
namespace Go.AM.L10
open Go.AM.PL
theorem rproject_ok (l : List Rn) (a b : Int) (hn : l.length ≤ 2 ^ 40) (hl : ∀ r ∈ l, okN r) : WpCallG A 61 [.fsl 2 (l.map encN), .v (.int .i64 a), .v (.int .i64 b)] [] (fun v H => v = .osl 0 ∧ H = [(0, .arr .yes 2 ((projV l a b).map encN))]) := by
 refine WpCallG.intro g61 rfl rfl ?_
 unfold af61
 change WpG _ _ _ _ _
 refine WpG.seq ?_
 refine WpG.reg ?_
 refine G.mv rfl ?_
 refine WpOpsG.nil ?_
 change WpG _ _ _ _ _
 refine WpG.seq ?_
 refine WpG.reg ?_
 refine G.mv rfl ?_
 refine WpOpsG.nil ?_
 change WpG _ _ _ _ _
 refine WpG.seq ?_
 refine WpG.seq ?_
 refine WpG.reg ?_
 refine G.mv rfl ?_
 refine G.lenM rfl ?_
 refine G.mv rfl ?_
 refine WpOpsG.nil ?_
 change WpG _ _ _ _ _
 refine WpG.block ?_
 refine WpG.ownNil (g := 30) (k := 7) (w := 2) rfl rfl ?_
 refine WpG.loop (S := Nat) (fun i => [(1, .v (.int .i64 a)), (2, .v (.int .i64 b)), (7, .osl 30), (10, .fsl 2 (l.map encN)), (11, .v (.int .i64 (l.length : Int))), (12, .v (.int .i64 (i : Int)))]) (fun i => [(30, .arr .yes 2 (((l.take i).filter (both a b)).map encN))]) (fun i => i ≤ l.length) (fun i => l.length - i) (fun s => ⟨rfl, rfl⟩) ?_ 0 ?_ (by repeat (first | exact trivial | refine ⟨rfl, ?_⟩)) (by repeat (first | exact trivial | refine ⟨rfl, ?_⟩)) rfl
 ·intro i hI
  refine WpG.seq ?_
  refine WpG.reg ?_
  refine G.bin rfl rfl rfl ?_
  refine WpOpsG.nil ?_
  change WpG _ _ _ _ _
  refine WpG.seq ?_
  refine WpG.cond rfl (fun hq1 => ?_) (fun hq1 => ?_)
  ·(try simp only [zN] at hq1)
   refine WpG.skip ?_
   change WpG _ _ _ _ _
   refine WpG.seq ?_
   refine WpG.block ?_
   refine WpG.seq ?_
   have hlt : i < l.length := by omega
   have hfl := List.length_filter_le (both a b) (l.take i)
   rw [List.length_take] at hfl
   refine WpG.reg ?_
   refine G.iaddrN rfl rfl (List.getElem?_eq_getElem (by omega)) ?_
   refine G.loadNF rfl rfl ?_
   refine G.box (g := 10) rfl rfl rfl ?_
   refine G.storeB rfl rfl rfl rfl rfl rfl ?_
   refine WpOpsG.nil ?_
   change WpG _ _ _ _ _
   refine WpG.seq ?_
   refine WpG.reg ?_
   refine G.faddrB rfl ?_
   refine G.load1B rfl rfl rfl ?_
   refine G.mv rfl ?_
   refine G.bin rfl rfl rfl ?_
   refine G.mv rfl ?_
   apply G.orS rfl rfl rfl rfl rfl rfl
   case hB =>
    intro hs2
    (try simp only [zN] at hs2)
    refine G.faddrB rfl ?_
    refine G.load1B rfl rfl rfl ?_
    refine G.mv rfl ?_
    refine G.bin rfl rfl rfl ?_
    refine WpOpsG.nil ?_
    exact ⟨rfl, (by repeat (first | exact LLe.refl _ | refine LLe.cons rfl ?_)), (by repeat (first | exact HLe.refl _ | refine HLe.cons rfl ?_)), rfl⟩
   refine WpOpsG.nil ?_
   change WpG _ _ _ _ _
   refine WpG.cond rfl (fun hq3 => ?_) (fun hq3 => ?_)
   ·(try simp only [zN] at hq3)
    refine WpG.reg ?_
    refine G.mv rfl ?_
    refine G.loadNB rfl rfl rfl ?_
    refine G.bsliceF rfl rfl rfl ?_
    refine G.app rfl rfl rfl rfl trivial (by rw [List.length_map]; show (_ + 1) * 16 ≤ 2 ^ 47; omega) ?_
    refine G.mv rfl ?_
    refine WpOpsG.nil ?_
    change WpG _ _ _ _ _
    refine WpG.reg ?_
    refine G.addI rfl rfl (by omega) ?_
    refine G.mv rfl ?_
    refine WpOpsG.nil ?_
    refine ⟨i + 1, by omega, by omega, ⟨rfl, rfl, rfl, rfl, rfl, rfl, trivial⟩, ⟨?_, trivial⟩, rfl⟩
    rw [filter_snoc hlt]
    first
     | (rw [if_pos (both_T (by omega)), List.map_append]; rfl)
     | (rw [if_neg (both_F (by omega)), List.append_nil]; rfl)
   ·(try simp only [zN] at hq3)
    refine WpG.skip ?_
    change WpG _ _ _ _ _
    refine WpG.reg ?_
    refine G.addI rfl rfl (by omega) ?_
    refine G.mv rfl ?_
    refine WpOpsG.nil ?_
    refine ⟨i + 1, by omega, by omega, ⟨rfl, rfl, rfl, rfl, rfl, rfl, trivial⟩, ⟨?_, trivial⟩, rfl⟩
    rw [filter_snoc hlt]
    first
     | (rw [if_pos (both_T (by omega)), List.map_append]; rfl)
     | (rw [if_neg (both_F (by omega)), List.append_nil]; rfl)
  ·(try simp only [zN] at hq1)
   refine WpG.exit ?_
   change WpG _ _ _ _ _
   refine WpG.seq ?_
   rw [show l.take i = l from take_all (by omega)]
   refine WpG.freeze 30 rfl ?_
   refine WpG.reg ?_
   refine G.mv rfl ?_
   refine G.call0 rfl rfl (rtidy_ok (l.filter (both a b)) (Nat.le_trans (List.length_filter_le _ _) hn) (fun r hr => hl r (List.mem_filter.1 hr).1)) ?_
   rintro _ _ ⟨rfl, rfl⟩
   refine ⟨rfl, ?_⟩
   change WpOpsG _ _ ((32, .osl 0) :: _) ([(0, .arr .yes 2 ((projV l a b).map encN))] ++ _) _
   refine G.mv rfl ?_
   refine WpOpsG.nil ?_
   change WpG _ _ _ _ _
   refine WpG.ret ?_
   refine ⟨_, [(0, .arr .yes 2 ((projV l a b).map encN))], rfl, (hasP_le (by repeat (first | exact trivial | refine ⟨rfl, ?_⟩))), rfl, rfl, rfl, ?_⟩
   exact ⟨rfl, rfl⟩
 ·exact Nat.zero_le _
theorem rticks_ok (l : List Rn) (p : Int) (hn : l.length ≤ 2 ^ 40) (hl : ∀ r ∈ l, okN r) : WpCallG A 19 [.fsl 2 (l.map encN), .v (.int .i64 p)] [] (fun v H => v = .v (.int .i64 (tickV l p)) ∧ H = []) := by
 refine WpCallG.intro g19 rfl rfl ?_
 unfold af19
 change WpG _ _ _ _ _
 refine WpG.seq ?_
 refine WpG.reg ?_
 refine G.mv rfl ?_
 refine WpOpsG.nil ?_
 change WpG _ _ _ _ _
 refine WpG.seq ?_
 refine WpG.reg ?_
 refine G.mv rfl ?_
 refine WpOpsG.nil ?_
 change WpG _ _ _ _ _
 refine WpG.seq ?_
 refine WpG.seq ?_
 refine WpG.reg ?_
 refine G.mv rfl ?_
 refine G.lenM rfl ?_
 refine G.mv rfl ?_
 refine WpOpsG.nil ?_
 change WpG _ _ _ _ _
 refine WpG.block ?_
 refine WpG.loop (S := Nat) (fun i => [(1, .v (.int .i64 p)), (5, .v (.int .i64 (tickV (l.take i) p))), (8, .fsl 2 (l.map encN)), (9, .v (.int .i64 (l.length : Int))), (10, .v (.int .i64 (i : Int)))]) (fun _ => []) (fun i => i ≤ l.length) (fun i => l.length - i) (fun s => ⟨rfl, rfl⟩) ?_ 0 ?_ (by repeat (first | exact trivial | refine ⟨rfl, ?_⟩)) (by repeat (first | exact trivial | refine ⟨rfl, ?_⟩)) rfl
 ·intro i hI
  refine WpG.seq ?_
  refine WpG.reg ?_
  refine G.bin rfl rfl rfl ?_
  refine WpOpsG.nil ?_
  change WpG _ _ _ _ _
  refine WpG.seq ?_
  refine WpG.cond rfl (fun hq1 => ?_) (fun hq1 => ?_)
  ·(try simp only [zN] at hq1)
   refine WpG.skip ?_
   change WpG _ _ _ _ _
   refine WpG.seq ?_
   refine WpG.block ?_
   refine WpG.seq ?_
   have hlt : i < l.length := by omega
   have hr := hl l[i] (List.getElem_mem hlt)
   have htk := tickV_rng (l.take i) p
   refine WpG.reg ?_
   refine G.iaddrN rfl rfl (List.getElem?_eq_getElem (by omega)) ?_
   refine G.loadNF rfl rfl ?_
   refine G.box (g := 10) rfl rfl rfl ?_
   refine G.storeB rfl rfl rfl rfl rfl rfl ?_
   refine WpOpsG.nil ?_
   change WpG _ _ _ _ _
   refine WpG.seq ?_
   refine WpG.reg ?_
   refine G.faddrB rfl ?_
   refine G.load1B rfl rfl rfl ?_
   refine G.mv rfl ?_
   refine G.bin rfl rfl rfl ?_
   refine G.mv rfl ?_
   apply G.andS rfl rfl rfl rfl rfl rfl
   case hB =>
    intro hs2
    (try simp only [zN] at hs2)
    refine G.faddrB rfl ?_
    refine G.load1B rfl rfl rfl ?_
    refine G.bin rfl rfl rfl ?_
    refine WpOpsG.nil ?_
    exact ⟨rfl, (by repeat (first | exact LLe.refl _ | refine LLe.cons rfl ?_)), (by repeat (first | exact HLe.refl _ | refine HLe.cons rfl ?_)), rfl⟩
   refine WpOpsG.nil ?_
   change WpG _ _ _ _ _
   refine WpG.cond rfl (fun hq3 => ?_) (fun hq3 => ?_)
   ·(try simp only [zN] at hq3)
    refine WpG.reg ?_
    refine G.mv rfl ?_
    refine G.faddrB rfl ?_
    refine G.load1B rfl rfl rfl ?_
    refine G.call0 rfl rfl (sadd_ok _ _ (by unfold i64; omega) hr.2) ?_
    rintro _ _ ⟨rfl, rfl⟩
    refine ⟨rfl, ?_⟩
    change WpOpsG _ _ ((26, _) :: _) _ _
    refine G.mv rfl ?_
    refine WpOpsG.nil ?_
    change WpG _ _ _ _ _
    refine WpG.reg ?_
    refine G.addI rfl rfl (by omega) ?_
    refine G.mv rfl ?_
    refine WpOpsG.nil ?_
    refine ⟨i + 1, by omega, by omega, ⟨rfl, ?_, rfl, rfl, rfl, trivial⟩, trivial, rfl⟩
    rw [tickV_take hlt]
    first
     | (rw [if_pos (by omega)]; rfl)
     | (rw [if_neg (by omega)]; rfl)
     | (rw [if_pos (by omega), sadd_0 htk (by omega)]; rfl)
     | (split
        ·rw [sadd_0 htk (by omega)]; rfl
        ·rfl)
   ·(try simp only [zN] at hq3)
    refine WpG.skip ?_
    change WpG _ _ _ _ _
    refine WpG.reg ?_
    refine G.addI rfl rfl (by omega) ?_
    refine G.mv rfl ?_
    refine WpOpsG.nil ?_
    refine ⟨i + 1, by omega, by omega, ⟨rfl, ?_, rfl, rfl, rfl, trivial⟩, trivial, rfl⟩
    rw [tickV_take hlt]
    first
     | (rw [if_pos (by omega)]; rfl)
     | (rw [if_neg (by omega)]; rfl)
     | (rw [if_pos (by omega), sadd_0 htk (by omega)]; rfl)
     | (split
        ·rw [sadd_0 htk (by omega)]; rfl
        ·rfl)
  ·(try simp only [zN] at hq1)
   refine WpG.exit ?_
   change WpG _ _ _ _ _
   refine WpG.seq ?_
   refine WpG.reg ?_
   refine G.mv rfl ?_
   refine G.mv rfl ?_
   refine WpOpsG.nil ?_
   change WpG _ _ _ _ _
   refine WpG.ret ?_
   refine ⟨_, [], rfl, (hasP_le (by repeat (first | exact trivial | refine ⟨rfl, ?_⟩))), rfl, rfl, rfl, ?_⟩
   rw [take_all (by omega)]; exact ⟨rfl, rfl⟩
 ·exact Nat.zero_le _
theorem rdiffer_ok (a b : List Rn) (dep : List (List Bool)) (ha : a.length ≤ 2 ^ 40) (hao : ∀ r ∈ a, okN r) (hb : b.length ≤ 2 ^ 40) (hbo : ∀ r ∈ b, okN r) (hd : dep.length ≤ 2 ^ 50) (hsq : ∀ r ∈ dep, r.length = dep.length) : WpCallG A 45 [.fsl 2 (a.map encN), .fsl 2 (b.map encN), .fsl 1 (dep.map encBs)] [] (fun v H => v = .tup [.v (.int .i64 (differV a b dep).1), .v (.int .i64 (differV a b dep).2.1), .v (.bool (differV a b dep).2.2)] ∧ H = []) := by
 refine WpCallG.intro g45 rfl rfl ?_
 unfold af45
 change WpG _ _ _ _ _
 refine WpG.seq ?_
 refine WpG.reg ?_
 refine G.mv rfl ?_
 refine G.mv rfl ?_
 refine G.mv rfl ?_
 refine WpOpsG.nil ?_
 change WpG _ _ _ _ _
 refine WpG.seq ?_
 refine WpG.seq ?_
 refine WpG.reg ?_
 refine G.mv rfl ?_
 refine WpOpsG.nil ?_
 change WpG _ _ _ _ _
 refine WpG.block ?_
 refine WpG.loop (S := Nat) (fun x => [(0, .fsl 2 (a.map encN)), (1, .fsl 2 (b.map encN)), (2, .fsl 1 (dep.map encBs)), (9, .v (.int .i64 (x : Int)))]) (fun _ => []) (fun x => x ≤ 6 ∧ dxV a b dep (6 - x) x = dxV a b dep 6 0) (fun x => 6 - x) (fun s => ⟨rfl, rfl⟩) ?_ 0 ?_ (by repeat (first | exact trivial | refine ⟨rfl, ?_⟩)) (by repeat (first | exact trivial | refine ⟨rfl, ?_⟩)) rfl
 ·rintro x ⟨hx, hT⟩
  refine WpG.seq ?_
  refine WpG.seq ?_
  refine WpG.reg ?_
  refine G.mv rfl ?_
  refine G.bin rfl rfl rfl ?_
  refine WpOpsG.nil ?_
  change WpG _ _ _ _ _
  refine WpG.cond rfl (fun hq1 => ?_) (fun hq1 => ?_)
  ·(try simp only [zN] at hq1)
   refine WpG.skip ?_
   change WpG _ _ _ _ _
   refine WpG.seq ?_
   refine WpG.block ?_
   refine WpG.seq ?_
   refine WpG.reg ?_
   refine G.mv rfl ?_
   refine G.mv rfl ?_
   refine WpOpsG.nil ?_
   change WpG _ _ _ _ _
   refine WpG.block ?_
   refine WpG.loop (S := Nat) (fun y => [(0, .fsl 2 (a.map encN)), (1, .fsl 2 (b.map encN)), (2, .fsl 1 (dep.map encBs)), (9, .v (.int .i64 (x : Int))), (10, .v (.int .i64 (y : Int)))]) (fun _ => []) (fun y => x ≤ y ∧ y ≤ 6 ∧ dyV a b dep x (6 - y) y = dyV a b dep x (6 - x) x) (fun y => 6 - y) (fun s => ⟨rfl, rfl⟩) ?_ x ?_ (by repeat (first | exact trivial | refine ⟨rfl, ?_⟩)) (by repeat (first | exact trivial | refine ⟨rfl, ?_⟩)) rfl
   ·rintro y ⟨hy0, hy, hE⟩
    refine WpG.seq ?_
    refine WpG.seq ?_
    refine WpG.reg ?_
    refine G.mv rfl ?_
    refine G.bin rfl rfl rfl ?_
    refine WpOpsG.nil ?_
    change WpG _ _ _ _ _
    refine WpG.cond rfl (fun hq2 => ?_) (fun hq2 => ?_)
    ·(try simp only [zN] at hq2)
     refine WpG.skip ?_
     change WpG _ _ _ _ _
     refine WpG.seq ?_
     refine WpG.block ?_
     refine WpG.seq ?_
     refine WpG.reg ?_
     refine G.mv rfl ?_
     refine G.mv rfl ?_
     refine G.mv rfl ?_
     refine G.call0 rfl rfl (rdepends_ok dep (x : Int) (y : Int) hd hsq) ?_
     rintro _ _ ⟨rfl, rfl⟩
     refine ⟨rfl, ?_⟩
     change WpOpsG _ _ ((23, _) :: _) _ _
     refine G.mv rfl ?_
     apply G.andS rfl rfl rfl rfl rfl rfl
     case hB =>
      intro hs3
      (try simp only [zN] at hs3)
      refine G.mv rfl ?_
      refine G.mv rfl ?_
      refine G.mv rfl ?_
      refine G.call0 rfl rfl ((rproject_ok a (x : Int) (y : Int) ha hao).ren [(0, 20)]) ?_
      rintro _ _ ⟨_, _, ⟨rfl, rfl⟩, rfl, rfl⟩
      change newOk _ _ [(20, _)] = true ∧ _
      refine ⟨rfl, ?_⟩
      change WpOpsG _ _ ((28, .osl 20) :: _) ([(20, .arr .yes 2 ((projV a (x : Int) (y : Int)).map encN))] ++ _) _
      refine G.mv rfl ?_
      refine G.mv rfl ?_
      refine G.mv rfl ?_
      refine G.call0 rfl rfl ((rproject_ok b (x : Int) (y : Int) hb hbo).ren [(0, 21)]) ?_
      rintro _ _ ⟨_, _, ⟨rfl, rfl⟩, rfl, rfl⟩
      change newOk _ _ [(21, _)] = true ∧ _
      refine ⟨rfl, ?_⟩
      change WpOpsG _ _ ((32, .osl 21) :: _) ([(21, .arr .yes 2 ((projV b (x : Int) (y : Int)).map encN))] ++ _) _
      refine G.lend rfl rfl (refSame_ok (projV a (x : Int) (y : Int)) (projV b (x : Int) (y : Int)) (by have := projV_len a (x : Int) (y : Int); omega) (by have := projV_len b (x : Int) (y : Int); omega)) ?_
      rintro _ _ ⟨rfl, rfl⟩
      refine ⟨rfl, trivial, rfl, ?_⟩
      change WpOpsG _ _ ((33, _) :: _) _ _
      refine G.un rfl rfl ?_
      refine WpOpsG.nil ?_
      exact ⟨rfl, (by repeat (first | exact LLe.refl _ | refine LLe.cons rfl ?_)), (by repeat (first | exact HLe.refl _ | refine HLe.cons rfl ?_)), rfl⟩
     refine WpOpsG.nil ?_
     change WpG _ _ _ _ _
     refine WpG.cond rfl (fun hq4 => ?_) (fun hq4 => ?_)
     ·(try simp only [zN] at hq4)
      refine WpG.seq ?_
      refine WpG.reg ?_
      refine G.mv rfl ?_
      refine G.mv rfl ?_
      refine G.mv rfl ?_
      refine G.mv rfl ?_
      refine G.mv rfl ?_
      refine WpOpsG.nil ?_
      change WpG _ _ _ _ _
      refine WpG.ret ?_
      refine ⟨_, [], rfl, (hasP_le (by repeat (first | exact trivial | refine ⟨rfl, ?_⟩))), rfl, rfl, rfl, ?_⟩
      have hE2 := hE
      rw [show 6 - y = (6 - (y + 1)) + 1 by omega, dyV, if_pos (difV_T hq4)] at hE2
      have hT2 := hT
      rw [show 6 - x = (6 - (x + 1)) + 1 by omega, dxV, ← hE2] at hT2
      have e : differV a b dep = ((x : Int), (y : Int), true) := by unfold differV; rw [← hT2]
      rw [e]; exact ⟨rfl, rfl⟩
     ·(try simp only [zN] at hq4)
      refine WpG.skip ?_
      change WpG _ _ _ _ _
      refine WpG.reg ?_
      refine G.mv rfl ?_
      refine G.addI rfl rfl (by omega) ?_
      refine G.mv rfl ?_
      refine WpOpsG.nil ?_
      have hE2 := hE
      rw [show 6 - y = (6 - (y + 1)) + 1 by omega, dyV, if_neg (difV_F hq4)] at hE2
      exact ⟨y + 1, by omega, ⟨by omega, by omega, hE2⟩, ⟨rfl, rfl, rfl, rfl, rfl, trivial⟩, trivial, rfl⟩
    ·(try simp only [zN] at hq2)
     refine WpG.exit ?_
     change WpG _ _ _ _ _
     refine WpG.reg ?_
     refine G.mv rfl ?_
     refine G.addI rfl rfl (by omega) ?_
     refine G.mv rfl ?_
     refine WpOpsG.nil ?_
     have hy6 : y = 6 := by omega
     subst hy6
     have hE0 : dyV a b dep x (6 - x) x = none := by rw [← hE]; rfl
     rw [show 6 - x = (6 - (x + 1)) + 1 by omega, dxV, show 6 - x = 6 - x from rfl, hE0] at hT
     exact ⟨x + 1, by omega, ⟨by omega, hT⟩, ⟨rfl, rfl, rfl, rfl, trivial⟩, trivial, rfl⟩
   ·exact ⟨Nat.le_refl _, hx, rfl⟩
  ·(try simp only [zN] at hq1)
   refine WpG.exit ?_
   change WpG _ _ _ _ _
   refine WpG.seq ?_
   refine WpG.reg ?_
   refine G.mv rfl ?_
   refine G.call0 rfl rfl (rticks_ok a (-1) ha hao) ?_
   rintro _ _ ⟨rfl, rfl⟩
   refine ⟨rfl, ?_⟩
   change WpOpsG _ _ ((39, _) :: _) _ _
   refine G.mv rfl ?_
   refine G.call0 rfl rfl (rticks_ok b (-1) hb hbo) ?_
   rintro _ _ ⟨rfl, rfl⟩
   refine ⟨rfl, ?_⟩
   change WpOpsG _ _ ((41, _) :: _) _ _
   refine G.bin rfl rfl rfl ?_
   refine G.mv rfl ?_
   refine G.mv rfl ?_
   refine G.mv rfl ?_
   refine WpOpsG.nil ?_
   change WpG _ _ _ _ _
   refine WpG.ret ?_
   refine ⟨_, [], rfl, (hasP_le (by repeat (first | exact trivial | refine ⟨rfl, ?_⟩))), rfl, rfl, rfl, ?_⟩
   have hx6 : x = 6 := by omega
   subst hx6
   have e : differV a b dep = (-1, -1, tickV a (-1) != tickV b (-1)) := by unfold differV; rw [← hT]; rfl
   rw [e]; exact ⟨rfl, rfl⟩
 ·exact ⟨by decide, rfl⟩
theorem rsame_ok (a b : List Rn) (dep : List (List Bool)) (ha : a.length ≤ 2 ^ 40) (hao : ∀ r ∈ a, okN r) (hb : b.length ≤ 2 ^ 40) (hbo : ∀ r ∈ b, okN r) (hd : dep.length ≤ 2 ^ 50) (hsq : ∀ r ∈ dep, r.length = dep.length) : WpCallG A 21 [.fsl 2 (a.map encN), .fsl 2 (b.map encN), .fsl 1 (dep.map encBs)] [] (fun v H => v = .v (.bool (!(differV a b dep).2.2)) ∧ H = []) := by
 refine WpCallG.intro g21 rfl rfl ?_
 unfold af21
 change WpG _ _ _ _ _
 refine WpG.seq ?_
 refine WpG.reg ?_
 refine G.mv rfl ?_
 refine WpOpsG.nil ?_
 change WpG _ _ _ _ _
 refine WpG.seq ?_
 refine WpG.reg ?_
 refine G.mv rfl ?_
 refine G.mv rfl ?_
 refine G.mv rfl ?_
 refine G.call0 rfl rfl (rdiffer_ok a b dep ha hao hb hbo hd hsq) ?_
 rintro _ _ ⟨rfl, rfl⟩
 refine ⟨rfl, ?_⟩
 change WpOpsG _ _ ((14, _) :: _) _ _
 refine G.mv rfl ?_
 refine G.ext rfl rfl ?_
 refine G.ext rfl rfl ?_
 refine G.ext rfl rfl ?_
 refine G.mv rfl ?_
 refine G.mv rfl ?_
 refine G.mv rfl ?_
 refine WpOpsG.nil ?_
 change WpG _ _ _ _ _
 refine WpG.seq ?_
 refine WpG.reg ?_
 refine G.mv rfl ?_
 refine G.un rfl rfl ?_
 refine G.mv rfl ?_
 refine WpOpsG.nil ?_
 change WpG _ _ _ _ _
 refine WpG.ret ?_
 refine ⟨_, [], rfl, (hasP_le (by repeat (first | exact trivial | refine ⟨rfl, ?_⟩))), rfl, rfl, rfl, ?_⟩
 exact ⟨rfl, rfl⟩
theorem rsw10_ok (l : List Rn) (hn : l.length ≤ 2 ^ 40) (hl : ∀ r ∈ l, okN r) : WpCallG A 22 [.fsl 2 (l.map encN)] [] (fun v H => v = .v (.int .i64 (swV l : Int)) ∧ H = []) := by
 refine WpCallG.intro g22 rfl rfl ?_
 unfold af22
 change WpG _ _ _ _ _
 refine WpG.seq ?_
 refine WpG.reg ?_
 refine G.mv rfl ?_
 refine WpOpsG.nil ?_
 change WpG _ _ _ _ _
 refine WpG.seq ?_
 refine WpG.reg ?_
 refine G.mv rfl ?_
 refine WpOpsG.nil ?_
 change WpG _ _ _ _ _
 refine WpG.seq ?_
 refine WpG.seq ?_
 refine WpG.reg ?_
 refine G.mv rfl ?_
 refine G.call0 rfl rfl ((rtidy_ok l hn hl).ren [(0, 20)]) ?_
 rintro _ _ ⟨_, _, ⟨rfl, rfl⟩, rfl, rfl⟩
 change newOk _ _ [(20, _)] = true ∧ _
 refine ⟨rfl, ?_⟩
 change WpOpsG _ _ ((7, .osl 20) :: _) ([(20, .arr .yes 2 ((tidyV l).map encN))] ++ _) _
 refine WpOpsG.freeze 20 rfl ?_
 have hll := tidyV_len l
 refine G.lenM rfl ?_
 refine G.mv rfl ?_
 refine WpOpsG.nil ?_
 change WpG _ _ _ _ _
 refine WpG.block ?_
 refine WpG.loop (S := Nat) (fun i => [(3, .v (.int .i64 ((((tidyV l).take i).countP idleN : Nat) : Int))), (7, .fsl 2 ((tidyV l).map encN)), (8, .v (.int .i64 ((tidyV l).length : Int))), (9, .v (.int .i64 ((i : Nat) : Int)))]) (fun _ => []) (fun i => i ≤ (tidyV l).length) (fun i => (tidyV l).length - i) (fun s => ⟨rfl, rfl⟩) ?_ 0 ?_ (by repeat (first | exact trivial | refine ⟨rfl, ?_⟩)) (by repeat (first | exact trivial | refine ⟨rfl, ?_⟩)) rfl
 ·intro i hI
  have hct : ((tidyV l).take i).countP idleN ≤ (tidyV l).length := Nat.le_trans List.countP_le_length (by rw [List.length_take]; omega)
  refine WpG.seq ?_
  refine WpG.reg ?_
  refine G.bin rfl rfl rfl ?_
  refine WpOpsG.nil ?_
  change WpG _ _ _ _ _
  refine WpG.seq ?_
  refine WpG.cond rfl (fun hq1 => ?_) (fun hq1 => ?_)
  ·(try simp only [zN] at hq1)
   refine WpG.skip ?_
   change WpG _ _ _ _ _
   refine WpG.seq ?_
   refine WpG.block ?_
   refine WpG.seq ?_
   refine WpG.reg ?_
   refine G.iaddrN rfl rfl (List.getElem?_eq_getElem (by omega)) ?_
   refine G.loadNF rfl rfl ?_
   refine G.box (g := 10) rfl rfl rfl ?_
   refine G.storeB rfl rfl rfl rfl rfl rfl ?_
   refine WpOpsG.nil ?_
   change WpG _ _ _ _ _
   refine WpG.seq ?_
   refine WpG.reg ?_
   refine G.faddrB rfl ?_
   refine G.load1B rfl rfl rfl ?_
   refine G.bin rfl rfl rfl ?_
   refine WpOpsG.nil ?_
   change WpG _ _ _ _ _
   refine WpG.cond rfl (fun hq2 => ?_) (fun hq2 => ?_)
   ·(try simp only [zN] at hq2)
    have hid := idle_T hq2
    refine WpG.reg ?_
    refine G.mv rfl ?_
    refine G.addI rfl rfl (by omega) ?_
    refine G.mv rfl ?_
    refine WpOpsG.nil ?_
    change WpG _ _ _ _ _
    refine WpG.reg ?_
    refine G.addI rfl rfl (by omega) ?_
    refine G.mv rfl ?_
    refine WpOpsG.nil ?_
    refine ⟨i + 1, by omega, by omega, ⟨?_, rfl, rfl, rfl, trivial⟩, trivial, rfl⟩
    rw [cnt_take (by omega)]
    first
     | (rw [if_pos hid, Int.natCast_add]; rfl)
     | (rw [if_neg hid]; rfl)
   ·(try simp only [zN] at hq2)
    have hid := idle_F hq2
    refine WpG.skip ?_
    change WpG _ _ _ _ _
    refine WpG.reg ?_
    refine G.addI rfl rfl (by omega) ?_
    refine G.mv rfl ?_
    refine WpOpsG.nil ?_
    refine ⟨i + 1, by omega, by omega, ⟨?_, rfl, rfl, rfl, trivial⟩, trivial, rfl⟩
    rw [cnt_take (by omega)]
    first
     | (rw [if_pos hid, Int.natCast_add]; rfl)
     | (rw [if_neg hid]; rfl)
  ·(try simp only [zN] at hq1)
   refine WpG.exit ?_
   change WpG _ _ _ _ _
   refine WpG.seq ?_
   refine WpG.reg ?_
   refine G.mv rfl ?_
   refine G.mv rfl ?_
   refine WpOpsG.nil ?_
   change WpG _ _ _ _ _
   refine WpG.ret ?_
   refine ⟨_, [], rfl, (hasP_le (by repeat (first | exact trivial | refine ⟨rfl, ?_⟩))), rfl, rfl, rfl, ?_⟩
   rw [List.take_of_length_le (show (tidyV l).length ≤ i by omega)]; exact ⟨rfl, rfl⟩
 ·exact Nat.zero_le _
set_option maxHeartbeats 1000000 in
theorem moveSame_ok (t : List Int) (which : Int) (right : Bool) (ht : t.length ≤ 2 ^ 50) (hi : ∀ x ∈ t, i64 x) (hwh : i64 which) : WpCallG A 5 [.fsl 1 (t.map encK), .v (.int .i64 which), .v (.bool right)] [] (fun v H => v = .v (.bool true) ∧ H = []) := by
 refine WpCallG.intro g5 rfl rfl ?_
 unfold af5
 change WpG _ _ _ _ _
 refine WpG.seq ?_
 refine WpG.reg ?_
 refine G.mv rfl ?_
 refine WpOpsG.nil ?_
 change WpG _ _ _ _ _
 refine WpG.seq ?_
 refine WpG.reg ?_
 refine G.mv rfl ?_
 refine G.build rfl ?_
 refine G.box (g := 11) rfl rfl rfl ?_
 change WpOpsG _ _ _ ((11, tbox t 0) :: _) _
 refine G.mv rfl ?_
 refine WpOpsG.nil ?_
 change WpG _ _ _ _ _
 refine WpG.seq ?_
 refine WpG.reg ?_
 refine G.mv rfl ?_
 refine G.call (P := [(11, tbox t 0)]) rfl (by repeat (first | exact trivial | refine ⟨rfl, ?_⟩)) rfl rfl ((config_okP t 0 ht hi (Nat.zero_le _)).ren [(0, 11)]) ?_
 rintro _ _ ⟨_, _, ⟨P, C, tabs, b0, hcf, hb0, rfl, rfl⟩, rfl, rfl⟩
 change newOk _ _ [(11, tbox t b0)] = true ∧ _
 refine ⟨rfl, ?_⟩
 change WpOpsG _ _ ((19, .agg [.fsl 11 (P.map encP), .fsl 6 (C.map encC), .fsl 1 (tabs.map encTb)]) :: _) ([(11, tbox t b0)] ++ _) _
 obtain ⟨⟨⟨hP1, hP4⟩, hPp⟩, ⟨hC20, hCs⟩, ⟨hT1, hT3⟩, hTs⟩ := hcf
 refine G.box (g := 12) rfl rfl rfl ?_
 refine G.storeB rfl rfl rfl rfl rfl rfl ?_
 refine WpOpsG.nil ?_
 change WpG _ _ _ _ _
 refine WpG.seq ?_
 refine WpG.reg ?_
 refine G.mv rfl ?_
 refine G.faddrB rfl ?_
 refine G.load1B rfl rfl rfl ?_
 refine G.lenM rfl ?_
 refine G.call (P := [(11, tbox t b0)]) rfl (by repeat (first | exact trivial | refine ⟨rfl, ?_⟩)) rfl rfl ((truns_ok t b0 (P.length : Int) 14 ht hi hb0 (by omega) (by decide)).ren [(0, 11)]) ?_
 rintro _ _ ⟨_, _, ⟨rfl, rfl⟩, rfl, rfl⟩
 change newOk _ _ [(11, tbox t _)] = true ∧ _
 refine ⟨rfl, ?_⟩
 change WpOpsG _ _ ((24, .fsl 2 ((tapeRuns t b0 (P.length : Int) 14).1.map encN)) :: _) ([(11, tbox t _)] ++ _) _
 have hr := tapeRuns_ok t b0 (P.length : Int) 14 (by omega) (by decide) hb0
 obtain ⟨rs, hrs⟩ : ∃ rs, rs = (tapeRuns t b0 (P.length : Int) 14).1 := ⟨_, rfl⟩
 rw [← hrs] at hr ⊢
 have hrl : rs.length ≤ 14 := by have := hr.2.2.1; omega
 have hrN : ∀ r ∈ rs, okN r := fun r hr2 => by
  have := hr.1 r hr2
  unfold okT at this
  unfold okN i64; omega
 have hrw : wlen rs ≤ 8192 := runs_wlen hr.1 (by omega)
 refine G.call0 rfl rfl ((rtidy_ok rs (by omega) hrN).ren [(0, 20)]) ?_
 rintro _ _ ⟨_, _, ⟨rfl, rfl⟩, rfl, rfl⟩
 change newOk _ _ [(20, _)] = true ∧ _
 refine ⟨rfl, ?_⟩
 change WpOpsG _ _ ((25, .osl 20) :: _) ([(20, .arr .yes 2 ((tidyV rs).map encN))] ++ _) _
 refine WpOpsG.freeze 20 rfl ?_
 have hll := tidyV_len rs
 have hlN : ∀ r ∈ tidyV rs, okN r := tidyV_ok hrN
 obtain ⟨l, hl⟩ : ∃ l, tidyV rs = l := ⟨_, rfl⟩
 rw [hl] at hll hlN ⊢
 change WpOpsG _ _ ((25, .fsl 2 (l.map encN)) :: _) _ _
 refine G.mv rfl ?_
 refine WpOpsG.nil ?_
 change WpG _ _ _ _ _
 refine WpG.seq ?_
 refine WpG.reg ?_
 refine G.loadNB rfl rfl rfl ?_
 refine G.call0 rfl rfl (rdep_ok P C (tabs.map encTb) (by omega) (by omega)) ?_
 rintro _ _ ⟨rfl, rfl⟩
 refine ⟨rfl, ?_⟩
 change WpOpsG _ _ ((27, _) :: _) _ _
 change WpOpsG _ _ ((27, .fsl 1 ((matF P.length (depG P C)).map encBs)) :: _) _ _
 have hdl : (matF P.length (depG P C)).length ≤ 4 := by rw [matF_len]; omega
 have hdr : ∀ r ∈ (matF P.length (depG P C)), r.length = (matF P.length (depG P C)).length := fun r hr2 => by rw [matF_rows r hr2, matF_len]
 obtain ⟨dep, hdep⟩ : ∃ d, (matF P.length (depG P C)) = d := ⟨_, rfl⟩
 rw [hdep] at hdl hdr ⊢
 refine G.mv rfl ?_
 refine WpOpsG.nil ?_
 change WpG _ _ _ _ _
 refine WpG.seq ?_
 refine WpG.reg ?_
 refine G.mv rfl ?_
 refine G.mv rfl ?_
 refine G.call0 rfl rfl (all_ok l dep (by omega) (by omega) (fun r hr2 => by have := hdr r hr2; omega)) ?_
 rintro _ _ ⟨rfl, rfl⟩
 refine ⟨rfl, ?_⟩
 change WpOpsG _ _ ((30, _) :: _) _ _
 have hall := allM_len (l := l) (dep := dep) (l).length
 have hall2 : 2 * (l).length * (l).length ≤ 2 * 16 * 16 := Nat.mul_le_mul (by omega) (by omega)
 have hall3 : (allV l dep).length ≤ 2 * 16 * 16 := Nat.le_trans hall hall2
 refine G.mv rfl ?_
 refine WpOpsG.nil ?_
 change WpG _ _ _ _ _
 refine WpG.seq ?_
 refine WpG.seq ?_
 refine WpG.reg ?_
 refine G.mv rfl ?_
 refine G.lenM rfl ?_
 refine G.bin rfl rfl rfl ?_
 refine WpOpsG.nil ?_
 change WpG _ _ _ _ _
 refine WpG.cond rfl (fun hq1 => ?_) (fun hq1 => ?_)
 ·(try simp only [zN] at hq1)
  refine WpG.seq ?_
  refine WpG.reg ?_
  refine G.call0 rfl rfl (known10_ok) ?_
  rintro _ _ ⟨rfl, rfl⟩
  refine ⟨rfl, ?_⟩
  change WpOpsG _ _ ((34, _) :: _) _ _
  refine G.mv rfl ?_
  refine WpOpsG.nil ?_
  change WpG _ _ _ _ _
  refine WpG.ret ?_
  refine ⟨_, [], rfl, (hasP_le (by repeat (first | exact trivial | refine ⟨rfl, ?_⟩))), rfl, rfl, rfl, ?_⟩
  exact ⟨rfl, rfl⟩
 ·(try simp only [zN] at hq1)
  refine WpG.skip ?_
  change WpG _ _ _ _ _
  refine WpG.seq ?_
  refine WpG.reg ?_
  refine G.mv rfl ?_
  refine G.mv rfl ?_
  refine G.mv rfl ?_
  refine G.lenM rfl ?_
  refine G.subI rfl rfl (by omega) ?_
  refine G.call0 rfl rfl (within_ok which 0 (((allV l dep).length : Int) - 1) hwh (by decide) (by omega) (by omega)) ?_
  rintro _ _ ⟨rfl, rfl⟩
  refine ⟨rfl, ?_⟩
  change WpOpsG _ _ ((40, _) :: _) _ _
  obtain ⟨q, hq, hqb⟩ := within_nat1 which ((allV l dep).length - 1)
  rw [show ((allV l dep).length : Int) - 1 = (((allV l dep).length - 1 : Nat) : Int) by omega, hq]
  have hql : q < (allV l dep).length := by omega
  refine G.iaddrN rfl rfl (List.getElem?_eq_getElem hql) ?_
  have hmm := all_mem (List.getElem_mem hql)
  obtain ⟨⟨mi, mj, mr⟩, hm⟩ : ∃ m, (allV l dep)[q] = m := ⟨_, rfl⟩
  rw [hm] at hmm ⊢
  obtain ⟨i, j, e1, e2, h3, h4, h5⟩ := hmm
  have e1 : mi = (i : Int) := e1
  have e2 : mj = (j : Int) := e2
  subst e1 e2
  change WpOpsG _ _ ((41, .fptr [.v (.int .i64 (i : Int)), .v (.int .i64 (j : Int)), .v (.bool mr)] 0) :: _) _ _
  refine G.loadNF rfl rfl ?_
  refine G.box (g := 13) rfl rfl rfl ?_
  refine G.storeB rfl rfl rfl rfl rfl rfl ?_
  refine WpOpsG.nil ?_
  change WpG _ _ _ _ _
  refine WpG.seq ?_
  refine WpG.reg ?_
  refine G.mv rfl ?_
  refine G.faddrB rfl ?_
  refine G.storeB rfl rfl rfl rfl rfl rfl ?_
  refine WpOpsG.nil ?_
  change WpG _ _ _ _ _
  refine WpG.seq ?_
  refine WpG.reg ?_
  refine G.mv rfl ?_
  refine G.loadNB rfl rfl rfl ?_
  refine G.call0 rfl rfl ((do_ok l (i : Int) (j : Int) right (by omega) hlN).ren [(0, 21)]) ?_
  rintro _ _ ⟨_, _, ⟨rfl, rfl⟩, rfl, rfl⟩
  change newOk _ _ [(21, _)] = true ∧ _
  refine ⟨rfl, ?_⟩
  change WpOpsG _ _ ((47, .osl 21) :: _) ([(21, .arr .yes 2 ((doV l (i : Int) (j : Int) right).map encN))] ++ _) _
  refine WpOpsG.freeze 21 rfl ?_
  refine G.mv rfl ?_
  refine WpOpsG.nil ?_
  change WpG _ _ _ _ _
  refine WpG.seq ?_
  refine WpG.seq ?_
  have hM := moved_ok (r := right) hrN hl h5
  have hyN : ∀ q ∈ doV l (i : Int) (j : Int) right, okN q := do_okN hlN
  obtain ⟨y, hy⟩ : ∃ y, doV l (i : Int) (j : Int) right = y := ⟨_, rfl⟩
  rw [hy] at hM hyN ⊢
  have hyl := hM.less
  refine WpG.reg ?_
  refine G.mv rfl ?_
  refine WpOpsG.nil ?_
  change WpG _ _ _ _ _
  refine WpG.block ?_
  refine WpG.loop (S := Nat) (fun p => [(6, .v (.bool false)), (9, .fsl 2 (l.map encN)), (10, .fsl 1 (dep.map encBs)), (12, .bptr 13 0), (13, .fsl 2 (y.map encN)), (14, .v (.int .i64 ((p : Int) - 1)))]) (fun _ => [(13, .box [.v (.int .i64 (i : Int)), .v (.int .i64 (j : Int)), .v (.bool right)])]) (fun p => p ≤ 6) (fun p => 6 - p) (fun s => ⟨rfl, rfl⟩) ?_ 0 ?_ (by repeat (first | exact trivial | refine ⟨rfl, ?_⟩)) (by repeat (first | exact trivial | refine ⟨rfl, ?_⟩)) rfl
  ·intro p hp
   refine WpG.seq ?_
   refine WpG.seq ?_
   refine WpG.reg ?_
   refine G.mv rfl ?_
   refine G.bin rfl rfl rfl ?_
   refine WpOpsG.nil ?_
   change WpG _ _ _ _ _
   refine WpG.cond rfl (fun hq2 => ?_) (fun hq2 => ?_)
   ·(try simp only [zN] at hq2)
    refine WpG.skip ?_
    change WpG _ _ _ _ _
    refine WpG.seq ?_
    refine WpG.block ?_
    refine WpG.seq ?_
    refine WpG.reg ?_
    refine G.mv rfl ?_
    refine G.mv rfl ?_
    refine G.call0 rfl rfl (rticks_ok y ((p : Int) - 1) (by omega) hyN) ?_
    rintro _ _ ⟨rfl, rfl⟩
    refine ⟨rfl, ?_⟩
    change WpOpsG _ _ ((54, _) :: _) _ _
    refine G.mv rfl ?_
    refine G.mv rfl ?_
    refine G.call0 rfl rfl (rticks_ok l ((p : Int) - 1) (by omega) hlN) ?_
    rintro _ _ ⟨rfl, rfl⟩
    refine ⟨rfl, ?_⟩
    change WpOpsG _ _ ((57, _) :: _) _ _
    refine G.bin rfl rfl rfl ?_
    rw [hM.tick, bne_self_eq_false]
    refine WpOpsG.nil ?_
    change WpG _ _ _ _ _
    refine WpG.cond rfl (fun hq3 => absurd hq3 (by decide)) (fun hq3 => ?_)
    refine WpG.skip ?_
    change WpG _ _ _ _ _
    refine WpG.reg ?_
    refine G.mv rfl ?_
    refine G.addI rfl rfl (by omega) ?_
    refine G.mv rfl ?_
    refine WpOpsG.nil ?_
    refine ⟨p + 1, by omega, by omega, ⟨rfl, rfl, rfl, rfl, rfl, ?_, trivial⟩, ⟨rfl, trivial⟩, rfl⟩
    show some (GV.v (.int .i64 _)) = some (GV.v (.int .i64 _))
    congr 3; omega
   ·(try simp only [zN] at hq2)
    refine WpG.exit ?_
    change WpG _ _ _ _ _
    refine WpG.seq ?_
    refine WpG.reg ?_
    refine G.mv rfl ?_
    refine G.mv rfl ?_
    refine G.loadNB rfl rfl rfl ?_
    refine G.call0 rfl rfl (may_ok l dep (i : Int) (j : Int) right (by omega) (by omega) (fun r hr2 => by have := hdr r hr2; omega)) ?_
    rintro _ _ ⟨rfl, rfl⟩
    refine ⟨rfl, ?_⟩
    change WpOpsG _ _ ((62, _) :: _) _ _
    rw [h5]
    refine G.mv rfl ?_
    refine WpOpsG.known 63 true rfl rfl ?_
    refine G.mv rfl ?_
    refine G.mv rfl ?_
    refine G.mv rfl ?_
    refine G.call0 rfl rfl (rsame_ok l y dep (by omega) hlN (by omega) hyN (by omega) hdr) ?_
    rintro _ _ ⟨rfl, rfl⟩
    refine ⟨rfl, ?_⟩
    change WpOpsG _ _ ((67, _) :: _) _ _
    rw [same_iff.2 hM.same]
    refine G.pickT rfl rfl ?_
    refine G.mv rfl ?_
    refine WpOpsG.known 69 true rfl rfl ?_
    refine G.mv rfl ?_
    refine G.lenM rfl ?_
    refine G.mv rfl ?_
    refine G.lenM rfl ?_
    refine G.bin rfl rfl rfl ?_
    rw [decide_eq_true (by have := hM.less; omega)]
    refine G.pickT rfl rfl ?_
    refine G.mv rfl ?_
    refine WpOpsG.known 76 true rfl rfl ?_
    refine G.mv rfl ?_
    refine G.call0 rfl rfl (rsw10_ok y (by omega) hyN) ?_
    rintro _ _ ⟨rfl, rfl⟩
    refine ⟨rfl, ?_⟩
    change WpOpsG _ _ ((78, _) :: _) _ _
    refine G.mv rfl ?_
    refine G.call0 rfl rfl (rsw10_ok l (by omega) hlN) ?_
    rintro _ _ ⟨rfl, rfl⟩
    refine ⟨rfl, ?_⟩
    change WpOpsG _ _ ((80, _) :: _) _ _
    have hsl1 := sw_le l
    have hsl2 := sw_le y
    refine G.bin rfl rfl rfl ?_
    rw [decide_eq_true (by have := hM.sw; omega)]
    refine G.pickT rfl rfl ?_
    refine G.mv rfl ?_
    refine WpOpsG.known 83 true rfl rfl ?_
    refine G.call0 rfl rfl (known10_ok) ?_
    rintro _ _ ⟨rfl, rfl⟩
    refine ⟨rfl, ?_⟩
    change WpOpsG _ _ ((84, _) :: _) _ _
    refine G.pickT rfl rfl ?_
    refine G.mv rfl ?_
    refine WpOpsG.nil ?_
    change WpG _ _ _ _ _
    refine WpG.ret ?_
    refine ⟨_, [], rfl, (hasP_le (by repeat (first | exact trivial | refine ⟨rfl, ?_⟩))), rfl, rfl, rfl, ?_⟩
    exact ⟨rfl, rfl⟩
  ·exact Nat.zero_le _
end Go.AM.L10
