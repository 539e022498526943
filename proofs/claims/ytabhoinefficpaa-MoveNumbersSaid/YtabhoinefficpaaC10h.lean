/- Contracts of the functions that the statement reaches. No condition. -/
import Derived.Test.YtabhoinefficpaaC10g
set_option linter.all false
set_option maxRecDepth 10000
namespace Go.AM.L10
open Go.AM.PL
theorem late_ok (l : List Rn) (p q : Int) (hn : l.length ≤ 2 ^ 40) (hN : ∀ r ∈ l, okN r) (h1 : ∀ r ∈ l, 1 ≤ r.n) (hw : wlen l ≤ 2 ^ 40) : WpCallG A 66 [.fsl 2 (l.map encN), .v (.int .i64 p), .v (.int .i64 q)] [] (fun v H => v = .v (.int .i64 (lateV l p q)) ∧ H = []) := by
 refine WpCallG.intro g66 rfl rfl ?_
 unfold af66
 change WpG _ _ _ _ _
 refine WpG.seq ?_
 refine WpG.reg ?_
 refine G.mv rfl ?_
 refine WpOpsG.nil ?_
 change WpG _ _ _ _ _
 refine WpG.seq ?_
 refine WpG.reg ?_
 refine G.mv rfl ?_
 refine G.mv rfl ?_
 refine G.call0 rfl rfl ((spans_ok l p hn hN h1 hw).ren [(0, 20)]) ?_
 rintro _ _ ⟨_, _, ⟨rfl, rfl⟩, rfl, rfl⟩
 change newOk _ _ [(20, _)] = true ∧ _
 refine ⟨rfl, ?_⟩
 change WpOpsG _ _ ((17, .osl 20) :: _) ([(20, .arr .yes 2 ((spV p 0 l).map encSp))] ++ _) _
 refine WpOpsG.freeze 20 rfl ?_
 refine G.mv rfl ?_
 refine G.mv rfl ?_
 refine G.call0 rfl rfl ((spans_ok l q hn hN h1 hw).ren [(0, 21)]) ?_
 rintro _ _ ⟨_, _, ⟨rfl, rfl⟩, rfl, rfl⟩
 change newOk _ _ [(21, _)] = true ∧ _
 refine ⟨rfl, ?_⟩
 change WpOpsG _ _ ((20, .osl 21) :: _) ([(21, .arr .yes 2 ((spV q 0 l).map encSp))] ++ _) _
 refine WpOpsG.freeze 21 rfl ?_
 refine G.mv rfl ?_
 refine G.mv rfl ?_
 refine WpOpsG.nil ?_
 change WpG _ _ _ _ _
 refine WpG.seq ?_
 refine WpG.block ?_
 refine WpG.seq ?_
 obtain ⟨a, ha⟩ : ∃ a, spV p 0 l = a := ⟨_, rfl⟩
 obtain ⟨b, hb⟩ : ∃ b, spV q 0 l = b := ⟨_, rfl⟩
 have hal := sp_len p l 0
 have hbl := sp_len q l 0
 rw [ha] at hal
 rw [hb] at hbl
 rw [ha, hb]
 have has := sp_rng p l h1
 have hbs0 := sp_rng q l h1
 rw [ha] at has
 rw [hb] at hbs0
 have hbs : ∀ s ∈ b, 0 ≤ s.1 ∧ s.1 < s.2 ∧ s.2 ≤ 2 ^ 40 := fun s hs => by have := hbs0 s hs; omega
 refine WpG.reg ?_
 refine G.mv rfl ?_
 refine G.lenM rfl ?_
 refine G.bin rfl rfl rfl ?_
 refine G.mv rfl ?_
 refine WpOpsG.nil ?_
 change WpG _ _ _ _ _
 refine WpG.cond rfl (fun hq1 => ?_) (fun hq1 => ?_)
 ·(try simp only [zN] at hq1)
  refine WpG.seq ?_
  refine WpG.reg ?_
  refine G.mv rfl ?_
  refine WpOpsG.nil ?_
  change WpG _ _ _ _ _
  refine WpG.ret ?_
  refine ⟨_, [], rfl, (hasP_le (by repeat (first | exact trivial | refine ⟨rfl, ?_⟩))), rfl, rfl, rfl, ?_⟩
  have e : lateV l p q = 0 := by unfold lateV; rw [if_pos (by rw [ha]; exact List.length_eq_zero_iff.1 (by omega))]
  rw [e]; exact ⟨rfl, rfl⟩
 ·(try simp only [zN] at hq1)
  refine WpG.seq ?_
  refine WpG.reg ?_
  refine G.mv rfl ?_
  refine G.lenM rfl ?_
  refine G.bin rfl rfl rfl ?_
  refine G.mv rfl ?_
  refine WpOpsG.nil ?_
  change WpG _ _ _ _ _
  refine WpG.cond rfl (fun hq2 => ?_) (fun hq2 => ?_)
  ·(try simp only [zN] at hq2)
   refine WpG.seq ?_
   refine WpG.reg ?_
   refine G.mv rfl ?_
   refine WpOpsG.nil ?_
   change WpG _ _ _ _ _
   refine WpG.ret ?_
   refine ⟨_, [], rfl, (hasP_le (by repeat (first | exact trivial | refine ⟨rfl, ?_⟩))), rfl, rfl, rfl, ?_⟩
   have e : lateV l p q = -1 := by unfold lateV; rw [if_neg (by rw [ha]; exact fun c => by subst c; simp at hq1), if_pos (by rw [hb]; exact List.length_eq_zero_iff.1 (by omega))]
   rw [e]; exact ⟨rfl, rfl⟩
  ·(try simp only [zN] at hq2)
   refine WpG.skip ?_
   change WpG _ _ _ _ _
   refine WpG.seq ?_
   have hw0 : 0 ≤ wlen l := by unfold wlen; omega
   have ha0 : spV p 0 l ≠ [] := fun c => by rw [ha] at c; subst c; simp at hq1
   have hb0 : spV q 0 l ≠ [] := fun c => by rw [hb] at c; subst c; simp at hq2
   have hlv := late_ne ha0 hb0
   rw [ha, hb] at hlv
   refine WpG.reg ?_
   refine G.mv rfl ?_
   refine G.call0 rfl rfl (ulen_ok l (by omega) hN) ?_
   rintro _ _ ⟨rfl, rfl⟩
   refine ⟨rfl, ?_⟩
   change WpOpsG _ _ ((30, _) :: _) _ _
   rw [total_wlen h1 (by omega)]
   refine G.mv rfl ?_
   refine WpOpsG.nil ?_
   change WpG _ _ _ _ _
   refine WpG.seq ?_
   refine WpG.reg ?_
   refine G.mv rfl ?_
   refine WpOpsG.nil ?_
   change WpG _ _ _ _ _
   refine WpG.seq ?_
   refine WpG.seq ?_
   refine WpG.reg ?_
   refine G.mv rfl ?_
   refine G.lenM rfl ?_
   refine G.mv rfl ?_
   refine WpOpsG.nil ?_
   change WpG _ _ _ _ _
   refine WpG.block ?_
   refine WpG.loop (S := Nat) (fun i => [(8, .fsl 2 (b.map encSp)), (9, .v (.int .i64 (wlen l))), (10, .v (.int .i64 ((a.take i).foldl (lateF b (wlen l)) 0))), (31, .fsl 2 (a.map encSp)), (32, .v (.int .i64 (a.length : Int))), (33, .v (.int .i64 (i : Int)))]) (fun _ => []) (fun i => i ≤ a.length) (fun i => a.length - i) (fun s => ⟨rfl, rfl⟩) ?_ 0 ?_ (by repeat (first | exact trivial | refine ⟨rfl, ?_⟩)) (by repeat (first | exact trivial | refine ⟨rfl, ?_⟩)) rfl
   ·intro i hI
    refine WpG.seq ?_
    refine WpG.reg ?_
    refine G.bin rfl rfl rfl ?_
    refine WpOpsG.nil ?_
    change WpG _ _ _ _ _
    refine WpG.seq ?_
    refine WpG.cond rfl (fun hq3 => ?_) (fun hq3 => ?_)
    ·(try simp only [zN] at hq3)
     refine WpG.skip ?_
     change WpG _ _ _ _ _
     refine WpG.seq ?_
     refine WpG.block ?_
     refine WpG.seq ?_
     have hlt : i < a.length := by omega
     have hai := has a[i] (List.getElem_mem hlt)
     refine WpG.reg ?_
     refine G.iaddrN rfl rfl (List.getElem?_eq_getElem (by omega)) ?_
     refine G.loadNF rfl rfl ?_
     refine G.box (g := 10) rfl rfl rfl ?_
     refine G.storeB rfl rfl rfl rfl rfl rfl ?_
     refine WpOpsG.nil ?_
     change WpG _ _ _ _ _
     refine WpG.seq ?_
     refine WpG.reg ?_
     refine G.faddrB rfl ?_
     refine G.load1B rfl rfl rfl ?_
     refine G.faddrB rfl ?_
     refine G.load1B rfl rfl rfl ?_
     refine G.subI rfl rfl (by omega) ?_
     refine G.bsliceF rfl rfl rfl ?_
     change WpOpsG _ _ ((42, .fsl 1 (([a[i].1, a[i].2 - 1] : List Int).map encK)) :: _) _ _
     refine G.lenM rfl ?_
     refine G.mv rfl ?_
     refine WpOpsG.nil ?_
     change WpG _ _ _ _ _
     refine WpG.block ?_
     refine WpG.loop (S := Nat) (fun j => [(8, .fsl 2 (b.map encSp)), (9, .v (.int .i64 (wlen l))), (10, .v (.int .i64 ((([a[i].1, a[i].2 - 1] : List Int).take j).foldl (fun m t => max m (nextV t (wlen l) b b - t)) ((a.take i).foldl (lateF b (wlen l)) 0)))), (31, .fsl 2 (a.map encSp)), (32, .v (.int .i64 (a.length : Int))), (33, .v (.int .i64 (i : Int))), (42, .fsl 1 (([a[i].1, a[i].2 - 1] : List Int).map encK)), (43, .v (.int .i64 2)), (44, .v (.int .i64 (j : Int)))]) (fun _ => []) (fun j => j ≤ 2) (fun j => 2 - j) (fun s => ⟨rfl, rfl⟩) ?_ 0 ?_ (by repeat (first | exact trivial | refine ⟨rfl, ?_⟩)) (by repeat (first | exact trivial | refine ⟨rfl, ?_⟩)) rfl
     ·intro j hJ
      refine WpG.seq ?_
      refine WpG.reg ?_
      refine G.bin rfl rfl rfl ?_
      refine WpOpsG.nil ?_
      change WpG _ _ _ _ _
      refine WpG.seq ?_
      refine WpG.cond rfl (fun hq4 => ?_) (fun hq4 => ?_)
      ·(try simp only [zN] at hq4)
       refine WpG.skip ?_
       change WpG _ _ _ _ _
       refine WpG.seq ?_
       refine WpG.block ?_
       refine WpG.seq ?_
       have hj2 : j < 2 := by omega
       obtain ⟨t0, ht0⟩ : ∃ t, ([a[i].1, a[i].2 - 1] : List Int).getD j 0 = t := ⟨_, rfl⟩
       have ht1 : 0 ≤ t0 ∧ t0 < wlen l := by
        have : j = 0 ∨ j = 1 := by omega
        rcases this with c | c
        ·subst c; rw [← ht0]; show 0 ≤ a[i].1 ∧ a[i].1 < _; omega
        ·subst c; rw [← ht0]; show 0 ≤ a[i].2 - 1 ∧ a[i].2 - 1 < _; omega
       have hnx := next_is h1 (q := q) ht1 hb0
       rw [hb] at hnx
       have hnx1 := hnx.1.1
       have hnx2 := hnx.2
       refine WpG.reg ?_
       refine G.iaddrM rfl rfl (by omega) (gd17 0 (by show _ < 2; omega)) ?_
       rw [Int.toNat_natCast, ht0]
       refine G.load1F rfl rfl ?_
       refine G.mv rfl ?_
       refine WpOpsG.nil ?_
       change WpG _ _ _ _ _
       refine WpG.reg ?_
       refine G.mv rfl ?_
       refine G.mv rfl ?_
       refine G.mv rfl ?_
       refine G.mv rfl ?_
       refine G.call0 rfl rfl (bnext_ok b t0 (wlen l) (by omega) (by omega) hbs ⟨by omega, by omega⟩ ⟨by omega, by omega⟩) ?_
       rintro _ _ ⟨rfl, rfl⟩
       refine ⟨rfl, ?_⟩
       change WpOpsG _ _ ((52, _) :: _) _ _
       refine G.mv rfl ?_
       refine G.subI rfl rfl (by omega) ?_
       refine G.mx rfl rfl ?_
       refine G.mv rfl ?_
       refine WpOpsG.nil ?_
       change WpG _ _ _ _ _
       refine WpG.reg ?_
       refine G.addI rfl rfl (by omega) ?_
       refine G.mv rfl ?_
       refine WpOpsG.nil ?_
       refine ⟨j + 1, by omega, by omega, ⟨rfl, rfl, ?_, rfl, rfl, rfl, rfl, rfl, rfl, trivial⟩, trivial, rfl⟩
       rw [foldl_take _ _ (show j < ([a[i].1, a[i].2 - 1] : List Int).length from hj2)]
       rw [show ([a[i].1, a[i].2 - 1] : List Int)[j] = t0 by rw [← ht0, List.getD_eq_getElem?_getD, List.getElem?_eq_getElem hj2]; rfl]; rfl
      ·(try simp only [zN] at hq4)
       refine WpG.exit ?_
       change WpG _ _ _ _ _
       refine WpG.reg ?_
       refine G.addI rfl rfl (by omega) ?_
       refine G.mv rfl ?_
       refine WpOpsG.nil ?_
       refine ⟨i + 1, by omega, by omega, ⟨rfl, rfl, ?_, rfl, rfl, rfl, trivial⟩, trivial, rfl⟩
       rw [show j = 2 by omega, foldl_take _ _ hlt]; rfl
     ·exact Nat.zero_le _
    ·(try simp only [zN] at hq3)
     refine WpG.exit ?_
     change WpG _ _ _ _ _
     refine WpG.seq ?_
     refine WpG.reg ?_
     refine G.mv rfl ?_
     refine G.mv rfl ?_
     refine WpOpsG.nil ?_
     change WpG _ _ _ _ _
     refine WpG.ret ?_
     refine ⟨_, [], rfl, (hasP_le (by repeat (first | exact trivial | refine ⟨rfl, ?_⟩))), rfl, rfl, rfl, ?_⟩
     rw [hlv, show a.take i = a from List.take_of_length_le (by omega)]; exact ⟨rfl, rfl⟩
   ·exact Nat.zero_le _
theorem budget_ok (l : List Rn) (p per : Int) (hn : l.length ≤ 2 ^ 40) (hN : ∀ r ∈ l, okN r) (h1 : ∀ r ∈ l, 1 ≤ r.n) (hw : wlen l ≤ 2 ^ 40) (hp : i64 per) : WpCallG A 67 [.fsl 2 (l.map encN), .v (.int .i64 p), .v (.int .i64 per)] [] (fun v H => v = .v (.int .i64 (budV l p per)) ∧ H = []) := by
 unfold i64 at hp
 have hw0 : 0 ≤ wlen l := by unfold wlen; omega
 refine WpCallG.intro g67 rfl rfl ?_
 unfold af67
 change WpG _ _ _ _ _
 refine WpG.seq ?_
 refine WpG.reg ?_
 refine G.mv rfl ?_
 refine WpOpsG.nil ?_
 change WpG _ _ _ _ _
 refine WpG.seq ?_
 refine WpG.reg ?_
 refine G.mv rfl ?_
 refine G.call0 rfl rfl (ulen_ok l (by omega) hN) ?_
 rintro _ _ ⟨rfl, rfl⟩
 refine ⟨rfl, ?_⟩
 change WpOpsG _ _ ((15, _) :: _) _ _
 rw [total_wlen h1 (by omega)]
 refine G.mv rfl ?_
 refine WpOpsG.nil ?_
 change WpG _ _ _ _ _
 refine WpG.seq ?_
 refine WpG.seq ?_
 refine WpG.reg ?_
 refine G.mv rfl ?_
 refine G.bin rfl rfl rfl ?_
 refine G.mv rfl ?_
 apply G.orS rfl rfl rfl rfl rfl rfl
 case hB =>
  intro hs1
  (try simp only [zN] at hs1)
  refine G.mv rfl ?_
  refine G.bin rfl rfl rfl ?_
  refine WpOpsG.nil ?_
  exact ⟨rfl, (by repeat (first | exact LLe.refl _ | refine LLe.cons rfl ?_)), (by repeat (first | exact HLe.refl _ | refine HLe.cons rfl ?_)), rfl⟩
 refine G.mv rfl ?_
 apply G.orS rfl rfl rfl rfl rfl rfl
 case hB =>
  intro hs2
  (try simp only [zN] at hs2)
  refine G.mv rfl ?_
  refine G.mv rfl ?_
  refine G.remN rfl rfl (by omega) (by omega) ?_
  refine G.bin rfl rfl rfl ?_
  refine WpOpsG.nil ?_
  exact ⟨rfl, (by repeat (first | exact LLe.refl _ | refine LLe.cons rfl ?_)), (by repeat (first | exact HLe.refl _ | refine HLe.cons rfl ?_)), rfl⟩
 refine WpOpsG.nil ?_
 change WpG _ _ _ _ _
 refine WpG.cond rfl (fun hq3 => ?_) (fun hq3 => ?_)
 ·(try simp only [zN] at hq3)
  refine WpG.seq ?_
  refine WpG.reg ?_
  refine G.mv rfl ?_
  refine WpOpsG.nil ?_
  change WpG _ _ _ _ _
  refine WpG.ret ?_
  refine ⟨_, [], rfl, (hasP_le (by repeat (first | exact trivial | refine ⟨rfl, ?_⟩))), rfl, rfl, rfl, ?_⟩
  have e : budV l p per = -1 := by unfold budV; rw [if_pos (by omega)]
  rw [e]; exact ⟨rfl, rfl⟩
 ·(try simp only [zN] at hq3)
  refine WpG.skip ?_
  change WpG _ _ _ _ _
  refine WpG.seq ?_
  refine WpG.reg ?_
  refine G.mv rfl ?_
  refine G.mv rfl ?_
  refine G.call0 rfl rfl ((spans_ok l p hn hN h1 hw).ren [(0, 20)]) ?_
  rintro _ _ ⟨_, _, ⟨rfl, rfl⟩, rfl, rfl⟩
  change newOk _ _ [(20, _)] = true ∧ _
  refine ⟨rfl, ?_⟩
  change WpOpsG _ _ ((30, .osl 20) :: _) ([(20, .arr .yes 2 ((spV p 0 l).map encSp))] ++ _) _
  refine WpOpsG.freeze 20 rfl ?_
  refine G.mv rfl ?_
  refine WpOpsG.nil ?_
  change WpG _ _ _ _ _
  refine WpG.seq ?_
  obtain ⟨b, hb⟩ : ∃ b, spV p 0 l = b := ⟨_, rfl⟩
  have hbl := sp_len p l 0
  rw [hb] at hbl
  have hbs := sp_rng p l h1
  rw [hb] at hbs
  rw [hb]
  have hmod : wlen l % per = 0 := by omega
  have hper := per_le (by omega) (by omega) hmod
  obtain ⟨m, hm⟩ : ∃ m, wlen l = per * m := ⟨wlen l / per, by have := Int.mul_ediv_add_emod (wlen l) per; omega⟩
  have hm1 : 1 ≤ m := Int.not_lt.1 fun c => by have := Int.mul_le_mul_of_nonneg_left (show m ≤ 0 by omega) (show 0 ≤ per by omega); omega
  have hdiv : wlen l / per = m := by rw [hm, Int.mul_ediv_cancel_left _ (by omega)]
  refine WpG.reg ?_
  refine G.mv rfl ?_
  refine G.mv rfl ?_
  refine WpOpsG.nil ?_
  change WpG _ _ _ _ _
  refine WpG.seq ?_
  refine WpG.seq ?_
  refine WpG.reg ?_
  refine G.mv rfl ?_
  refine WpOpsG.nil ?_
  change WpG _ _ _ _ _
  refine WpG.block ?_
  refine WpG.loop (S := Nat) (fun k => [(2, .v (.int .i64 per)), (7, .v (.int .i64 (wlen l))), (8, .fsl 2 (b.map encSp)), (9, .v (.int .i64 (budI b per k))), (10, .v (.int .i64 (per * (k : Int))))]) (fun _ => []) (fun k => (k : Int) ≤ m) (fun k => m.toNat - k) (fun s => ⟨rfl, rfl⟩) ?_ 0 ?_ ⟨rfl, rfl, rfl, rfl, by rw [show per * ((0 : Nat) : Int) = 0 from Int.mul_zero _]; rfl, trivial⟩ (by repeat (first | exact trivial | refine ⟨rfl, ?_⟩)) rfl
  ·intro k hK
   refine WpG.seq ?_
   refine WpG.seq ?_
   refine WpG.reg ?_
   refine G.mv rfl ?_
   refine G.mv rfl ?_
   refine G.bin rfl rfl rfl ?_
   refine WpOpsG.nil ?_
   change WpG _ _ _ _ _
   refine WpG.cond rfl (fun hq4 => ?_) (fun hq4 => ?_)
   ·(try simp only [zN] at hq4)
    refine WpG.skip ?_
    change WpG _ _ _ _ _
    refine WpG.seq ?_
    refine WpG.block ?_
    refine WpG.seq ?_
    have hkm : (k : Int) < m := Int.not_le.1 fun c => by have := Int.mul_le_mul_of_nonneg_left c (show 0 ≤ per by omega); omega
    have hk1 : per * ((k : Int) + 1) ≤ wlen l := by rw [hm]; exact Int.mul_le_mul_of_nonneg_left (by omega) (by omega)
    rw [Int.mul_add, Int.mul_one] at hk1
    have hk0 := Int.mul_nonneg (show 0 ≤ per by omega) (show 0 ≤ (k : Int) by omega)
    refine WpG.reg ?_
    refine G.mv rfl ?_
    refine WpOpsG.nil ?_
    change WpG _ _ _ _ _
    refine WpG.seq ?_
    refine WpG.seq ?_
    refine WpG.reg ?_
    refine G.mv rfl ?_
    refine G.lenM rfl ?_
    refine G.mv rfl ?_
    refine WpOpsG.nil ?_
    change WpG _ _ _ _ _
    refine WpG.block ?_
    refine WpG.loop (S := Nat) (fun j => [(2, .v (.int .i64 per)), (7, .v (.int .i64 (wlen l))), (8, .fsl 2 (b.map encSp)), (9, .v (.int .i64 (budI b per k))), (10, .v (.int .i64 (per * (k : Int)))), (11, .v (.int .i64 ((b.take j).foldl (budF (per * k) per) 0))), (38, .fsl 2 (b.map encSp)), (39, .v (.int .i64 (b.length : Int))), (40, .v (.int .i64 (j : Int)))]) (fun _ => []) (fun j => j ≤ b.length) (fun j => b.length - j) (fun s => ⟨rfl, rfl⟩) ?_ 0 ?_ (by repeat (first | exact trivial | refine ⟨rfl, ?_⟩)) (by repeat (first | exact trivial | refine ⟨rfl, ?_⟩)) rfl
    ·intro j hJ
     refine WpG.seq ?_
     refine WpG.reg ?_
     refine G.bin rfl rfl rfl ?_
     refine WpOpsG.nil ?_
     change WpG _ _ _ _ _
     refine WpG.seq ?_
     refine WpG.cond rfl (fun hq5 => ?_) (fun hq5 => ?_)
     ·(try simp only [zN] at hq5)
      refine WpG.skip ?_
      change WpG _ _ _ _ _
      refine WpG.seq ?_
      refine WpG.block ?_
      refine WpG.seq ?_
      have hlt : j < b.length := by omega
      have hbj := hbs b[j] (List.getElem_mem hlt)
      have hbw := budP_rng2 h1 p (per * k) per j (by omega)
      rw [hb] at hbw
      refine WpG.reg ?_
      refine G.iaddrN rfl rfl (List.getElem?_eq_getElem (by omega)) ?_
      refine G.loadNF rfl rfl ?_
      refine G.box (g := 10) rfl rfl rfl ?_
      refine G.storeB rfl rfl rfl rfl rfl rfl ?_
      refine WpOpsG.nil ?_
      change WpG _ _ _ _ _
      refine WpG.reg ?_
      refine G.mv rfl ?_
      refine G.faddrB rfl ?_
      refine G.load1B rfl rfl rfl ?_
      refine G.mv rfl ?_
      refine G.mv rfl ?_
      refine G.addI rfl rfl (by omega) ?_
      refine G.mn rfl rfl ?_
      refine G.faddrB rfl ?_
      refine G.load1B rfl rfl rfl ?_
      refine G.mv rfl ?_
      refine G.mx rfl rfl ?_
      refine G.subI rfl rfl (by omega) ?_
      refine G.mx rfl rfl ?_
      refine G.addI rfl rfl (by omega) ?_
      refine G.mv rfl ?_
      refine WpOpsG.nil ?_
      change WpG _ _ _ _ _
      refine WpG.reg ?_
      refine G.addI rfl rfl (by omega) ?_
      refine G.mv rfl ?_
      refine WpOpsG.nil ?_
      refine ⟨j + 1, by omega, by omega, ⟨rfl, rfl, rfl, rfl, rfl, ?_, rfl, rfl, rfl, trivial⟩, trivial, rfl⟩
      rw [foldl_take _ _ hlt]; rfl
     ·(try simp only [zN] at hq5)
      refine WpG.exit ?_
      change WpG _ _ _ _ _
      refine WpG.reg ?_
      refine G.mv rfl ?_
      refine G.mv rfl ?_
      refine G.mn rfl rfl ?_
      refine G.mv rfl ?_
      refine WpOpsG.nil ?_
      change WpG _ _ _ _ _
      refine WpG.reg ?_
      refine G.mv rfl ?_
      refine G.mv rfl ?_
      refine G.addI rfl rfl (by omega) ?_
      refine G.mv rfl ?_
      refine WpOpsG.nil ?_
      refine ⟨k + 1, by omega, by show ((k + 1 : Nat) : Int) ≤ m; omega, ⟨rfl, rfl, rfl, ?_, ?_, trivial⟩, trivial, rfl⟩
      ·rw [show b.take j = b from List.take_of_length_le (by omega)]; rfl
      ·rw [show per * ((k + 1 : Nat) : Int) = per * (k : Int) + per by rw [Int.natCast_add, Int.mul_add]; show _ + per * 1 = _; omega]; rfl
    ·exact Nat.zero_le _
   ·(try simp only [zN] at hq4)
    refine WpG.exit ?_
    change WpG _ _ _ _ _
    refine WpG.seq ?_
    have hkm : (k : Int) = m := by
     have h2 : ¬ (k : Int) < m := fun c => by have := Int.mul_lt_mul_of_pos_left c (show 0 < per by omega); omega
     omega
    refine WpG.reg ?_
    refine G.mv rfl ?_
    refine G.mv rfl ?_
    refine WpOpsG.nil ?_
    change WpG _ _ _ _ _
    refine WpG.ret ?_
    refine ⟨_, [], rfl, (hasP_le (by repeat (first | exact trivial | refine ⟨rfl, ?_⟩))), rfl, rfl, rfl, ?_⟩
    have e : budV l p per = budI b per k := by unfold budV; rw [if_neg (by omega), hb, hdiv, ← hkm, Int.toNat_natCast]
    rw [e]; exact ⟨rfl, rfl⟩
  ·exact (by omega : ((0 : Nat) : Int) ≤ m)
theorem holds_ok (C : List Ch) (P : List Pt) (ts : List (List GV)) (l : List Rn) (hC : C.length ≤ 2 ^ 50) (hP : P.length ≤ 2 ^ 50) (hPp : ∀ p ∈ P, i64 p.per) (hn : l.length ≤ 2 ^ 40) (hN : ∀ r ∈ l, okN r) (h1 : ∀ r ∈ l, 1 ≤ r.n) (hw : wlen l ≤ 2 ^ 40) : WpCallG A 53 [.agg [.fsl 11 (P.map encP), .fsl 6 (C.map encC), .fsl 1 ts], .fsl 2 (l.map encN)] [] (fun v H => v = .v (.int .i64 (holdV C P l)) ∧ H = []) := by
 refine WpCallG.intro g53 rfl rfl ?_
 unfold af53
 change WpG _ _ _ _ _
 refine WpG.seq ?_
 refine WpG.reg ?_
 refine G.box (g := 10) rfl rfl rfl ?_
 refine G.mv rfl ?_
 refine WpOpsG.nil ?_
 change WpG _ _ _ _ _
 refine WpG.seq ?_
 refine WpG.seq ?_
 refine WpG.reg ?_
 refine G.faddrB rfl ?_
 refine G.load1B rfl rfl rfl ?_
 refine G.lenM rfl ?_
 refine G.mv rfl ?_
 refine WpOpsG.nil ?_
 change WpG _ _ _ _ _
 refine WpG.block ?_
 refine WpG.loop (S := Nat) (fun i => [(1, .fsl 2 (l.map encN)), (2, .bptr 10 0), (11, .fsl 6 (C.map encC)), (12, .v (.int .i64 (C.length : Int))), (13, .v (.int .i64 (i : Int)))]) (fun i => [(10, .box [.fsl 11 (P.map encP), .fsl 6 (C.map encC), .fsl 1 ts])]) (fun i => i ≤ C.length ∧ (C.take i).any (lateBad l) = false) (fun i => C.length - i) (fun s => ⟨rfl, rfl⟩) ?_ 0 ?_ (by repeat (first | exact trivial | refine ⟨rfl, ?_⟩)) (by repeat (first | exact trivial | refine ⟨rfl, ?_⟩)) rfl
 ·rintro i ⟨hI, hA⟩
  refine WpG.seq ?_
  refine WpG.reg ?_
  refine G.bin rfl rfl rfl ?_
  refine WpOpsG.nil ?_
  change WpG _ _ _ _ _
  refine WpG.seq ?_
  refine WpG.cond rfl (fun hq1 => ?_) (fun hq1 => ?_)
  ·(try simp only [zN] at hq1)
   refine WpG.skip ?_
   change WpG _ _ _ _ _
   refine WpG.seq ?_
   refine WpG.block ?_
   refine WpG.seq ?_
   refine WpG.reg ?_
   refine G.iaddrN rfl rfl (List.getElem?_eq_getElem (by omega)) ?_
   refine G.loadNF rfl rfl ?_
   refine G.box (g := 11) rfl rfl rfl ?_
   refine G.storeB rfl rfl rfl rfl rfl rfl ?_
   refine WpOpsG.nil ?_
   change WpG _ _ _ _ _
   refine WpG.seq ?_
   refine WpG.reg ?_
   refine G.mv rfl ?_
   refine G.faddrB rfl ?_
   refine G.load1B rfl rfl rfl ?_
   refine G.faddrB rfl ?_
   refine G.load1B rfl rfl rfl ?_
   refine G.call0 rfl rfl (late_ok l C[i].fr C[i].to hn hN h1 hw) ?_
   rintro _ _ ⟨rfl, rfl⟩
   refine ⟨rfl, ?_⟩
   change WpOpsG _ _ ((22, _) :: _) _ _
   refine G.mv rfl ?_
   refine WpOpsG.nil ?_
   change WpG _ _ _ _ _
   refine WpG.seq ?_
   refine WpG.reg ?_
   refine G.faddrB rfl ?_
   refine G.load1B rfl rfl rfl ?_
   refine G.bin rfl rfl rfl ?_
   refine G.mv rfl ?_
   apply G.andS rfl rfl rfl rfl rfl rfl
   case hB =>
    intro hs2
    (try simp only [zN] at hs2)
    refine G.mv rfl ?_
    refine G.faddrB rfl ?_
    refine G.load1B rfl rfl rfl ?_
    refine G.bin rfl rfl rfl ?_
    refine G.mv rfl ?_
    apply G.orS rfl rfl rfl rfl rfl rfl
    case hB =>
     intro hs3
     (try simp only [zN] at hs3)
     refine G.mv rfl ?_
     refine G.bin rfl rfl rfl ?_
     refine WpOpsG.nil ?_
     exact ⟨rfl, (by repeat (first | exact LLe.refl _ | refine LLe.cons rfl ?_)), (by repeat (first | exact HLe.refl _ | refine HLe.cons rfl ?_)), rfl⟩
    refine WpOpsG.nil ?_
    exact ⟨rfl, (by repeat (first | exact LLe.refl _ | refine LLe.cons rfl ?_)), (by repeat (first | exact HLe.refl _ | refine HLe.cons rfl ?_)), rfl⟩
   refine WpOpsG.nil ?_
   change WpG _ _ _ _ _
   refine WpG.cond rfl (fun hq4 => ?_) (fun hq4 => ?_)
   ·(try simp only [zN] at hq4)
    refine WpG.seq ?_
    refine WpG.reg ?_
    refine G.mv rfl ?_
    refine WpOpsG.nil ?_
    change WpG _ _ _ _ _
    refine WpG.ret ?_
    refine ⟨_, [], rfl, (hasP_le (by repeat (first | exact trivial | refine ⟨rfl, ?_⟩))), rfl, rfl, rfl, ?_⟩
    have hLB : lateBad l C[i] = true := by
     unfold lateBad
     rw [Bool.and_eq_true, Bool.or_eq_true, decide_eq_true_eq, decide_eq_true_eq, beq_iff_eq]; omega
    rw [hold_late (P := P) (i := i) (by omega) hLB]; exact ⟨rfl, rfl⟩
   ·(try simp only [zN] at hq4)
    refine WpG.skip ?_
    change WpG _ _ _ _ _
    refine WpG.reg ?_
    refine G.addI rfl rfl (by omega) ?_
    refine G.mv rfl ?_
    refine WpOpsG.nil ?_
    refine ⟨i + 1, by omega, ⟨by omega, ?_⟩, ⟨rfl, rfl, rfl, rfl, rfl, trivial⟩, ⟨rfl, trivial⟩, rfl⟩
    rw [any_take (by omega), hA, Bool.false_or]
    unfold lateBad
    rw [Bool.and_eq_false_iff, Bool.or_eq_false_iff, decide_eq_false_iff_not, decide_eq_false_iff_not, beq_eq_false_iff_ne]
    omega
  ·(try simp only [zN] at hq1)
   refine WpG.exit ?_
   change WpG _ _ _ _ _
   refine WpG.seq ?_
   refine WpG.seq ?_
   have hAll : C.any (lateBad l) = false := by rw [List.take_of_length_le (by omega)] at hA; exact hA
   refine WpG.reg ?_
   refine G.faddrB rfl ?_
   refine G.load1B rfl rfl rfl ?_
   refine G.lenM rfl ?_
   refine G.mv rfl ?_
   refine WpOpsG.nil ?_
   change WpG _ _ _ _ _
   refine WpG.block ?_
   refine WpG.loop (S := Nat) (fun i => [(1, .fsl 2 (l.map encN)), (38, .fsl 11 (P.map encP)), (39, .v (.int .i64 (P.length : Int))), (40, .v (.int .i64 (i : Int)))]) (fun _ => []) (fun i => i ≤ P.length ∧ ∀ k (h : k < P.length), k < i → shortBad l k P[k] = false) (fun i => P.length - i) (fun s => ⟨rfl, rfl⟩) ?_ 0 ?_ (by repeat (first | exact trivial | refine ⟨rfl, ?_⟩)) (by repeat (first | exact trivial | refine ⟨rfl, ?_⟩)) rfl
   ·rintro i ⟨hI, hS⟩
    refine WpG.seq ?_
    refine WpG.reg ?_
    refine G.bin rfl rfl rfl ?_
    refine WpOpsG.nil ?_
    change WpG _ _ _ _ _
    refine WpG.seq ?_
    refine WpG.cond rfl (fun hq5 => ?_) (fun hq5 => ?_)
    ·(try simp only [zN] at hq5)
     refine WpG.skip ?_
     change WpG _ _ _ _ _
     refine WpG.seq ?_
     refine WpG.block ?_
     refine WpG.seq ?_
     refine WpG.reg ?_
     refine G.mv rfl ?_
     refine G.iaddrN rfl rfl (List.getElem?_eq_getElem (by omega)) ?_
     refine G.loadNF rfl rfl ?_
     refine G.box (g := 12) rfl rfl rfl ?_
     refine G.mv rfl ?_
     refine G.storeB rfl rfl rfl rfl rfl rfl ?_
     refine WpOpsG.nil ?_
     change WpG _ _ _ _ _
     refine WpG.seq ?_
     refine WpG.reg ?_
     refine G.faddrB rfl ?_
     refine G.load1B rfl rfl rfl ?_
     refine G.bin rfl rfl rfl ?_
     refine G.mv rfl ?_
     apply G.andS rfl rfl rfl rfl rfl rfl
     case hB =>
      intro hs6
      (try simp only [zN] at hs6)
      refine G.mv rfl ?_
      refine G.mv rfl ?_
      refine G.faddrB rfl ?_
      refine G.load1B rfl rfl rfl ?_
      refine G.faddrB rfl ?_
      refine G.load1B rfl rfl rfl ?_
      refine G.ckcall0 rfl rfl rfl (budget_ok l (i : Int) P[i].per hn hN h1 hw (hPp _ (List.getElem_mem (by omega)))) ?_
      rintro _ _ ⟨rfl, rfl⟩
      refine ⟨rfl, ?_⟩
      change WpOpsG _ _ ((53, _) :: _) _ _
      refine G.bin rfl rfl rfl ?_
      refine WpOpsG.nil ?_
      exact ⟨rfl, (by repeat (first | exact LLe.refl _ | refine LLe.cons rfl ?_)), (by repeat (first | exact HLe.refl _ | refine HLe.cons rfl ?_)), rfl⟩
     refine WpOpsG.nil ?_
     change WpG _ _ _ _ _
     refine WpG.cond rfl (fun hq7 => ?_) (fun hq7 => ?_)
     ·(try simp only [zN] at hq7)
      refine WpG.seq ?_
      refine WpG.reg ?_
      refine G.mv rfl ?_
      refine WpOpsG.nil ?_
      change WpG _ _ _ _ _
      refine WpG.ret ?_
      refine ⟨_, [], rfl, (hasP_le (by repeat (first | exact trivial | refine ⟨rfl, ?_⟩))), rfl, rfl, rfl, ?_⟩
      have hSB : shortBad l i P[i] = true := by unfold shortBad; rw [Bool.and_eq_true, decide_eq_true_eq, decide_eq_true_eq]; omega
      rw [hold_short hAll (i := i) (by omega) hSB]; exact ⟨rfl, rfl⟩
     ·(try simp only [zN] at hq7)
      refine WpG.skip ?_
      change WpG _ _ _ _ _
      refine WpG.reg ?_
      refine G.addI rfl rfl (by omega) ?_
      refine G.mv rfl ?_
      refine WpOpsG.nil ?_
      refine ⟨i + 1, by omega, ⟨by omega, fun k hk hki => ?_⟩, ⟨rfl, rfl, rfl, rfl, trivial⟩, trivial, rfl⟩
      by_cases c : k = i
      ·subst c; unfold shortBad; rw [Bool.and_eq_false_iff, decide_eq_false_iff_not, decide_eq_false_iff_not]; omega
      ·exact hS k hk (by omega)
    ·(try simp only [zN] at hq5)
     refine WpG.exit ?_
     change WpG _ _ _ _ _
     refine WpG.seq ?_
     refine WpG.reg ?_
     refine G.mv rfl ?_
     refine WpOpsG.nil ?_
     change WpG _ _ _ _ _
     refine WpG.ret ?_
     refine ⟨_, [], rfl, (hasP_le (by repeat (first | exact trivial | refine ⟨rfl, ?_⟩))), rfl, rfl, rfl, ?_⟩
     rw [hold_ok hAll (fun k hk => hS k hk (by omega))]; exact ⟨rfl, rfl⟩
   ·exact ⟨Nat.zero_le _, fun k _ h => by omega⟩
 ·exact ⟨Nat.zero_le _, rfl⟩
end Go.AM.L10
