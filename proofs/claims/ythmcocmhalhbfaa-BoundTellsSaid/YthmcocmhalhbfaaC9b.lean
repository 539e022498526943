/- Contracts of the functions that the statement reaches. No condition. -/
import Derived.Test.YthmcocmhalhbfaaC9a
set_option linter.all false
set_option maxRecDepth 10000
namespace Go.AM.L9
open Go.AM.PL
theorem late_ok (l : List Rn) (p q : Int) (hn : l.length ≤ 2 ^ 40) (hN : ∀ r ∈ l, okN r) (h1 : ∀ r ∈ l, 1 ≤ r.n) (hw : wlen l ≤ 2 ^ 40) : WpCallG A 20 [.fsl 2 (l.map encN), .v (.int .i64 p), .v (.int .i64 q)] [] (fun v H => v = .v (.int .i64 (lateV l p q)) ∧ H = []) := by
 refine WpCallG.intro g20 rfl rfl ?_
 unfold af20
 change WpG _ _ _ _ _
 refine WpG.seq ?_
 refine WpG.reg ?_
 refine G.mv rfl ?_
 refine WpOpsG.nil ?_
 change WpG _ _ _ _ _
 refine WpG.seq ?_
 refine WpG.reg ?_
 refine G.mv rfl ?_
 refine G.mv rfl ?_
 refine G.call0 rfl rfl ((spans_ok l p hn hN h1 hw).ren [(0, 20)]) ?_
 rintro _ _ ⟨_, _, ⟨rfl, rfl⟩, rfl, rfl⟩
 change newOk _ _ [(20, _)] = true ∧ _
 refine ⟨rfl, ?_⟩
 change WpOpsG _ _ ((17, .osl 20) :: _) ([(20, .arr .yes 2 ((spV p 0 l).map encSp))] ++ _) _
 refine WpOpsG.freeze 20 rfl ?_
 refine G.mv rfl ?_
 refine G.mv rfl ?_
 refine G.call0 rfl rfl ((spans_ok l q hn hN h1 hw).ren [(0, 21)]) ?_
 rintro _ _ ⟨_, _, ⟨rfl, rfl⟩, rfl, rfl⟩
 change newOk _ _ [(21, _)] = true ∧ _
 refine ⟨rfl, ?_⟩
 change WpOpsG _ _ ((20, .osl 21) :: _) ([(21, .arr .yes 2 ((spV q 0 l).map encSp))] ++ _) _
 refine WpOpsG.freeze 21 rfl ?_
 refine G.mv rfl ?_
 refine G.mv rfl ?_
 refine WpOpsG.nil ?_
 change WpG _ _ _ _ _
 refine WpG.seq ?_
 refine WpG.block ?_
 refine WpG.seq ?_
 obtain ⟨a, ha⟩ : ∃ a, spV p 0 l = a := ⟨_, rfl⟩
 obtain ⟨b, hb⟩ : ∃ b, spV q 0 l = b := ⟨_, rfl⟩
 have hal := sp_len p l 0
 have hbl := sp_len q l 0
 rw [ha] at hal
 rw [hb] at hbl
 rw [ha, hb]
 have has := sp_rng p l h1
 have hbs0 := sp_rng q l h1
 rw [ha] at has
 rw [hb] at hbs0
 have hbs : ∀ s ∈ b, 0 ≤ s.1 ∧ s.1 < s.2 ∧ s.2 ≤ 2 ^ 40 := fun s hs => by have := hbs0 s hs; omega
 refine WpG.reg ?_
 refine G.mv rfl ?_
 refine G.lenM rfl ?_
 refine G.bin rfl rfl rfl ?_
 refine G.mv rfl ?_
 refine WpOpsG.nil ?_
 change WpG _ _ _ _ _
 refine WpG.cond rfl (fun hq1 => ?_) (fun hq1 => ?_)
 ·(try simp only [zN] at hq1)
  refine WpG.seq ?_
  refine WpG.reg ?_
  refine G.mv rfl ?_
  refine WpOpsG.nil ?_
  change WpG _ _ _ _ _
  refine WpG.ret ?_
  refine ⟨_, [], rfl, (hasP_le (by repeat (first | exact trivial | refine ⟨rfl, ?_⟩))), rfl, rfl, rfl, ?_⟩
  have e : lateV l p q = 0 := by unfold lateV; rw [if_pos (by rw [ha]; exact List.length_eq_zero_iff.1 (by omega))]
  rw [e]; exact ⟨rfl, rfl⟩
 ·(try simp only [zN] at hq1)
  refine WpG.seq ?_
  refine WpG.reg ?_
  refine G.mv rfl ?_
  refine G.lenM rfl ?_
  refine G.bin rfl rfl rfl ?_
  refine G.mv rfl ?_
  refine WpOpsG.nil ?_
  change WpG _ _ _ _ _
  refine WpG.cond rfl (fun hq2 => ?_) (fun hq2 => ?_)
  ·(try simp only [zN] at hq2)
   refine WpG.seq ?_
   refine WpG.reg ?_
   refine G.mv rfl ?_
   refine WpOpsG.nil ?_
   change WpG _ _ _ _ _
   refine WpG.ret ?_
   refine ⟨_, [], rfl, (hasP_le (by repeat (first | exact trivial | refine ⟨rfl, ?_⟩))), rfl, rfl, rfl, ?_⟩
   have e : lateV l p q = -1 := by unfold lateV; rw [if_neg (by rw [ha]; exact fun c => by subst c; simp at hq1), if_pos (by rw [hb]; exact List.length_eq_zero_iff.1 (by omega))]
   rw [e]; exact ⟨rfl, rfl⟩
  ·(try simp only [zN] at hq2)
   refine WpG.skip ?_
   change WpG _ _ _ _ _
   refine WpG.seq ?_
   have hw0 : 0 ≤ wlen l := by unfold wlen; omega
   have ha0 : spV p 0 l ≠ [] := fun c => by rw [ha] at c; subst c; simp at hq1
   have hb0 : spV q 0 l ≠ [] := fun c => by rw [hb] at c; subst c; simp at hq2
   have hlv := late_ne ha0 hb0
   rw [ha, hb] at hlv
   refine WpG.reg ?_
   refine G.mv rfl ?_
   refine G.call0 rfl rfl (ulen_ok l (by omega) hN) ?_
   rintro _ _ ⟨rfl, rfl⟩
   refine ⟨rfl, ?_⟩
   change WpOpsG _ _ ((30, _) :: _) _ _
   rw [total_wlen h1 (by omega)]
   refine G.mv rfl ?_
   refine WpOpsG.nil ?_
   change WpG _ _ _ _ _
   refine WpG.seq ?_
   refine WpG.reg ?_
   refine G.mv rfl ?_
   refine WpOpsG.nil ?_
   change WpG _ _ _ _ _
   refine WpG.seq ?_
   refine WpG.seq ?_
   refine WpG.reg ?_
   refine G.mv rfl ?_
   refine G.lenM rfl ?_
   refine G.mv rfl ?_
   refine WpOpsG.nil ?_
   change WpG _ _ _ _ _
   refine WpG.block ?_
   refine WpG.loop (S := Nat) (fun i => [(8, .fsl 2 (b.map encSp)), (9, .v (.int .i64 (wlen l))), (10, .v (.int .i64 ((a.take i).foldl (lateF b (wlen l)) 0))), (31, .fsl 2 (a.map encSp)), (32, .v (.int .i64 (a.length : Int))), (33, .v (.int .i64 (i : Int)))]) (fun _ => []) (fun i => i ≤ a.length) (fun i => a.length - i) (fun s => ⟨rfl, rfl⟩) ?_ 0 ?_ (by repeat (first | exact trivial | refine ⟨rfl, ?_⟩)) (by repeat (first | exact trivial | refine ⟨rfl, ?_⟩)) rfl
   ·intro i hI
    refine WpG.seq ?_
    refine WpG.reg ?_
    refine G.bin rfl rfl rfl ?_
    refine WpOpsG.nil ?_
    change WpG _ _ _ _ _
    refine WpG.seq ?_
    refine WpG.cond rfl (fun hq3 => ?_) (fun hq3 => ?_)
    ·(try simp only [zN] at hq3)
     refine WpG.skip ?_
     change WpG _ _ _ _ _
     refine WpG.seq ?_
     refine WpG.block ?_
     refine WpG.seq ?_
     have hlt : i < a.length := by omega
     have hai := has a[i] (List.getElem_mem hlt)
     refine WpG.reg ?_
     refine G.iaddrN rfl rfl (List.getElem?_eq_getElem (by omega)) ?_
     refine G.loadNF rfl rfl ?_
     refine G.box (g := 10) rfl rfl rfl ?_
     refine G.storeB rfl rfl rfl rfl rfl rfl ?_
     refine WpOpsG.nil ?_
     change WpG _ _ _ _ _
     refine WpG.seq ?_
     refine WpG.reg ?_
     refine G.faddrB rfl ?_
     refine G.load1B rfl rfl rfl ?_
     refine G.faddrB rfl ?_
     refine G.load1B rfl rfl rfl ?_
     refine G.subI rfl rfl (by omega) ?_
     refine G.bsliceF rfl rfl rfl ?_
     change WpOpsG _ _ ((42, .fsl 1 (([a[i].1, a[i].2 - 1] : List Int).map encK)) :: _) _ _
     refine G.lenM rfl ?_
     refine G.mv rfl ?_
     refine WpOpsG.nil ?_
     change WpG _ _ _ _ _
     refine WpG.block ?_
     refine WpG.loop (S := Nat) (fun j => [(8, .fsl 2 (b.map encSp)), (9, .v (.int .i64 (wlen l))), (10, .v (.int .i64 ((([a[i].1, a[i].2 - 1] : List Int).take j).foldl (fun m t => max m (nextV t (wlen l) b b - t)) ((a.take i).foldl (lateF b (wlen l)) 0)))), (31, .fsl 2 (a.map encSp)), (32, .v (.int .i64 (a.length : Int))), (33, .v (.int .i64 (i : Int))), (42, .fsl 1 (([a[i].1, a[i].2 - 1] : List Int).map encK)), (43, .v (.int .i64 2)), (44, .v (.int .i64 (j : Int)))]) (fun _ => []) (fun j => j ≤ 2) (fun j => 2 - j) (fun s => ⟨rfl, rfl⟩) ?_ 0 ?_ (by repeat (first | exact trivial | refine ⟨rfl, ?_⟩)) (by repeat (first | exact trivial | refine ⟨rfl, ?_⟩)) rfl
     ·intro j hJ
      refine WpG.seq ?_
      refine WpG.reg ?_
      refine G.bin rfl rfl rfl ?_
      refine WpOpsG.nil ?_
      change WpG _ _ _ _ _
      refine WpG.seq ?_
      refine WpG.cond rfl (fun hq4 => ?_) (fun hq4 => ?_)
      ·(try simp only [zN] at hq4)
       refine WpG.skip ?_
       change WpG _ _ _ _ _
       refine WpG.seq ?_
       refine WpG.block ?_
       refine WpG.seq ?_
       have hj2 : j < 2 := by omega
       obtain ⟨t0, ht0⟩ : ∃ t, ([a[i].1, a[i].2 - 1] : List Int).getD j 0 = t := ⟨_, rfl⟩
       have ht1 : 0 ≤ t0 ∧ t0 < wlen l := by
        have : j = 0 ∨ j = 1 := by omega
        rcases this with c | c
        ·subst c; rw [← ht0]; show 0 ≤ a[i].1 ∧ a[i].1 < _; omega
        ·subst c; rw [← ht0]; show 0 ≤ a[i].2 - 1 ∧ a[i].2 - 1 < _; omega
       have hnx := next_is h1 (q := q) ht1 hb0
       rw [hb] at hnx
       have hnx1 := hnx.1.1
       have hnx2 := hnx.2
       refine WpG.reg ?_
       refine G.iaddrM rfl rfl (by omega) (gd17 0 (by show _ < 2; omega)) ?_
       rw [Int.toNat_natCast, ht0]
       refine G.load1F rfl rfl ?_
       refine G.mv rfl ?_
       refine WpOpsG.nil ?_
       change WpG _ _ _ _ _
       refine WpG.reg ?_
       refine G.mv rfl ?_
       refine G.mv rfl ?_
       refine G.mv rfl ?_
       refine G.mv rfl ?_
       refine G.call0 rfl rfl (bnext_ok b t0 (wlen l) (by omega) (by omega) hbs ⟨by omega, by omega⟩ ⟨by omega, by omega⟩) ?_
       rintro _ _ ⟨rfl, rfl⟩
       refine ⟨rfl, ?_⟩
       change WpOpsG _ _ ((52, _) :: _) _ _
       refine G.mv rfl ?_
       refine G.subI rfl rfl (by omega) ?_
       refine G.mx rfl rfl ?_
       refine G.mv rfl ?_
       refine WpOpsG.nil ?_
       change WpG _ _ _ _ _
       refine WpG.reg ?_
       refine G.addI rfl rfl (by omega) ?_
       refine G.mv rfl ?_
       refine WpOpsG.nil ?_
       refine ⟨j + 1, by omega, by omega, ⟨rfl, rfl, ?_, rfl, rfl, rfl, rfl, rfl, rfl, trivial⟩, trivial, rfl⟩
       rw [foldl_take _ _ (show j < ([a[i].1, a[i].2 - 1] : List Int).length from hj2)]
       rw [show ([a[i].1, a[i].2 - 1] : List Int)[j] = t0 by rw [← ht0, List.getD_eq_getElem?_getD, List.getElem?_eq_getElem hj2]; rfl]; rfl
      ·(try simp only [zN] at hq4)
       refine WpG.exit ?_
       change WpG _ _ _ _ _
       refine WpG.reg ?_
       refine G.addI rfl rfl (by omega) ?_
       refine G.mv rfl ?_
       refine WpOpsG.nil ?_
       refine ⟨i + 1, by omega, by omega, ⟨rfl, rfl, ?_, rfl, rfl, rfl, trivial⟩, trivial, rfl⟩
       rw [show j = 2 by omega, foldl_take _ _ hlt]; rfl
     ·exact Nat.zero_le _
    ·(try simp only [zN] at hq3)
     refine WpG.exit ?_
     change WpG _ _ _ _ _
     refine WpG.seq ?_
     refine WpG.reg ?_
     refine G.mv rfl ?_
     refine G.mv rfl ?_
     refine WpOpsG.nil ?_
     change WpG _ _ _ _ _
     refine WpG.ret ?_
     refine ⟨_, [], rfl, (hasP_le (by repeat (first | exact trivial | refine ⟨rfl, ?_⟩))), rfl, rfl, rfl, ?_⟩
     rw [hlv, show a.take i = a from List.take_of_length_le (by omega)]; exact ⟨rfl, rfl⟩
   ·exact Nat.zero_le _
end Go.AM.L9
