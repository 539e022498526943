/- Contracts of the functions that the statement reaches. No condition. -/
import Derived.Test.YtffhonjjccndpaaC6c
set_option linter.all false
set_option maxRecDepth 10000
namespace Go.AM.L6
open Go.AM.PL
set_option maxHeartbeats 1000000 in
theorem fbest6_ok (ids sizes : List Int) (hl : ids.length ≤ 200) (hs : sizes.length = ids.length) (hz : ∀ x ∈ sizes, 0 ≤ x ∧ x ≤ 200) : WpCallG A 21 [.fsl 1 (ids.map encK), .fsl 1 (sizes.map encK)] [] (fun v H => v = .agg (encFt (bestV ids sizes)) ∧ H = []) := by
 refine WpCallG.intro g21 rfl rfl ?_
 unfold af21
 change WpG _ _ _ _ _
 refine WpG.seq ?_
 refine WpG.reg ?_
 refine G.box (g := 10) rfl rfl rfl ?_
 refine WpOpsG.nil ?_
 change WpG _ _ _ _ _
 refine WpG.seq ?_
 refine WpG.reg ?_
 refine G.box (g := 11) rfl rfl rfl ?_
 refine WpOpsG.nil ?_
 change WpG _ _ _ _ _
 refine WpG.seq ?_
 refine WpG.seq ?_
 refine WpG.reg ?_
 refine G.mv rfl ?_
 refine G.lenM rfl ?_
 refine G.mv rfl ?_
 refine WpOpsG.nil ?_
 change WpG _ _ _ _ _
 refine WpG.block ?_
 refine WpG.loop (S := Nat × Ft) (fun s => [(0, .fsl 1 (ids.map encK)), (1, .fsl 1 (sizes.map encK)), (4, .bptr 10 0), (5, .bptr 11 0), (12, .v (.int .i64 (ids.length : Int))), (13, .v (.int .i64 (s.1 : Int)))]) (fun s => [(10, .box [.v (.int .i64 0), .v (.int .i64 0), .v (.int .i64 0), .v (.int .i64 0)]), (11, .box (encFt s.2))]) (fun s => s.1 ≤ ids.length ∧ s.2 = outB ids sizes s.1 ∧ 0 ≤ s.2.s ∧ s.2.s ≤ 50000 * 300) (fun s => ids.length - s.1) (fun s => ⟨rfl, rfl⟩) ?_ (0, ⟨0, 0, 0, 0⟩) ?_ (by repeat (first | exact trivial | refine ⟨rfl, ?_⟩)) (by repeat (first | exact trivial | refine ⟨rfl, ?_⟩)) rfl
 ·rintro ⟨i, o⟩ ⟨hI, hE, ho1, ho2⟩
  dsimp only at hI hE ho1 ho2 ⊢
  refine WpG.seq ?_
  refine WpG.reg ?_
  refine G.bin rfl rfl rfl ?_
  refine WpOpsG.nil ?_
  change WpG _ _ _ _ _
  refine WpG.seq ?_
  refine WpG.cond rfl (fun hq1 => ?_) (fun hq1 => ?_)
  ·(try simp only [zN] at hq1)
   refine WpG.skip ?_
   change WpG _ _ _ _ _
   refine WpG.seq ?_
   refine WpG.block ?_
   refine WpG.seq ?_
   refine WpG.reg ?_
   refine G.mv rfl ?_
   refine G.mv rfl ?_
   refine WpOpsG.nil ?_
   change WpG _ _ _ _ _
   refine WpG.seq ?_
   refine WpG.reg ?_
   refine G.mv rfl ?_
   refine WpOpsG.nil ?_
   change WpG _ _ _ _ _
   refine WpG.seq ?_
   refine WpG.reg ?_
   refine G.mv rfl ?_
   refine WpOpsG.nil ?_
   change WpG _ _ _ _ _
   refine WpG.block ?_
   refine WpG.loop (S := Nat × Int × Ft) (fun s => [(0, .fsl 1 (ids.map encK)), (1, .fsl 1 (sizes.map encK)), (4, .bptr 10 0), (5, .bptr 11 0), (12, .v (.int .i64 (ids.length : Int))), (13, .v (.int .i64 (i : Int))), (6, .v (.int .i64 (i : Int))), (7, .v (.int .i64 s.2.1)), (8, .v (.int .i64 (s.1 : Int)))]) (fun s => [(10, .box [.v (.int .i64 0), .v (.int .i64 0), .v (.int .i64 0), .v (.int .i64 0)]), (11, .box (encFt s.2.2))]) (fun s => (1 ≤ s.1 ∧ s.1 ≤ ids.length + 1) ∧ (0 ≤ s.2.1 ∧ s.2.1 ≤ 200 * s.1) ∧ inB ids sizes i (ids.length + 1 - s.1) s.1 s.2.1 s.2.2 = outB ids sizes (i + 1) ∧ 0 ≤ s.2.2.s ∧ s.2.2.s ≤ 50000 * 300) (fun s => ids.length + 1 - s.1) (fun s => ⟨rfl, rfl⟩) ?_ (1, 0, o) ?_ (by repeat (first | exact trivial | refine ⟨rfl, ?_⟩)) (by repeat (first | exact trivial | refine ⟨rfl, ?_⟩)) rfl
   ·rintro ⟨p, size, o⟩ ⟨hp, hz1, hw, hw1, hw2⟩
    dsimp only at hp hz1 hw hw1 hw2 ⊢
    refine WpG.seq ?_
    refine WpG.seq ?_
    refine WpG.reg ?_
    refine G.mv rfl ?_
    refine G.mv rfl ?_
    refine G.mulI rfl rfl (by omega) ?_
    refine G.addI rfl rfl (by omega) ?_
    refine G.mv rfl ?_
    refine G.lenM rfl ?_
    refine G.bin rfl rfl rfl ?_
    refine WpOpsG.nil ?_
    change WpG _ _ _ _ _
    refine WpG.cond rfl (fun hq2 => ?_) (fun hq2 => ?_)
    ·(try simp only [zN] at hq2)
     refine WpG.skip ?_
     change WpG _ _ _ _ _
     refine WpG.seq ?_
     refine WpG.block ?_
     refine WpG.seq ?_
     refine WpG.reg ?_
     refine G.mv rfl ?_
     refine G.mv rfl ?_
     refine G.mv rfl ?_
     refine G.mv rfl ?_
     refine G.addI rfl rfl (by omega) ?_
     refine G.subI rfl rfl (by omega) ?_
     rw [show (i : Int) + (p : Int) - 1 = ((i + p - 1 : Nat) : Int) by omega]
     refine G.iaddrM rfl rfl (by omega) (gd17 (0 : Int) (by omega)) ?_
     rw [Int.toNat_natCast]
     refine G.load1F rfl rfl ?_
     obtain ⟨z, hzE⟩ : ∃ z, sizes.getD (i + p - 1) 0 = z := ⟨_, rfl⟩
     have hzr : 0 ≤ z ∧ z ≤ 200 := hzE ▸ hz _ (getD_memI (by omega))
     rw [hzE]
     refine G.addI rfl rfl (by omega) ?_
     refine G.mv rfl ?_
     refine WpOpsG.nil ?_
     change WpG _ _ _ _ _
     refine WpG.seq ?_
     refine WpG.reg ?_
     refine G.mv rfl ?_
     refine G.mv rfl ?_
     refine G.mv rfl ?_
     refine G.call0 rfl rfl (fagain6_ok ids i p (by omega) (by omega) (by omega)) ?_
     rintro _ _ ⟨rfl, rfl⟩
     refine ⟨rfl, ?_⟩
     change WpOpsG _ _ ((37, _) :: _) _ _
     have har := again_rng (l := ids) (a := i) (p := p)
     obtain ⟨n, hnE⟩ : ∃ n, againV ids i p = n := ⟨_, rfl⟩
     rw [hnE] at har ⊢
     have hsg := sgt_rng (size := (size + z)) (n := n) (p := p) (by omega) (by omega) (by omega) (by omega)
     refine G.mv rfl ?_
     refine WpOpsG.nil ?_
     change WpG _ _ _ _ _
     refine WpG.seq ?_
     refine WpG.reg ?_
     refine G.mv rfl ?_
     refine G.mv rfl ?_
     refine G.subI rfl rfl (by omega) ?_
     refine G.mulI rfl rfl (by omega) ?_
     refine G.subI rfl rfl (by omega) ?_
     refine G.mv rfl ?_
     refine WpOpsG.nil ?_
     change WpG _ _ _ _ _
     refine WpG.seqJ ([(0, .fsl 1 (ids.map encK)), (1, .fsl 1 (sizes.map encK)), (4, .bptr 10 0), (5, .bptr 11 0), (12, .v (.int .i64 (ids.length : Int))), (13, .v (.int .i64 (i : Int))), (6, .v (.int .i64 (i : Int))), (7, .v (.int .i64 (size + z))), (8, .v (.int .i64 (p : Int))), (9, .v (.int .i64 (n : Int))), (10, .v (.int .i64 (sgt (size + z) n p)))]) ([(10, .box [.v (.int .i64 0), .v (.int .i64 0), .v (.int .i64 0), .v (.int .i64 0)]), (11, .box (encFt o))]) ⟨rfl, rfl⟩ ?_ ?_
     ·change WpG _ _ _ _ _
      refine WpG.seq ?_
      refine WpG.reg ?_
      refine G.mv rfl ?_
      refine G.bin rfl rfl rfl ?_
      refine WpOpsG.nil ?_
      change WpG _ _ _ _ _
      refine WpG.cond rfl (fun hq3 => ?_) (fun hq3 => ?_)
      ·(try simp only [zN] at hq3)
       refine WpG.reg ?_
       refine G.mv rfl ?_
       refine G.subI rfl rfl (by omega) ?_
       refine G.mv rfl ?_
       refine WpOpsG.nil ?_
       refine ⟨⟨rfl, rfl, rfl, rfl, rfl, rfl, rfl, rfl, rfl, rfl, ?_, trivial⟩, ⟨rfl, rfl, trivial⟩, rfl⟩
       unfold sgt
       first
        | (rw [if_pos (by omega)]; rfl)
        | (rw [if_neg (by omega), Int.sub_zero]; rfl)
      ·(try simp only [zN] at hq3)
       refine WpG.skip ?_
       refine ⟨⟨rfl, rfl, rfl, rfl, rfl, rfl, rfl, rfl, rfl, rfl, ?_, trivial⟩, ⟨rfl, rfl, trivial⟩, rfl⟩
       unfold sgt
       first
        | (rw [if_pos (by omega)]; rfl)
        | (rw [if_neg (by omega), Int.sub_zero]; rfl)
     have hsr : sgt (size + z) n p ≤ 50000 * 300 := by unfold sgt; split <;> omega
     change WpG _ _ _ _ _
     refine WpG.seq ?_
     refine WpG.reg ?_
     refine G.mv rfl ?_
     refine G.bin rfl rfl rfl ?_
     refine G.mv rfl ?_
     apply G.andS rfl rfl rfl rfl rfl rfl
     case hB =>
      intro hs4
      (try simp only [zN] at hs4)
      refine G.mv rfl ?_
      refine G.faddrB rfl ?_
      refine G.load1B rfl rfl rfl ?_
      refine G.bin rfl rfl rfl ?_
      refine WpOpsG.nil ?_
      exact ⟨rfl, (by repeat (first | exact LLe.refl _ | refine LLe.cons rfl ?_)), (by repeat (first | exact HLe.refl _ | refine HLe.cons rfl ?_)), rfl⟩
     refine WpOpsG.nil ?_
     change WpG _ _ _ _ _
     refine WpG.cond rfl (fun hq5 => ?_) (fun hq5 => ?_)
     ·(try simp only [zN] at hq5)
      have hup : 1 < n ∧ o.s < sgt (size + z) n p := ⟨by omega, hq5.2⟩
      refine WpG.reg ?_
      refine G.mv rfl ?_
      refine G.mv rfl ?_
      refine G.mv rfl ?_
      refine G.mv rfl ?_
      refine G.build rfl ?_
      refine G.storeB rfl rfl rfl rfl rfl rfl ?_
      refine WpOpsG.nil ?_
      change WpG _ _ _ _ _
      refine WpG.reg ?_
      refine G.mv rfl ?_
      refine G.addI rfl rfl (by omega) ?_
      refine G.mv rfl ?_
      refine WpOpsG.nil ?_
      first
       | exact ⟨(p + 1, (size + z), (⟨i, p, n, sgt (size + z) n p⟩ : Ft)), by show _ - (p + 1) < _ - p; omega, ⟨⟨by dsimp only; omega, by dsimp only; omega⟩, ⟨by dsimp only; omega, by dsimp only; omega⟩, by dsimp only; rw [← hw, show ids.length + 1 - p = (ids.length + 1 - (p + 1)) + 1 by omega, inB_yes (by omega), hzE, upB_t hnE hup], by dsimp only; omega, hsr⟩, ⟨rfl, rfl, rfl, rfl, rfl, rfl, rfl, rfl, rfl, trivial⟩, ⟨rfl, rfl, trivial⟩, rfl⟩
       | exact ⟨(p + 1, (size + z), o), by show _ - (p + 1) < _ - p; omega, ⟨⟨by dsimp only; omega, by dsimp only; omega⟩, ⟨by dsimp only; omega, by dsimp only; omega⟩, by dsimp only; rw [← hw, show ids.length + 1 - p = (ids.length + 1 - (p + 1)) + 1 by omega, inB_yes (by omega), hzE, upB_f hnE hup], hw1, hw2⟩, ⟨rfl, rfl, rfl, rfl, rfl, rfl, rfl, rfl, rfl, trivial⟩, ⟨rfl, rfl, trivial⟩, rfl⟩
     ·(try simp only [zN] at hq5)
      have hup : ¬ (1 < n ∧ o.s < sgt (size + z) n p) := fun c => by
       rcases hq5 with h | h
       ·omega
       ·have := c.2; omega
      refine WpG.skip ?_
      change WpG _ _ _ _ _
      refine WpG.reg ?_
      refine G.mv rfl ?_
      refine G.addI rfl rfl (by omega) ?_
      refine G.mv rfl ?_
      refine WpOpsG.nil ?_
      first
       | exact ⟨(p + 1, (size + z), (⟨i, p, n, sgt (size + z) n p⟩ : Ft)), by show _ - (p + 1) < _ - p; omega, ⟨⟨by dsimp only; omega, by dsimp only; omega⟩, ⟨by dsimp only; omega, by dsimp only; omega⟩, by dsimp only; rw [← hw, show ids.length + 1 - p = (ids.length + 1 - (p + 1)) + 1 by omega, inB_yes (by omega), hzE, upB_t hnE hup], by dsimp only; omega, hsr⟩, ⟨rfl, rfl, rfl, rfl, rfl, rfl, rfl, rfl, rfl, trivial⟩, ⟨rfl, rfl, trivial⟩, rfl⟩
       | exact ⟨(p + 1, (size + z), o), by show _ - (p + 1) < _ - p; omega, ⟨⟨by dsimp only; omega, by dsimp only; omega⟩, ⟨by dsimp only; omega, by dsimp only; omega⟩, by dsimp only; rw [← hw, show ids.length + 1 - p = (ids.length + 1 - (p + 1)) + 1 by omega, inB_yes (by omega), hzE, upB_f hnE hup], hw1, hw2⟩, ⟨rfl, rfl, rfl, rfl, rfl, rfl, rfl, rfl, rfl, trivial⟩, ⟨rfl, rfl, trivial⟩, rfl⟩
    ·(try simp only [zN] at hq2)
     refine WpG.exit ?_
     change WpG _ _ _ _ _
     refine WpG.reg ?_
     refine G.addI rfl rfl (by omega) ?_
     refine G.mv rfl ?_
     refine WpOpsG.nil ?_
     refine ⟨(i + 1, o), by show _ - (i + 1) < _ - i; omega, ⟨by dsimp only; omega, ?_, hw1, hw2⟩, ⟨rfl, rfl, rfl, rfl, rfl, rfl, trivial⟩, ⟨rfl, rfl, trivial⟩, rfl⟩
     dsimp only
     rw [← hw, inB_no (by omega)]
   ·exact ⟨⟨Nat.le_refl _, by dsimp only; omega⟩, ⟨Int.le_refl _, by show (0 : Int) ≤ 200 * ((1 : Nat) : Int); decide⟩, by dsimp only; rw [outB_snoc, ← hE, Nat.add_sub_cancel], ho1, ho2⟩
  ·(try simp only [zN] at hq1)
   refine WpG.exit ?_
   change WpG _ _ _ _ _
   refine WpG.seq ?_
   refine WpG.reg ?_
   refine G.loadNB rfl rfl rfl ?_
   refine G.storeB rfl rfl rfl rfl rfl rfl ?_
   refine WpOpsG.nil ?_
   change WpG _ _ _ _ _
   refine WpG.ret ?_
   refine ⟨_, [], rfl, (hasP_le (by repeat (first | exact trivial | refine ⟨rfl, ?_⟩))), rfl, rfl, rfl, ?_⟩
   rw [show bestV ids sizes = o by unfold bestV; rw [hE]; congr 1; omega]; exact ⟨rfl, rfl⟩
 ·exact ⟨Nat.zero_le _, rfl, Int.le_refl _, by decide⟩
theorem best6_ok (l : List Rn) (hn : l.length ≤ 200) : WpCallG A 16 [.fsl 2 (l.map encN)] [] (fun v H => v = .tup [.v (.int .i64 ((bestR l).a : Int)), .v (.int .i64 ((bestR l).p : Int)), .v (.int .i64 ((bestR l).n : Int))] ∧ H = []) := by
 refine WpCallG.intro g16 rfl rfl ?_
 unfold af16
 change WpG _ _ _ _ _
 refine WpG.seq ?_
 refine WpG.reg ?_
 refine G.mv rfl ?_
 refine G.mv rfl ?_
 refine G.mv rfl ?_
 refine WpOpsG.nil ?_
 change WpG _ _ _ _ _
 refine WpG.seq ?_
 refine WpG.reg ?_
 refine G.mv rfl ?_
 refine G.mv rfl ?_
 refine WpOpsG.nil ?_
 change WpG _ _ _ _ _
 refine WpG.seq ?_
 refine WpG.seq ?_
 refine WpG.reg ?_
 refine G.mv rfl ?_
 refine G.lenM rfl ?_
 refine G.mv rfl ?_
 refine WpOpsG.nil ?_
 change WpG _ _ _ _ _
 refine WpG.block ?_
 refine WpG.ownNil (g := 20) (k := 5) (w := 1) rfl rfl ?_
 refine WpG.ownNil (g := 21) (k := 6) (w := 1) rfl rfl ?_
 refine WpG.loop (S := Nat) (fun i => [(0, .fsl 2 (l.map encN)), (5, .osl 20), (6, .osl 21), (10, .fsl 2 (l.map encN)), (11, .v (.int .i64 (l.length : Int))), (12, .v (.int .i64 ((i : Nat) : Int)))]) (fun i => [(20, .arr .yes 1 ((idxP l i).map encK)), (21, .arr .yes 1 (((onesV l).take i).map encK))]) (fun i => i ≤ l.length) (fun i => l.length - i) (fun s => ⟨rfl, rfl⟩) ?_ 0 ?_ (by repeat (first | exact trivial | refine ⟨rfl, ?_⟩)) (by repeat (first | exact trivial | refine ⟨rfl, ?_⟩)) rfl
 ·intro i hI
  refine WpG.seq ?_
  refine WpG.reg ?_
  refine G.bin rfl rfl rfl ?_
  refine WpOpsG.nil ?_
  change WpG _ _ _ _ _
  refine WpG.seq ?_
  refine WpG.cond rfl (fun hq1 => ?_) (fun hq1 => ?_)
  ·(try simp only [zN] at hq1)
   refine WpG.skip ?_
   change WpG _ _ _ _ _
   refine WpG.seq ?_
   refine WpG.block ?_
   refine WpG.seq ?_
   refine WpG.reg ?_
   refine G.mv rfl ?_
   refine G.iaddrN rfl rfl (List.getElem?_eq_getElem (by omega)) ?_
   refine G.loadNF rfl rfl ?_
   refine G.box (g := 10) rfl rfl rfl ?_
   refine G.mv rfl ?_
   refine G.storeB rfl rfl rfl rfl rfl rfl ?_
   refine WpOpsG.nil ?_
   change WpG _ _ _ _ _
   refine WpG.seq ?_
   refine WpG.reg ?_
   refine G.mv rfl ?_
   refine G.mv rfl ?_
   refine G.mv rfl ?_
   refine G.addI rfl rfl (by omega) ?_
   rw [show (i : Int) + 1 = ((i + 1 : Nat) : Int) by omega]
   refine G.slTake (n := i + 1) rfl rfl (by omega) ?_
   refine G.loadNB rfl rfl rfl ?_
   refine G.call0 rfl rfl (index6_ok (l.take (i + 1)) l[i] (by rw [List.length_take]; omega) (by rw [List.take_succ_eq_append_getElem (by omega)]; exact List.mem_append_right _ (List.mem_singleton.2 rfl))) ?_
   rintro _ _ ⟨rfl, rfl⟩
   refine ⟨rfl, ?_⟩
   change WpOpsG _ _ ((23, _) :: _) _ _
   rw [find_take (show i < l.length by omega) (decide_eq_true rfl)]
   refine G.bsliceF rfl rfl rfl ?_
   change WpOpsG _ _ ((24, .fsl 1 (([((l.findIdx fun y => decide (l[i] = y) : Nat) : Int)] : List Int).map encK)) :: _) _ _
   refine G.app rfl rfl rfl rfl trivial (by rw [List.length_map]; rw [idxP_len (by omega)]; show (_ + 1) * 8 ≤ 2 ^ 47; omega) ?_
   rw [← List.map_append]
   refine G.mv rfl ?_
   refine WpOpsG.nil ?_
   change WpG _ _ _ _ _
   refine WpG.reg ?_
   refine G.mv rfl ?_
   refine G.bsliceF rfl rfl rfl ?_
   change WpOpsG _ _ ((27, .fsl 1 (([1] : List Int).map encK)) :: _) _ _
   refine G.app rfl rfl rfl rfl trivial (by rw [List.length_map]; rw [List.length_take, ones_len]; show (_ + 1) * 8 ≤ 2 ^ 47; omega) ?_
   rw [← List.map_append]
   refine G.mv rfl ?_
   refine WpOpsG.nil ?_
   change WpG _ _ _ _ _
   refine WpG.reg ?_
   refine G.addI rfl rfl (by omega) ?_
   refine G.mv rfl ?_
   refine WpOpsG.nil ?_
   refine ⟨i + 1, by omega, by omega, ⟨rfl, rfl, rfl, rfl, rfl, rfl, trivial⟩, ⟨?_, ?_, trivial⟩, rfl⟩
   ·rw [idxP_snoc (by omega)]; rfl
   ·rw [ones_snoc (by omega)]; rfl
  ·(try simp only [zN] at hq1)
   refine WpG.exit ?_
   change WpG _ _ _ _ _
   refine WpG.seq ?_
   refine WpG.freeze 20 rfl ?_
   refine WpG.freeze 21 rfl ?_
   rw [idxP_all (by omega), show (onesV l).take i = onesV l from List.take_of_length_le (by rw [ones_len]; omega)]
   refine WpG.reg ?_
   refine G.mv rfl ?_
   refine G.mv rfl ?_
   refine G.call0 rfl rfl (fbest6_ok (idxV l) (onesV l) (by rw [idx_len]; omega) (by rw [idx_len, ones_len]) (fun x hx => by unfold onesV at hx; obtain ⟨y, _, rfl⟩ := List.mem_map.1 hx; decide)) ?_
   rintro _ _ ⟨rfl, rfl⟩
   refine ⟨rfl, ?_⟩
   change WpOpsG _ _ ((32, _) :: _) _ _
   change WpOpsG _ _ ((32, .agg (encFt (bestR l))) :: _) _ _
   refine G.box (g := 13) rfl rfl rfl ?_
   refine G.storeB rfl rfl rfl rfl rfl rfl ?_
   refine WpOpsG.nil ?_
   change WpG _ _ _ _ _
   refine WpG.seq ?_
   refine WpG.reg ?_
   refine G.faddrB rfl ?_
   refine G.load1B rfl rfl rfl ?_
   refine G.faddrB rfl ?_
   refine G.load1B rfl rfl rfl ?_
   refine G.faddrB rfl ?_
   refine G.load1B rfl rfl rfl ?_
   refine G.mv rfl ?_
   refine G.mv rfl ?_
   refine G.mv rfl ?_
   refine WpOpsG.nil ?_
   change WpG _ _ _ _ _
   refine WpG.ret ?_
   refine ⟨_, [], rfl, (hasP_le (by repeat (first | exact trivial | refine ⟨rfl, ?_⟩))), rfl, rfl, rfl, ?_⟩
   exact ⟨rfl, rfl⟩
 ·exact Nat.zero_le _
end Go.AM.L6
