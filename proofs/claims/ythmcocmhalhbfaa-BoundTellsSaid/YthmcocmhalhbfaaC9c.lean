/- Contracts of the functions that the statement reaches. No condition. -/
import Derived.Test.YthmcocmhalhbfaaC9b
set_option linter.all false
set_option maxRecDepth 10000
namespace Go.AM.L9
open Go.AM.PL
theorem budget_ok (l : List Rn) (p per : Int) (hn : l.length ≤ 2 ^ 40) (hN : ∀ r ∈ l, okN r) (h1 : ∀ r ∈ l, 1 ≤ r.n) (hw : wlen l ≤ 2 ^ 40) (hp : i64 per) : WpCallG A 12 [.fsl 2 (l.map encN), .v (.int .i64 p), .v (.int .i64 per)] [] (fun v H => v = .v (.int .i64 (budV l p per)) ∧ H = []) := by
 unfold i64 at hp
 have hw0 : 0 ≤ wlen l := by unfold wlen; omega
 refine WpCallG.intro g12 rfl rfl ?_
 unfold af12
 change WpG _ _ _ _ _
 refine WpG.seq ?_
 refine WpG.reg ?_
 refine G.mv rfl ?_
 refine WpOpsG.nil ?_
 change WpG _ _ _ _ _
 refine WpG.seq ?_
 refine WpG.reg ?_
 refine G.mv rfl ?_
 refine G.call0 rfl rfl (ulen_ok l (by omega) hN) ?_
 rintro _ _ ⟨rfl, rfl⟩
 refine ⟨rfl, ?_⟩
 change WpOpsG _ _ ((15, _) :: _) _ _
 rw [total_wlen h1 (by omega)]
 refine G.mv rfl ?_
 refine WpOpsG.nil ?_
 change WpG _ _ _ _ _
 refine WpG.seq ?_
 refine WpG.seq ?_
 refine WpG.reg ?_
 refine G.mv rfl ?_
 refine G.bin rfl rfl rfl ?_
 refine G.mv rfl ?_
 apply G.orS rfl rfl rfl rfl rfl rfl
 case hB =>
  intro hs1
  (try simp only [zN] at hs1)
  refine G.mv rfl ?_
  refine G.bin rfl rfl rfl ?_
  refine WpOpsG.nil ?_
  exact ⟨rfl, (by repeat (first | exact LLe.refl _ | refine LLe.cons rfl ?_)), (by repeat (first | exact HLe.refl _ | refine HLe.cons rfl ?_)), rfl⟩
 refine G.mv rfl ?_
 apply G.orS rfl rfl rfl rfl rfl rfl
 case hB =>
  intro hs2
  (try simp only [zN] at hs2)
  refine G.mv rfl ?_
  refine G.mv rfl ?_
  refine G.remN rfl rfl (by omega) (by omega) ?_
  refine G.bin rfl rfl rfl ?_
  refine WpOpsG.nil ?_
  exact ⟨rfl, (by repeat (first | exact LLe.refl _ | refine LLe.cons rfl ?_)), (by repeat (first | exact HLe.refl _ | refine HLe.cons rfl ?_)), rfl⟩
 refine WpOpsG.nil ?_
 change WpG _ _ _ _ _
 refine WpG.cond rfl (fun hq3 => ?_) (fun hq3 => ?_)
 ·(try simp only [zN] at hq3)
  refine WpG.seq ?_
  refine WpG.reg ?_
  refine G.mv rfl ?_
  refine WpOpsG.nil ?_
  change WpG _ _ _ _ _
  refine WpG.ret ?_
  refine ⟨_, [], rfl, (hasP_le (by repeat (first | exact trivial | refine ⟨rfl, ?_⟩))), rfl, rfl, rfl, ?_⟩
  have e : budV l p per = -1 := by unfold budV; rw [if_pos (by omega)]
  rw [e]; exact ⟨rfl, rfl⟩
 ·(try simp only [zN] at hq3)
  refine WpG.skip ?_
  change WpG _ _ _ _ _
  refine WpG.seq ?_
  refine WpG.reg ?_
  refine G.mv rfl ?_
  refine G.mv rfl ?_
  refine G.call0 rfl rfl ((spans_ok l p hn hN h1 hw).ren [(0, 20)]) ?_
  rintro _ _ ⟨_, _, ⟨rfl, rfl⟩, rfl, rfl⟩
  change newOk _ _ [(20, _)] = true ∧ _
  refine ⟨rfl, ?_⟩
  change WpOpsG _ _ ((30, .osl 20) :: _) ([(20, .arr .yes 2 ((spV p 0 l).map encSp))] ++ _) _
  refine WpOpsG.freeze 20 rfl ?_
  refine G.mv rfl ?_
  refine WpOpsG.nil ?_
  change WpG _ _ _ _ _
  refine WpG.seq ?_
  obtain ⟨b, hb⟩ : ∃ b, spV p 0 l = b := ⟨_, rfl⟩
  have hbl := sp_len p l 0
  rw [hb] at hbl
  have hbs := sp_rng p l h1
  rw [hb] at hbs
  rw [hb]
  have hmod : wlen l % per = 0 := by omega
  have hper := per_le (by omega) (by omega) hmod
  obtain ⟨m, hm⟩ : ∃ m, wlen l = per * m := ⟨wlen l / per, by have := Int.mul_ediv_add_emod (wlen l) per; omega⟩
  have hm1 : 1 ≤ m := Int.not_lt.1 fun c => by have := Int.mul_le_mul_of_nonneg_left (show m ≤ 0 by omega) (show 0 ≤ per by omega); omega
  have hdiv : wlen l / per = m := by rw [hm, Int.mul_ediv_cancel_left _ (by omega)]
  refine WpG.reg ?_
  refine G.mv rfl ?_
  refine G.mv rfl ?_
  refine WpOpsG.nil ?_
  change WpG _ _ _ _ _
  refine WpG.seq ?_
  refine WpG.seq ?_
  refine WpG.reg ?_
  refine G.mv rfl ?_
  refine WpOpsG.nil ?_
  change WpG _ _ _ _ _
  refine WpG.block ?_
  refine WpG.loop (S := Nat) (fun k => [(2, .v (.int .i64 per)), (7, .v (.int .i64 (wlen l))), (8, .fsl 2 (b.map encSp)), (9, .v (.int .i64 (budI b per k))), (10, .v (.int .i64 (per * (k : Int))))]) (fun _ => []) (fun k => (k : Int) ≤ m) (fun k => m.toNat - k) (fun s => ⟨rfl, rfl⟩) ?_ 0 ?_ ⟨rfl, rfl, rfl, rfl, by rw [show per * ((0 : Nat) : Int) = 0 from Int.mul_zero _]; rfl, trivial⟩ (by repeat (first | exact trivial | refine ⟨rfl, ?_⟩)) rfl
  ·intro k hK
   refine WpG.seq ?_
   refine WpG.seq ?_
   refine WpG.reg ?_
   refine G.mv rfl ?_
   refine G.mv rfl ?_
   refine G.bin rfl rfl rfl ?_
   refine WpOpsG.nil ?_
   change WpG _ _ _ _ _
   refine WpG.cond rfl (fun hq4 => ?_) (fun hq4 => ?_)
   ·(try simp only [zN] at hq4)
    refine WpG.skip ?_
    change WpG _ _ _ _ _
    refine WpG.seq ?_
    refine WpG.block ?_
    refine WpG.seq ?_
    have hkm : (k : Int) < m := Int.not_le.1 fun c => by have := Int.mul_le_mul_of_nonneg_left c (show 0 ≤ per by omega); omega
    have hk1 : per * ((k : Int) + 1) ≤ wlen l := by rw [hm]; exact Int.mul_le_mul_of_nonneg_left (by omega) (by omega)
    rw [Int.mul_add, Int.mul_one] at hk1
    have hk0 := Int.mul_nonneg (show 0 ≤ per by omega) (show 0 ≤ (k : Int) by omega)
    refine WpG.reg ?_
    refine G.mv rfl ?_
    refine WpOpsG.nil ?_
    change WpG _ _ _ _ _
    refine WpG.seq ?_
    refine WpG.seq ?_
    refine WpG.reg ?_
    refine G.mv rfl ?_
    refine G.lenM rfl ?_
    refine G.mv rfl ?_
    refine WpOpsG.nil ?_
    change WpG _ _ _ _ _
    refine WpG.block ?_
    refine WpG.loop (S := Nat) (fun j => [(2, .v (.int .i64 per)), (7, .v (.int .i64 (wlen l))), (8, .fsl 2 (b.map encSp)), (9, .v (.int .i64 (budI b per k))), (10, .v (.int .i64 (per * (k : Int)))), (11, .v (.int .i64 ((b.take j).foldl (budF (per * k) per) 0))), (38, .fsl 2 (b.map encSp)), (39, .v (.int .i64 (b.length : Int))), (40, .v (.int .i64 (j : Int)))]) (fun _ => []) (fun j => j ≤ b.length) (fun j => b.length - j) (fun s => ⟨rfl, rfl⟩) ?_ 0 ?_ (by repeat (first | exact trivial | refine ⟨rfl, ?_⟩)) (by repeat (first | exact trivial | refine ⟨rfl, ?_⟩)) rfl
    ·intro j hJ
     refine WpG.seq ?_
     refine WpG.reg ?_
     refine G.bin rfl rfl rfl ?_
     refine WpOpsG.nil ?_
     change WpG _ _ _ _ _
     refine WpG.seq ?_
     refine WpG.cond rfl (fun hq5 => ?_) (fun hq5 => ?_)
     ·(try simp only [zN] at hq5)
      refine WpG.skip ?_
      change WpG _ _ _ _ _
      refine WpG.seq ?_
      refine WpG.block ?_
      refine WpG.seq ?_
      have hlt : j < b.length := by omega
      have hbj := hbs b[j] (List.getElem_mem hlt)
      have hbw := budP_rng2 h1 p (per * k) per j (by omega)
      rw [hb] at hbw
      refine WpG.reg ?_
      refine G.iaddrN rfl rfl (List.getElem?_eq_getElem (by omega)) ?_
      refine G.loadNF rfl rfl ?_
      refine G.box (g := 10) rfl rfl rfl ?_
      refine G.storeB rfl rfl rfl rfl rfl rfl ?_
      refine WpOpsG.nil ?_
      change WpG _ _ _ _ _
      refine WpG.reg ?_
      refine G.mv rfl ?_
      refine G.faddrB rfl ?_
      refine G.load1B rfl rfl rfl ?_
      refine G.mv rfl ?_
      refine G.mv rfl ?_
      refine G.addI rfl rfl (by omega) ?_
      refine G.mn rfl rfl ?_
      refine G.faddrB rfl ?_
      refine G.load1B rfl rfl rfl ?_
      refine G.mv rfl ?_
      refine G.mx rfl rfl ?_
      refine G.subI rfl rfl (by omega) ?_
      refine G.mx rfl rfl ?_
      refine G.addI rfl rfl (by omega) ?_
      refine G.mv rfl ?_
      refine WpOpsG.nil ?_
      change WpG _ _ _ _ _
      refine WpG.reg ?_
      refine G.addI rfl rfl (by omega) ?_
      refine G.mv rfl ?_
      refine WpOpsG.nil ?_
      refine ⟨j + 1, by omega, by omega, ⟨rfl, rfl, rfl, rfl, rfl, ?_, rfl, rfl, rfl, trivial⟩, trivial, rfl⟩
      rw [foldl_take _ _ hlt]; rfl
     ·(try simp only [zN] at hq5)
      refine WpG.exit ?_
      change WpG _ _ _ _ _
      refine WpG.reg ?_
      refine G.mv rfl ?_
      refine G.mv rfl ?_
      refine G.mn rfl rfl ?_
      refine G.mv rfl ?_
      refine WpOpsG.nil ?_
      change WpG _ _ _ _ _
      refine WpG.reg ?_
      refine G.mv rfl ?_
      refine G.mv rfl ?_
      refine G.addI rfl rfl (by omega) ?_
      refine G.mv rfl ?_
      refine WpOpsG.nil ?_
      refine ⟨k + 1, by omega, by show ((k + 1 : Nat) : Int) ≤ m; omega, ⟨rfl, rfl, rfl, ?_, ?_, trivial⟩, trivial, rfl⟩
      ·rw [show b.take j = b from List.take_of_length_le (by omega)]; rfl
      ·rw [show per * ((k + 1 : Nat) : Int) = per * (k : Int) + per by rw [Int.natCast_add, Int.mul_add]; show _ + per * 1 = _; omega]; rfl
    ·exact Nat.zero_le _
   ·(try simp only [zN] at hq4)
    refine WpG.exit ?_
    change WpG _ _ _ _ _
    refine WpG.seq ?_
    have hkm : (k : Int) = m := by
     have h2 : ¬ (k : Int) < m := fun c => by have := Int.mul_lt_mul_of_pos_left c (show 0 < per by omega); omega
     omega
    refine WpG.reg ?_
    refine G.mv rfl ?_
    refine G.mv rfl ?_
    refine WpOpsG.nil ?_
    change WpG _ _ _ _ _
    refine WpG.ret ?_
    refine ⟨_, [], rfl, (hasP_le (by repeat (first | exact trivial | refine ⟨rfl, ?_⟩))), rfl, rfl, rfl, ?_⟩
    have e : budV l p per = budI b per k := by unfold budV; rw [if_neg (by omega), hb, hdiv, ← hkm, Int.toNat_natCast]
    rw [e]; exact ⟨rfl, rfl⟩
  ·exact (by omega : ((0 : Nat) : Int) ≤ m)
end Go.AM.L9
