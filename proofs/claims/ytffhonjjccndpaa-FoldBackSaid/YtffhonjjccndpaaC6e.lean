/- Contracts of the functions that the statement reaches. No condition. -/
import Derived.Test.YtffhonjjccndpaaC6d
set_option linter.all false
set_option maxRecDepth 10000
namespace Go.AM.L6
open Go.AM.PL
set_option maxHeartbeats 1000000 in
theorem table6_ok (l : List Rn) (hn : l.length ≤ 2 ^ 20) : WpCallG A 10 [.fsl 2 (l.map encN)] [] (fun v H => v = .fsl 3 ((tableV l).map encD) ∧ H = []) := by
 refine WpCallG.intro g10 rfl rfl ?_
 unfold af10
 change WpG _ _ _ _ _
 refine WpG.seq ?_
 refine WpG.reg ?_
 refine G.mv rfl ?_
 refine WpOpsG.nil ?_
 change WpG _ _ _ _ _
 refine WpG.seq ?_
 refine WpG.seq ?_
 refine WpG.reg ?_
 refine G.mv rfl ?_
 refine G.call0 rfl rfl (uright6_ok l (by omega)) ?_
 rintro _ _ ⟨rfl, rfl⟩
 refine ⟨rfl, ?_⟩
 change WpOpsG _ _ ((7, _) :: _) _ _
 refine G.un rfl rfl ?_
 refine WpOpsG.nil ?_
 change WpG _ _ _ _ _
 refine WpG.cond rfl (fun hq1 => ?_) (fun hq1 => ?_)
 ·(try simp only [zN] at hq1)
  have hno := hq1
  refine WpG.seq ?_
  refine WpG.reg ?_
  refine G.mv rfl ?_
  refine WpOpsG.nil ?_
  change WpG _ _ _ _ _
  refine WpG.ownNil (g := 31) (k := 2) (w := 3) rfl rfl ?_
  refine WpG.freeze 31 rfl ?_
  refine WpG.ret ?_
  refine ⟨_, [], rfl, (hasP_le (by repeat (first | exact trivial | refine ⟨rfl, ?_⟩))), rfl, rfl, rfl, ?_⟩
  have e : tableV l = [] := if_neg (by rw [hno]; decide)
  rw [e]; exact ⟨rfl, rfl⟩
 ·(try simp only [zN] at hq1)
  have hyes := hq1
  have hrk := rowOk hyes
  have hr96 := hrk.len
  refine WpG.skip ?_
  change WpG _ _ _ _ _
  refine WpG.seq ?_
  refine WpG.reg ?_
  refine G.mv rfl ?_
  refine G.call0 rfl rfl ((leaves6_ok l (by omega)).ren [(0, 20)]) ?_
  rintro _ _ ⟨_, _, ⟨rfl, rfl⟩, rfl, rfl⟩
  change newOk _ _ [(20, _)] = true ∧ _
  refine ⟨rfl, ?_⟩
  change WpOpsG _ _ ((10, .osl 20) :: _) ([(20, .arr .yes 1 ((leavesV l).map encTb))] ++ _) _
  refine WpOpsG.freeze 20 rfl ?_
  refine G.mv rfl ?_
  refine WpOpsG.nil ?_
  change WpG _ _ _ _ _
  refine WpG.block ?_
  refine WpG.loop (S := Nat × List (List Nd)) (fun s => [(3, .fsl 1 (s.2.map encTb))]) (fun _ => []) (fun s => s.2.length ≤ s.1 ∧ tabF s.1 s.2 = tabF l.length (leavesV l) ∧ foldG l s.2) (fun s => s.1) (fun s => ⟨rfl, rfl⟩) ?_ (l.length, leavesV l) ?_ (by repeat (first | exact trivial | refine ⟨rfl, ?_⟩)) (by repeat (first | exact trivial | refine ⟨rfl, ?_⟩)) rfl
  ·rintro ⟨f, xs⟩ ⟨hf, htf, hst⟩
   dsimp only at hf htf hst ⊢
   have hss := foldG_sum hst
   have hxl : ∀ y ∈ xs, y.length ≤ 2 ^ 50 := fun y hy => by
    have h1 := lenI_rng (Nat.le_refl (sumL xs)) (y.length : Int) (List.mem_map.2 ⟨y, hy, rfl⟩)
    omega
   refine WpG.block ?_
   refine WpG.seq ?_
   refine WpG.reg ?_
   refine G.mv rfl ?_
   refine G.call0 rfl rfl (fsame6_ok xs (by omega) hxl) ?_
   rintro _ _ ⟨rfl, rfl⟩
   refine ⟨rfl, ?_⟩
   change WpOpsG _ _ ((12, _) :: _) _ _
   refine G.ext rfl rfl ?_
   refine G.ext rfl rfl ?_
   refine G.call0 rfl rfl (fbest6_ok (idxV xs) (lenI xs) (by rw [idx_len]; omega) (by rw [idx_len, lenI_len]) (fun x hx => by have := lenI_rng (show sumL xs ≤ 200 by omega) x hx; omega)) ?_
   rintro _ _ ⟨rfl, rfl⟩
   refine ⟨rfl, ?_⟩
   change WpOpsG _ _ ((15, _) :: _) _ _
   obtain ⟨o, hoE⟩ : ∃ o, bestV (idxV xs) (lenI xs) = o := ⟨_, rfl⟩
   rw [hoE]
   refine G.box (g := 12) rfl rfl rfl ?_
   refine G.storeB rfl rfl rfl rfl rfl rfl ?_
   refine WpOpsG.nil ?_
   change WpG _ _ _ _ _
   refine WpG.seq ?_
   refine WpG.seq ?_
   refine WpG.reg ?_
   refine G.faddrB rfl ?_
   refine G.load1B rfl rfl rfl ?_
   refine G.bin rfl rfl rfl ?_
   refine WpOpsG.nil ?_
   change WpG _ _ _ _ _
   refine WpG.cond rfl (fun hq2 => ?_) (fun hq2 => ?_)
   ·(try simp only [zN] at hq2)
    have hn0 : o.n = 0 := by omega
    refine WpG.seq ?_
    refine WpG.reg ?_
    refine G.mv rfl ?_
    refine G.call0 rfl rfl ((joined6_ok xs (by omega) (by omega)).ren [(0, 21)]) ?_
    rintro _ _ ⟨_, _, ⟨rfl, rfl⟩, rfl, rfl⟩
    change newOk _ _ [(21, _)] = true ∧ _
    refine ⟨rfl, ?_⟩
    change WpOpsG _ _ ((20, .osl 21) :: _) ([(21, .arr .yes 3 ((joinedV xs).map encD))] ++ _) _
    refine WpOpsG.freeze 21 rfl ?_
    refine G.mv rfl ?_
    refine WpOpsG.nil ?_
    change WpG _ _ _ _ _
    refine WpG.ret ?_
    refine ⟨_, [], rfl, (hasP_le (by repeat (first | exact trivial | refine ⟨rfl, ?_⟩))), rfl, rfl, rfl, ?_⟩
    have e : tableV l = joinedV xs := by
     have h0 : tableV l = tabF l.length (leavesV l) := if_pos hyes
     rw [h0, ← htf, tabF_end (by rw [hoE]; exact hn0)]
    rw [e]; exact ⟨rfl, rfl⟩
   ·(try simp only [zN] at hq2)
    have hn0 : o.n ≠ 0 := by omega
    refine WpG.skip ?_
    change WpG _ _ _ _ _
    refine WpG.seq ?_
    have hfs := fit_step hst hr96 hoE hn0
    have hfit := hfs.1
    have hst2 := foldG_sum hfs.2
    have hpn : 1 * o.p ≤ o.n * o.p := Nat.mul_le_mul_right _ (by omega)
    have hwl : (win xs o.a o.p).length = o.p := by unfold win; rw [List.length_take, List.length_drop]; omega
    have hws : sumL (win xs o.a o.p) ≤ sumL xs := win_sum_le
    have hol : (oneV xs o).length ≤ 200 := by unfold oneV; rw [List.length_cons, joined_len]; split <;> omega
    have hsl : (stepV xs o).length < xs.length := by have h := step6_len (xs := xs); rw [hoE] at h; exact h hn0
    have hcm : o.p * o.n = o.n * o.p := Nat.mul_comm _ _
    have hi51 : (o.p : Int) * (o.n : Int) = ((o.p * o.n : Nat) : Int) := by rw [Int.natCast_mul]
    have hc51 : (o.a : Int) + (o.p : Int) * (o.n : Int) = ((o.a + o.p * o.n : Nat) : Int) := by rw [hi51, Int.natCast_add]
    refine WpG.reg ?_
    refine G.faddrB rfl ?_
    refine G.load1B rfl rfl rfl ?_
    refine G.build rfl ?_
    refine G.bsliceF rfl rfl rfl ?_
    change WpOpsG _ _ ((24, .fsl 3 (([⟨4, 0, (o.n : Int)⟩] : List Nd).map encD)) :: _) _ _
    refine G.mv rfl ?_
    refine G.faddrB rfl ?_
    refine G.load1B rfl rfl rfl ?_
    refine G.faddrB rfl ?_
    refine G.load1B rfl rfl rfl ?_
    refine G.faddrB rfl ?_
    refine G.load1B rfl rfl rfl ?_
    refine G.addI rfl rfl (by omega) ?_
    rw [show (o.a : Int) + (o.p : Int) = ((o.a + o.p : Nat) : Int) by omega]
    refine G.slMid (n := o.a) (m := o.a + o.p) rfl rfl rfl (by omega) (by omega) ?_
    rw [win_eq]
    refine G.ckcall0 rfl rfl rfl ((joined6_ok (win xs o.a o.p) (by rw [hwl]; omega) (by omega)).ren [(0, 22)]) ?_
    rintro _ _ ⟨_, _, ⟨rfl, rfl⟩, rfl, rfl⟩
    change newOk _ _ [(22, _)] = true ∧ _
    refine ⟨rfl, ?_⟩
    change WpOpsG _ _ ((34, .osl 22) :: _) ([(22, .arr .yes 3 ((joinedV (win xs o.a o.p)).map encD))] ++ _) _
    refine WpOpsG.freeze 22 rfl ?_
    refine G.bsliceF rfl rfl rfl ?_
    change WpOpsG _ _ ((35, .fsl 1 (([[⟨4, 0, (o.n : Int)⟩], joinedV (win xs o.a o.p)] : List (List Nd)).map encTb)) :: _) _ _
    refine G.call0 rfl rfl ((catD_ok [[⟨4, 0, (o.n : Int)⟩], joinedV (win xs o.a o.p)] (by show 2 ≤ 2 ^ 40; decide) (by show ([[⟨4, 0, (o.n : Int)⟩], joinedV (win xs o.a o.p)] : List (List Nd)).flatten.length * 24 ≤ 2 ^ 47; rw [one_flat]; omega)).ren [(0, 23)]) ?_
    rintro _ _ ⟨_, _, ⟨rfl, rfl⟩, rfl, rfl⟩
    change newOk _ _ [(23, _)] = true ∧ _
    refine ⟨rfl, ?_⟩
    change WpOpsG _ _ ((36, .osl 23) :: _) ([(23, .arr .yes 3 (([[⟨4, 0, (o.n : Int)⟩], joinedV (win xs o.a o.p)].flatten).map encD))] ++ _) _
    rw [one_flat]
    refine WpOpsG.freeze 23 rfl ?_
    refine G.mv rfl ?_
    refine WpOpsG.nil ?_
    change WpG _ _ _ _ _
    refine WpG.reg ?_
    refine G.mv rfl ?_
    refine G.faddrB rfl ?_
    refine G.load1B rfl rfl rfl ?_
    refine G.slTake (n := o.a) rfl rfl (by omega) ?_
    refine G.mv rfl ?_
    refine G.bsliceF rfl rfl rfl ?_
    change WpOpsG _ _ ((42, .fsl 1 (([oneV xs o] : List (List Nd)).map encTb)) :: _) _ _
    refine G.mv rfl ?_
    refine G.faddrB rfl ?_
    refine G.load1B rfl rfl rfl ?_
    refine G.faddrB rfl ?_
    refine G.load1B rfl rfl rfl ?_
    refine G.faddrB rfl ?_
    refine G.load1B rfl rfl rfl ?_
    refine G.mulI rfl rfl (by omega) ?_
    refine G.addI rfl rfl (by omega) ?_
    rw [hc51]
    refine G.slDrop (n := o.a + o.p * o.n) rfl rfl (by omega) ?_
    refine G.bsliceF rfl rfl rfl ?_
    change WpOpsG _ _ ((53, .fsl 1 (([xs.take o.a, [oneV xs o], xs.drop (o.a + o.p * o.n)] : List (List (List Nd))).map (fun r => [GV.fsl 1 (r.map encTb)]))) :: _) _ _
    refine G.call0 rfl rfl ((catI_ok [xs.take o.a, [oneV xs o], xs.drop (o.a + o.p * o.n)] (by show 3 ≤ 2 ^ 40; decide) (by show ([xs.take o.a, [oneV xs o], xs.drop (o.a + o.p * o.n)] : List (List (List Nd))).flatten.length * 24 ≤ 2 ^ 47; rw [step_flat]; omega)).ren [(0, 24)]) ?_
    rintro _ _ ⟨_, _, ⟨rfl, rfl⟩, rfl, rfl⟩
    change newOk _ _ [(24, _)] = true ∧ _
    refine ⟨rfl, ?_⟩
    change WpOpsG _ _ ((54, .osl 24) :: _) ([(24, .arr .yes 1 (([xs.take o.a, [oneV xs o], xs.drop (o.a + o.p * o.n)].flatten).map encTb))] ++ _) _
    rw [step_flat]
    refine WpOpsG.freeze 24 rfl ?_
    refine G.mv rfl ?_
    refine WpOpsG.nil ?_
    refine ⟨(f - 1, stepV xs o), by show f - 1 < f; omega, ⟨by dsimp only; omega, ?_, hfs.2⟩, ⟨rfl, trivial⟩, trivial, rfl⟩
    dsimp only
    rw [← htf]
    have h1 := tabF_step (f := f - 1) (xs := xs) (by rw [hoE]; exact hn0)
    rw [hoE, show f - 1 + 1 = f by omega] at h1
    exact h1.symm
  ·exact ⟨by unfold leavesV; rw [List.length_map]; exact Nat.le_refl _, rfl, foldG_0 hyes⟩
end Go.AM.L6
