/- Contracts of the functions that the statement reaches. No condition. -/
import Derived.Test.YtkcacljpghfiaaaC16d
set_option linter.all false
set_option maxRecDepth 10000
namespace Go.AM.L16
open Go.AM.PL
theorem pick_ok (ps : List Pr) (now : Int) (hn : ps.length ≤ 1000) : WpCallG A 10 [.fptr [.fsl 3 (ps.map encPr)] 0, .v (.int .i64 now)] [] (fun v H => v = .v (.int .i64 (pickV ps now)) ∧ H = []) := by
 refine WpCallG.intro g10 rfl rfl ?_
 unfold af10
 change WpG _ _ _ _ _
 refine WpG.seq ?_
 refine WpG.reg ?_
 refine G.mv rfl ?_
 refine WpOpsG.nil ?_
 change WpG _ _ _ _ _
 refine WpG.seq ?_
 refine WpG.reg ?_
 refine G.mv rfl ?_
 refine G.nilcF rfl ?_
 refine G.faddrF rfl ?_
 refine G.load1F rfl rfl ?_
 refine G.build rfl ?_
 refine G.box (g := 10) rfl rfl rfl ?_
 refine G.mv rfl ?_
 refine WpOpsG.nil ?_
 change WpG _ _ _ _ _
 refine WpG.seq ?_
 refine WpG.seq ?_
 refine WpG.ownNilB (b := 10) (g := 11) (off := 0) (w := 1) rfl rfl rfl ?_
 refine WpG.reg ?_
 refine G.mv rfl ?_
 refine G.nilcF rfl ?_
 refine G.faddrF rfl ?_
 refine G.load1F rfl rfl ?_
 refine G.lenM rfl ?_
 refine G.mv rfl ?_
 refine WpOpsG.nil ?_
 change WpG _ _ _ _ _
 refine WpG.block ?_
 refine WpG.loop (S := Nat × List Nat) (fun s => [(1, .v (.int .i64 now)), (5, .bptr 10 0), (17, .fsl 3 (ps.map encPr)), (18, .v (.int .i64 (ps.length : Int))), (19, .v (.int .i64 (s.1 : Int)))]) (fun s => [(10, .box [.osl 11, .fsl 3 (ps.map encPr)]), (11, .arr .yes 1 ((s.2).map encJ))]) (fun s => s.1 ≤ ps.length ∧ heapOk ps s.2 ∧ s.2.length ≤ s.1 ∧ ∀ x, x ∈ s.2 ↔ x < s.1 ∧ rdy now (prD ps x) = true) (fun s => ps.length - s.1) (fun s => ⟨rfl, rfl⟩) ?_ (0, []) ?_ (by repeat (first | exact trivial | refine ⟨rfl, ?_⟩)) (by repeat (first | exact trivial | refine ⟨rfl, ?_⟩)) rfl
 ·rintro ⟨i, l⟩ ⟨hi, hh, hll, hm⟩
  dsimp only at hi hh hll hm ⊢
  have hpu := push_ok (x := i) hh
  refine WpG.seq ?_
  refine WpG.reg ?_
  refine G.bin rfl rfl rfl ?_
  refine WpOpsG.nil ?_
  change WpG _ _ _ _ _
  refine WpG.seq ?_
  refine WpG.cond rfl (fun hq1 => ?_) (fun hq1 => ?_)
  ·(try simp only [zN] at hq1)
   refine WpG.skip ?_
   change WpG _ _ _ _ _
   refine WpG.seq ?_
   refine WpG.block ?_
   refine WpG.seq ?_
   refine WpG.reg ?_
   refine G.mv rfl ?_
   refine G.iaddrM rfl rfl (by omega) (by rw [Int.toNat_natCast]; exact prD_at (by omega)) ?_
   refine G.loadNF rfl rfl ?_
   refine G.box (g := 12) rfl rfl rfl ?_
   refine G.mv rfl ?_
   refine G.storeB rfl rfl rfl rfl rfl rfl ?_
   refine WpOpsG.nil ?_
   change WpG _ _ _ _ _
   refine WpG.seq ?_
   refine WpG.reg ?_
   refine G.faddrB rfl ?_
   refine G.load1B rfl rfl rfl ?_
   refine G.un rfl rfl ?_
   refine G.mv rfl ?_
   apply G.andS rfl rfl rfl rfl rfl rfl
   case hB =>
    intro hs2
    (try simp only [zN] at hs2)
    refine G.faddrB rfl ?_
    refine G.load1B rfl rfl rfl ?_
    refine G.mv rfl ?_
    refine G.bin rfl rfl rfl ?_
    refine WpOpsG.nil ?_
    exact ⟨rfl, (by repeat (first | exact LLe.refl _ | refine LLe.cons rfl ?_)), (by repeat (first | exact HLe.refl _ | refine HLe.cons rfl ?_)), rfl⟩
   refine WpOpsG.nil ?_
   change WpG _ _ _ _ _
   refine WpG.cond rfl (fun hq3 => ?_) (fun hq3 => ?_)
   ·(try simp only [zN] at hq3)
    have hrd := rdy_T hq3
    refine WpG.reg ?_
    refine G.mv rfl ?_
    refine G.mkifc rfl ?_
    refine G.mv rfl ?_
    refine G.mkifc rfl ?_
    refine G.call (P := [(10, .box [.osl 11, .fsl 3 (ps.map encPr)]), (11, .arr .yes 1 ((l).map encJ))]) rfl (by repeat (first | exact trivial | refine ⟨rfl, ?_⟩)) rfl rfl ((hpush_ok l ps i (by omega) (fun x hx => by have := (hm x).1 hx; omega) (by omega)).ren [(0, 10), (1, 11)]) ?_
    rintro _ _ ⟨_, _, ⟨rfl, rfl⟩, rfl, rfl⟩
    change newOk _ _ [(10, _), (11, _)] = true ∧ _
    refine ⟨rfl, ?_⟩
    change WpOpsG _ _ ((37, _) :: _) ([(10, .box [.osl 11, .fsl 3 (ps.map encPr)]), (11, .arr .yes 1 ((pushV ps l i).map encJ))] ++ _) _
    refine WpOpsG.nil ?_
    change WpG _ _ _ _ _
    refine WpG.reg ?_
    refine G.addI rfl rfl (by omega) ?_
    refine G.mv rfl ?_
    refine WpOpsG.nil ?_
    first
     | exact ⟨(i + 1, pushV ps l i), by show _ - (i + 1) < _ - i; omega, ⟨by dsimp only; omega, hpu.1, by dsimp only; rw [hpu.2.1]; omega, rdy_snoc_T hm hrd hpu.2.2⟩, ⟨rfl, rfl, rfl, rfl, rfl, trivial⟩, ⟨rfl, rfl, trivial⟩, rfl⟩
     | exact ⟨(i + 1, l), by show _ - (i + 1) < _ - i; omega, ⟨by dsimp only; omega, hh, by dsimp only; omega, rdy_snoc_F hm hrd⟩, ⟨rfl, rfl, rfl, rfl, rfl, trivial⟩, ⟨rfl, rfl, trivial⟩, rfl⟩
   ·(try simp only [zN] at hq3)
    have hrd := rdy_F hq3
    refine WpG.skip ?_
    change WpG _ _ _ _ _
    refine WpG.reg ?_
    refine G.addI rfl rfl (by omega) ?_
    refine G.mv rfl ?_
    refine WpOpsG.nil ?_
    first
     | exact ⟨(i + 1, pushV ps l i), by show _ - (i + 1) < _ - i; omega, ⟨by dsimp only; omega, hpu.1, by dsimp only; rw [hpu.2.1]; omega, rdy_snoc_T hm hrd hpu.2.2⟩, ⟨rfl, rfl, rfl, rfl, rfl, trivial⟩, ⟨rfl, rfl, trivial⟩, rfl⟩
     | exact ⟨(i + 1, l), by show _ - (i + 1) < _ - i; omega, ⟨by dsimp only; omega, hh, by dsimp only; omega, rdy_snoc_F hm hrd⟩, ⟨rfl, rfl, rfl, rfl, rfl, trivial⟩, ⟨rfl, rfl, trivial⟩, rfl⟩
  ·(try simp only [zN] at hq1)
   refine WpG.exit ?_
   change WpG _ _ _ _ _
   refine WpG.seq ?_
   refine WpG.seq ?_
   refine WpG.reg ?_
   refine G.mv rfl ?_
   refine G.call (P := [(10, .box [.osl 11, .fsl 3 (ps.map encPr)]), (11, .arr .yes 1 ((l).map encJ))]) rfl (by repeat (first | exact trivial | refine ⟨rfl, ?_⟩)) rfl rfl ((rlen_ok l ps).ren [(0, 10), (1, 11)]) ?_
   rintro _ _ ⟨_, _, ⟨rfl, rfl⟩, rfl, rfl⟩
   change newOk _ _ [(10, _), (11, _)] = true ∧ _
   refine ⟨rfl, ?_⟩
   change WpOpsG _ _ ((40, _) :: _) ([(10, .box [.osl 11, .fsl 3 (ps.map encPr)]), (11, .arr .yes 1 ((l).map encJ))] ++ _) _
   refine G.bin rfl rfl rfl ?_
   refine WpOpsG.nil ?_
   change WpG _ _ _ _ _
   refine WpG.cond rfl (fun hq4 => ?_) (fun hq4 => ?_)
   ·(try simp only [zN] at hq4)
    have hz := hq4
    refine WpG.seq ?_
    refine WpG.reg ?_
    refine G.mv rfl ?_
    refine WpOpsG.nil ?_
    change WpG _ _ _ _ _
    refine WpG.ret ?_
    refine ⟨_, [], rfl, (hasP_le (by repeat (first | exact trivial | refine ⟨rfl, ?_⟩))), rfl, rfl, rfl, ?_⟩
    have hpr := pick_root (now := now) hh (fun x => by rw [hm x, show i = ps.length by omega])
    rw [hpr.1 (by omega)]; exact ⟨rfl, rfl⟩
   ·(try simp only [zN] at hq4)
    have hz := hq4
    refine WpG.skip ?_
    change WpG _ _ _ _ _
    refine WpG.seq ?_
    refine WpG.reg ?_
    refine G.mv rfl ?_
    refine G.mkifc rfl ?_
    refine G.call (P := [(10, .box [.osl 11, .fsl 3 (ps.map encPr)]), (11, .arr .yes 1 ((l).map encJ))]) rfl (by repeat (first | exact trivial | refine ⟨rfl, ?_⟩)) rfl rfl ((hpop_ok l ps (by omega) (fun x hx => by have := (hm x).1 hx; omega) (by omega)).ren [(0, 10), (1, 11)]) ?_
    rintro _ _ ⟨_, _, ⟨l2, rfl, rfl⟩, rfl, rfl⟩
    change newOk _ _ [(10, _), (11, _)] = true ∧ _
    refine ⟨rfl, ?_⟩
    change WpOpsG _ _ ((44, .ifc 3 (.v (.int .i64 (nat0 l 0 : Int)))) :: _) ([(10, .box [.osl 11, .fsl 3 (ps.map encPr)]), (11, .arr .no 1 ((l2).map encJ))] ++ _) _
    refine G.asrt rfl ?_
    refine G.mv rfl ?_
    refine WpOpsG.nil ?_
    change WpG _ _ _ _ _
    refine WpG.ret ?_
    refine ⟨_, [], rfl, (hasP_le (by repeat (first | exact trivial | refine ⟨rfl, ?_⟩))), rfl, rfl, rfl, ?_⟩
    have hpr := pick_root (now := now) hh (fun x => by rw [hm x, show i = ps.length by omega])
    rw [hpr.2 (by omega)]; exact ⟨rfl, rfl⟩
 ·exact ⟨Nat.zero_le _, fun i h0 h1 => by simp at h1, Nat.le_refl _, fun x => by simp⟩
end Go.AM.L16
