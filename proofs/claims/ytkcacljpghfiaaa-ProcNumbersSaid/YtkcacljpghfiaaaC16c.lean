/- Contracts of the functions that the statement reaches. No condition. -/
import Derived.Test.YtkcacljpghfiaaaC16b
set_option linter.all false
set_option maxRecDepth 10000
namespace Go.AM.L16
open Go.AM.PL
set_option maxHeartbeats 1000000 in
theorem hdown_ok (l0 : List Nat) (ps : List Pr) (n : Nat) (hnl : n ≤ l0.length) (hl0 : ∀ x ∈ l0, x < ps.length) (hn0 : l0.length ≤ 2 ^ 40) : WpCallG A 25 [.ifc 48 (.bptr 0 0), .v (.int .i64 0), .v (.int .i64 (n : Int))] [(0, .box [.osl 1, .fsl 3 (ps.map encPr)]), (1, .arr .yes 1 ((l0).map encJ))] (fun v H => ∃ (l : List Nat) (b : Bool), (l.length = l0.length ∧ (∀ x ∈ l, x < ps.length) ∧ ∀ k, n ≤ k → k < l0.length → nat0 l k = nat0 l0 k) ∧ v = .v (.bool b) ∧ H = [(0, .box [.osl 1, .fsl 3 (ps.map encPr)]), (1, .arr .yes 1 ((l).map encJ))]) := by
 refine WpCallG.intro g25 rfl rfl ?_
 unfold af25
 change WpG _ _ _ _ _
 refine WpG.seq ?_
 refine WpG.reg ?_
 refine G.mv rfl ?_
 refine WpOpsG.nil ?_
 change WpG _ _ _ _ _
 refine WpG.seq ?_
 refine WpG.reg ?_
 refine G.mv rfl ?_
 refine G.mv rfl ?_
 refine WpOpsG.nil ?_
 change WpG _ _ _ _ _
 refine WpG.seq ?_
 refine WpG.block ?_
 refine WpG.loop (S := Nat × List Nat) (fun s => [(0, .ifc 48 (.bptr 0 0)), (1, .v (.int .i64 0)), (2, .v (.int .i64 (n : Int))), (7, .v (.int .i64 (s.1 : Int)))]) (fun s => [(0, .box [.osl 1, .fsl 3 (ps.map encPr)]), (1, .arr .yes 1 ((s.2).map encJ))]) (fun s => s.2.length = l0.length ∧ (∀ x ∈ s.2, x < ps.length) ∧ (∀ k, n ≤ k → k < l0.length → nat0 s.2 k = nat0 l0 k) ∧ s.1 ≤ l0.length) (fun s => l0.length - s.1) (fun s => ⟨rfl, rfl⟩) ?_ (0, l0) ?_ (by repeat (first | exact trivial | refine ⟨rfl, ?_⟩)) (by repeat (first | exact trivial | refine ⟨rfl, ?_⟩)) rfl
 ·rintro ⟨i, l⟩ ⟨hll, hl, hk, hil⟩
  dsimp only at hll hl hk hil ⊢
  refine WpG.block ?_
  refine WpG.seq ?_
  refine WpG.reg ?_
  refine G.mv rfl ?_
  refine G.mulI rfl rfl (by omega) ?_
  refine G.addI rfl rfl (by omega) ?_
  rw [show 2 * (i : Int) + 1 = ((2 * i + 1 : Nat) : Int) by omega]
  refine G.mv rfl ?_
  refine WpOpsG.nil ?_
  change WpG _ _ _ _ _
  refine WpG.seq ?_
  refine WpG.seq ?_
  refine WpG.reg ?_
  refine G.mv rfl ?_
  refine G.mv rfl ?_
  refine G.bin rfl rfl rfl ?_
  refine G.mv rfl ?_
  apply G.orS rfl rfl rfl rfl rfl rfl
  case hB =>
   intro hs1
   (try simp only [zN] at hs1)
   refine G.mv rfl ?_
   refine G.bin rfl rfl rfl ?_
   refine WpOpsG.nil ?_
   exact ⟨rfl, (by repeat (first | exact LLe.refl _ | refine LLe.cons rfl ?_)), (by repeat (first | exact HLe.refl _ | refine HLe.cons rfl ?_)), rfl⟩
  refine WpOpsG.nil ?_
  change WpG _ _ _ _ _
  refine WpG.cond rfl (fun hq2 => ?_) (fun hq2 => ?_)
  ·(try simp only [zN] at hq2)
   refine WpG.exit ?_
   change WpG _ _ _ _ _
   refine WpG.seq ?_
   refine WpG.reg ?_
   refine G.mv rfl ?_
   refine G.mv rfl ?_
   refine G.bin rfl rfl rfl ?_
   refine G.mv rfl ?_
   refine WpOpsG.nil ?_
   change WpG _ _ _ _ _
   refine WpG.ret ?_
   refine ⟨_, [(0, .box [.osl 1, .fsl 3 (ps.map encPr)]), (1, .arr .yes 1 ((l).map encJ))], rfl, (hasP_le (by repeat (first | exact trivial | refine ⟨rfl, ?_⟩))), rfl, rfl, rfl, ?_⟩
   exact ⟨l, _, ⟨hll, hl, hk⟩, rfl, rfl⟩
  ·(try simp only [zN] at hq2)
   refine WpG.skip ?_
   change WpG _ _ _ _ _
   refine WpG.seq ?_
   refine WpG.reg ?_
   refine G.mv rfl ?_
   refine G.mv rfl ?_
   refine WpOpsG.nil ?_
   change WpG _ _ _ _ _
   obtain ⟨jdn, hjdn⟩ : ∃ z : Nat, z = (if 2 * i + 2 < n ∧ lessV ps (nat0 l (2 * i + 2)) (nat0 l (2 * i + 1)) = true then 2 * i + 2 else 2 * i + 1) := ⟨_, rfl⟩
   have hjr : (jdn = 2 * i + 2 ∨ jdn = 2 * i + 1) ∧ jdn < n := by
    rw [hjdn]; split
    ·rename_i c; exact ⟨.inl rfl, c.1⟩
    ·exact ⟨.inr rfl, by omega⟩
   refine WpG.seqJ ([(0, .ifc 48 (.bptr 0 0)), (1, .v (.int .i64 0)), (2, .v (.int .i64 (n : Int))), (7, .v (.int .i64 (i : Int))), (9, .v (.int .i64 (jdn : Int)))]) ([(0, .box [.osl 1, .fsl 3 (ps.map encPr)]), (1, .arr .yes 1 ((l).map encJ))]) ⟨rfl, rfl⟩ ?_ ?_
   ·change WpG _ _ _ _ _
    refine WpG.seq ?_
    refine WpG.reg ?_
    refine G.mv rfl ?_
    refine G.addI rfl rfl (by omega) ?_
    rw [show ((2 * i + 1 : Nat) : Int) + 1 = ((2 * i + 2 : Nat) : Int) by omega]
    refine G.mv rfl ?_
    refine WpOpsG.nil ?_
    change WpG _ _ _ _ _
    refine WpG.seq ?_
    refine WpG.reg ?_
    refine G.mv rfl ?_
    refine G.mv rfl ?_
    refine G.bin rfl rfl rfl ?_
    refine G.mv rfl ?_
    apply G.andS rfl rfl rfl rfl rfl rfl
    case hB =>
     intro hs3
     (try simp only [zN] at hs3)
     refine G.mv rfl ?_
     refine G.mv rfl ?_
     refine G.mv rfl ?_
     refine G.invk (P := [(0, .box [.osl 1, .fsl 3 (ps.map encPr)]), (1, .arr .yes 1 ((l).map encJ))]) rfl rfl rfl (by repeat (first | exact trivial | refine ⟨rfl, ?_⟩)) rfl rfl (rless_ok l ps (2 * i + 2) (2 * i + 1) (by omega) (by omega) hl (by omega)) ?_
     rintro _ _ ⟨rfl, rfl⟩
     refine ⟨rfl, ?_⟩
     change WpOpsG _ _ ((32, _) :: _) ([(0, .box [.osl 1, .fsl 3 (ps.map encPr)]), (1, .arr .yes 1 ((l).map encJ))] ++ _) _
     refine WpOpsG.nil ?_
     exact ⟨rfl, (by repeat (first | exact LLe.refl _ | refine LLe.cons rfl ?_)), (by repeat (first | exact HLe.refl _ | refine HLe.cons rfl ?_)), rfl⟩
    refine WpOpsG.nil ?_
    change WpG _ _ _ _ _
    refine WpG.cond rfl (fun hq4 => ?_) (fun hq4 => ?_)
    ·(try simp only [zN] at hq4)
     have hdd := hq4
     refine WpG.reg ?_
     refine G.mv rfl ?_
     refine G.mv rfl ?_
     refine WpOpsG.nil ?_
     refine ⟨⟨rfl, rfl, rfl, rfl, ?_, trivial⟩, ⟨rfl, rfl, trivial⟩, rfl⟩
     rw [hjdn]
     first
      | (rw [if_pos ⟨by omega, hdd.2⟩]; rfl)
      | (rw [if_neg (fun c => by rcases hdd with h | h; exact absurd c.1 (by omega); rw [c.2] at h; cases h)]; rfl)
    ·(try simp only [zN] at hq4)
     have hdd := hq4
     refine WpG.skip ?_
     refine ⟨⟨rfl, rfl, rfl, rfl, ?_, trivial⟩, ⟨rfl, rfl, trivial⟩, rfl⟩
     rw [hjdn]
     first
      | (rw [if_pos ⟨by omega, hdd.2⟩]; rfl)
      | (rw [if_neg (fun c => by rcases hdd with h | h; exact absurd c.1 (by omega); rw [c.2] at h; cases h)]; rfl)
   change WpG _ _ _ _ _
   refine WpG.seq ?_
   refine WpG.seq ?_
   refine WpG.reg ?_
   refine G.mv rfl ?_
   refine G.mv rfl ?_
   refine G.mv rfl ?_
   refine G.invk (P := [(0, .box [.osl 1, .fsl 3 (ps.map encPr)]), (1, .arr .yes 1 ((l).map encJ))]) rfl rfl rfl (by repeat (first | exact trivial | refine ⟨rfl, ?_⟩)) rfl rfl (rless_ok l ps jdn i (by omega) (by omega) hl (by omega)) ?_
   rintro _ _ ⟨rfl, rfl⟩
   refine ⟨rfl, ?_⟩
   change WpOpsG _ _ ((38, _) :: _) ([(0, .box [.osl 1, .fsl 3 (ps.map encPr)]), (1, .arr .yes 1 ((l).map encJ))] ++ _) _
   refine G.un rfl rfl ?_
   refine WpOpsG.nil ?_
   change WpG _ _ _ _ _
   refine WpG.cond rfl (fun hq5 => ?_) (fun hq5 => ?_)
   ·(try simp only [zN] at hq5)
    refine WpG.exit ?_
    change WpG _ _ _ _ _
    refine WpG.seq ?_
    refine WpG.reg ?_
    refine G.mv rfl ?_
    refine G.mv rfl ?_
    refine G.bin rfl rfl rfl ?_
    refine G.mv rfl ?_
    refine WpOpsG.nil ?_
    change WpG _ _ _ _ _
    refine WpG.ret ?_
    refine ⟨_, [(0, .box [.osl 1, .fsl 3 (ps.map encPr)]), (1, .arr .yes 1 ((l).map encJ))], rfl, (hasP_le (by repeat (first | exact trivial | refine ⟨rfl, ?_⟩))), rfl, rfl, rfl, ?_⟩
    exact ⟨l, _, ⟨hll, hl, hk⟩, rfl, rfl⟩
   ·(try simp only [zN] at hq5)
    refine WpG.skip ?_
    change WpG _ _ _ _ _
    refine WpG.seq ?_
    refine WpG.reg ?_
    refine G.mv rfl ?_
    refine G.mv rfl ?_
    refine G.mv rfl ?_
    refine G.invk (P := [(0, .box [.osl 1, .fsl 3 (ps.map encPr)]), (1, .arr .yes 1 ((l).map encJ))]) rfl rfl rfl (by repeat (first | exact trivial | refine ⟨rfl, ?_⟩)) rfl rfl (rswap_ok l ps i jdn (by omega) (by omega) (by omega)) ?_
    rintro _ _ ⟨rfl, rfl⟩
    refine ⟨rfl, ?_⟩
    change WpOpsG _ _ ((43, _) :: _) ([(0, .box [.osl 1, .fsl 3 (ps.map encPr)]), (1, .arr .yes 1 ((swpJ l i jdn).map encJ))] ++ _) _
    refine WpOpsG.nil ?_
    change WpG _ _ _ _ _
    refine WpG.reg ?_
    refine G.mv rfl ?_
    refine G.mv rfl ?_
    refine WpOpsG.nil ?_
    exact ⟨(jdn, swpJ l i (jdn)), by show l0.length - (jdn) < l0.length - i; omega, ⟨by dsimp only; rw [swp_len]; exact hll, fun x hx => hl x ((swp_mem (by omega) (by omega)).1 hx), fun k h1 h2 => by dsimp only; rw [swp_at (by omega) (by omega), if_neg (by omega), if_neg (by omega)]; exact hk k h1 h2, by dsimp only; omega⟩, ⟨rfl, rfl, rfl, rfl, trivial⟩, ⟨rfl, rfl, trivial⟩, rfl⟩
 ·exact ⟨rfl, hl0, fun k _ _ => rfl, Nat.zero_le _⟩
end Go.AM.L16
