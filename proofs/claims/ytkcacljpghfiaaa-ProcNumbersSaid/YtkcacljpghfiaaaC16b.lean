/- Contracts of the functions that the statement reaches. No condition. -/
import Derived.Test.YtkcacljpghfiaaaC16a
set_option linter.all false
set_option maxRecDepth 10000
namespace Go.AM.L16
open Go.AM.PL
theorem hup_ok (l0 : List Nat) (ps : List Pr) (j0 : Nat) (hj0 : j0 < l0.length) (hl0 : ∀ x ∈ l0, x < ps.length) (hn0 : l0.length ≤ 2 ^ 40) : WpCallG A 24 [.ifc 48 (.bptr 0 0), .v (.int .i64 (j0 : Int))] [(0, .box [.osl 1, .fsl 3 (ps.map encPr)]), (1, .arr .yes 1 ((l0).map encJ))] (fun v H => v = .tup [] ∧ H = [(0, .box [.osl 1, .fsl 3 (ps.map encPr)]), (1, .arr .yes 1 ((upF ps j0 l0 j0).map encJ))]) := by
 refine WpCallG.intro g24 rfl rfl ?_
 unfold af24
 change WpG _ _ _ _ _
 refine WpG.block ?_
 refine WpG.loop (S := Nat × Nat × List Nat) (fun s => [(0, .ifc 48 (.bptr 0 0)), (1, .v (.int .i64 (s.2.1 : Int)))]) (fun s => [(0, .box [.osl 1, .fsl 3 (ps.map encPr)]), (1, .arr .yes 1 ((s.2.2).map encJ))]) (fun s => s.2.1 ≤ s.1 ∧ s.2.1 < s.2.2.length ∧ s.2.2.length ≤ 2 ^ 40 ∧ (∀ x ∈ s.2.2, x < ps.length) ∧ upF ps s.1 s.2.2 s.2.1 = upF ps j0 l0 j0) (fun s => s.1) (fun s => ⟨rfl, rfl⟩) ?_ (j0, j0, l0) ?_ (by repeat (first | exact trivial | refine ⟨rfl, ?_⟩)) (by repeat (first | exact trivial | refine ⟨rfl, ?_⟩)) rfl
 ·rintro ⟨f, j, l⟩ ⟨hf, hj, hn, hl, hu⟩
  dsimp only at hf hj hn hl hu ⊢
  have hpj := par_le j
  refine WpG.block ?_
  refine WpG.seq ?_
  refine WpG.reg ?_
  refine G.mv rfl ?_
  refine G.subI rfl rfl (by omega) ?_
  refine G.quoP rfl rfl (by omega) (by decide) ?_
  rw [par_div]
  refine G.mv rfl ?_
  refine WpOpsG.nil ?_
  change WpG _ _ _ _ _
  refine WpG.seq ?_
  refine WpG.seq ?_
  refine WpG.reg ?_
  refine G.mv rfl ?_
  refine G.mv rfl ?_
  refine G.bin rfl rfl rfl ?_
  refine G.mv rfl ?_
  apply G.orS rfl rfl rfl rfl rfl rfl
  case hB =>
   intro hs1
   (try simp only [zN] at hs1)
   refine G.mv rfl ?_
   refine G.mv rfl ?_
   refine G.mv rfl ?_
   refine G.invk (P := [(0, .box [.osl 1, .fsl 3 (ps.map encPr)]), (1, .arr .yes 1 ((l).map encJ))]) rfl rfl rfl (by repeat (first | exact trivial | refine ⟨rfl, ?_⟩)) rfl rfl (rless_ok l ps j (par j) (by omega) (by omega) hl (by omega)) ?_
   rintro _ _ ⟨rfl, rfl⟩
   refine ⟨rfl, ?_⟩
   change WpOpsG _ _ ((15, _) :: _) ([(0, .box [.osl 1, .fsl 3 (ps.map encPr)]), (1, .arr .yes 1 ((l).map encJ))] ++ _) _
   refine G.un rfl rfl ?_
   refine WpOpsG.nil ?_
   exact ⟨rfl, (by repeat (first | exact LLe.refl _ | refine LLe.cons rfl ?_)), (by repeat (first | exact HLe.refl _ | refine HLe.cons rfl ?_)), rfl⟩
  refine WpOpsG.nil ?_
  change WpG _ _ _ _ _
  refine WpG.cond rfl (fun hq2 => ?_) (fun hq2 => ?_)
  ·(try simp only [zN] at hq2)
   have hstop : par j = j ∨ lessV ps (nat0 l j) (nat0 l (par j)) = false := by
    rcases hq2 with h | h
    ·exact .inl (by omega)
    ·exact .inr h
   refine WpG.exit ?_
   rw [upF_stop hstop] at hu
   rw [← hu]
   refine ⟨_, [(0, .box [.osl 1, .fsl 3 (ps.map encPr)]), (1, .arr .yes 1 ((l).map encJ))], rfl, (hasP_le (by repeat (first | exact trivial | refine ⟨rfl, ?_⟩))), rfl, rfl, rfl, ?_⟩
   exact ⟨rfl, rfl⟩
  ·(try simp only [zN] at hq2)
   have hgo : ¬ (par j = j ∨ lessV ps (nat0 l j) (nat0 l (par j)) = false) := fun c => by
    rcases c with c | c
    ·exact hq2.1 (by omega)
    ·rw [c] at hq2; exact absurd hq2.2 (by decide)
   refine WpG.skip ?_
   change WpG _ _ _ _ _
   refine WpG.seq ?_
   refine WpG.reg ?_
   refine G.mv rfl ?_
   refine G.mv rfl ?_
   refine G.mv rfl ?_
   refine G.invk (P := [(0, .box [.osl 1, .fsl 3 (ps.map encPr)]), (1, .arr .yes 1 ((l).map encJ))]) rfl rfl rfl (by repeat (first | exact trivial | refine ⟨rfl, ?_⟩)) rfl rfl (rswap_ok l ps (par j) j (by omega) (by omega) (by omega)) ?_
   rintro _ _ ⟨rfl, rfl⟩
   refine ⟨rfl, ?_⟩
   change WpOpsG _ _ ((21, _) :: _) ([(0, .box [.osl 1, .fsl 3 (ps.map encPr)]), (1, .arr .yes 1 ((swpJ l (par j) j).map encJ))] ++ _) _
   refine WpOpsG.nil ?_
   change WpG _ _ _ _ _
   refine WpG.reg ?_
   refine G.mv rfl ?_
   refine G.mv rfl ?_
   refine WpOpsG.nil ?_
   have hj1 : 0 < j := Nat.pos_of_ne_zero fun e => hgo (.inl (by subst e; rfl))
   have hpl := par_lt hj1
   refine ⟨(f - 1, par j, swpJ l (par j) j), by show f - 1 < f; omega, ⟨by dsimp only; omega, by dsimp only; rw [swp_len]; omega, by dsimp only; rw [swp_len]; omega, fun x hx => hl x ((swp_mem (by omega) hj).1 hx), ?_⟩, ⟨rfl, rfl, trivial⟩, ⟨rfl, rfl, trivial⟩, rfl⟩
   dsimp only
   rw [← hu]
   have h1 := upF_go (f := f - 1) hgo
   rw [show f - 1 + 1 = f by omega] at h1
   exact h1.symm
 ·exact ⟨Nat.le_refl _, hj0, hn0, hl0, rfl⟩
theorem hpush_ok (l : List Nat) (ps : List Pr) (x : Nat) (hx : x < ps.length) (hl : ∀ x ∈ l, x < ps.length) (hn : l.length ≤ 2 ^ 30) : WpCallG A 19 [.ifc 48 (.bptr 0 0), .ifc 3 (.v (.int .i64 (x : Int)))] [(0, .box [.osl 1, .fsl 3 (ps.map encPr)]), (1, .arr .yes 1 ((l).map encJ))] (fun v H => v = .tup [] ∧ H = [(0, .box [.osl 1, .fsl 3 (ps.map encPr)]), (1, .arr .yes 1 ((pushV ps l x).map encJ))]) := by
 refine WpCallG.intro g19 rfl rfl ?_
 unfold af19
 change WpG _ _ _ _ _
 refine WpG.seq ?_
 refine WpG.reg ?_
 refine G.mv rfl ?_
 refine G.mv rfl ?_
 refine G.invk (P := [(0, .box [.osl 1, .fsl 3 (ps.map encPr)]), (1, .arr .yes 1 ((l).map encJ))]) rfl rfl rfl (by repeat (first | exact trivial | refine ⟨rfl, ?_⟩)) rfl rfl (rpush_ok l ps x (by omega)) ?_
 rintro _ _ ⟨rfl, rfl⟩
 refine ⟨rfl, ?_⟩
 change WpOpsG _ _ ((6, _) :: _) ([(0, .box [.osl 1, .fsl 3 (ps.map encPr)]), (1, .arr .yes 1 ((l ++ [x]).map encJ))] ++ _) _
 refine WpOpsG.nil ?_
 change WpG _ _ _ _ _
 refine WpG.reg ?_
 refine G.mv rfl ?_
 refine G.mv rfl ?_
 refine G.invk (P := [(0, .box [.osl 1, .fsl 3 (ps.map encPr)]), (1, .arr .yes 1 ((l ++ [x]).map encJ))]) rfl rfl rfl (by repeat (first | exact trivial | refine ⟨rfl, ?_⟩)) rfl rfl (rlen_ok (l ++ [x]) ps) ?_
 rintro _ _ ⟨rfl, rfl⟩
 refine ⟨rfl, ?_⟩
 change WpOpsG _ _ ((9, _) :: _) ([(0, .box [.osl 1, .fsl 3 (ps.map encPr)]), (1, .arr .yes 1 ((l ++ [x]).map encJ))] ++ _) _
 rw [List.length_append, show l.length + [x].length = l.length + 1 from rfl]
 refine G.subI rfl rfl (by omega) ?_
 rw [show ((l.length + 1 : Nat) : Int) - 1 = (l.length : Int) by omega]
 refine G.call (P := [(0, .box [.osl 1, .fsl 3 (ps.map encPr)]), (1, .arr .yes 1 ((l ++ [x]).map encJ))]) rfl (by repeat (first | exact trivial | refine ⟨rfl, ?_⟩)) rfl rfl (hup_ok (l ++ [x]) ps l.length (by simp) (fun y hy => (List.mem_append.1 hy).elim (hl y) (fun h => by rw [List.mem_singleton.1 h]; exact hx)) (by rw [List.length_append]; show l.length + 1 ≤ _; omega)) ?_
 rintro _ _ ⟨rfl, rfl⟩
 refine ⟨rfl, ?_⟩
 change WpOpsG _ _ ((11, _) :: _) ([(0, .box [.osl 1, .fsl 3 (ps.map encPr)]), (1, .arr .yes 1 ((pushV ps l x).map encJ))] ++ _) _
 refine WpOpsG.nil ?_
 refine ⟨_, [(0, .box [.osl 1, .fsl 3 (ps.map encPr)]), (1, .arr .yes 1 ((pushV ps l x).map encJ))], rfl, (hasP_le (by repeat (first | exact trivial | refine ⟨rfl, ?_⟩))), rfl, rfl, rfl, ?_⟩
 exact ⟨rfl, rfl⟩
end Go.AM.L16
