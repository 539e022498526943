/- Contracts of the functions that the statement reaches. No condition. -/
import Derived.Test.YtkcacljpghfiaaaC16c
set_option linter.all false
set_option maxRecDepth 10000
namespace Go.AM.L16
open Go.AM.PL
theorem hpop_ok (l : List Nat) (ps : List Pr) (h0 : 0 < l.length) (hl : ∀ x ∈ l, x < ps.length) (hn : l.length ≤ 2 ^ 30) : WpCallG A 21 [.ifc 48 (.bptr 0 0)] [(0, .box [.osl 1, .fsl 3 (ps.map encPr)]), (1, .arr .yes 1 ((l).map encJ))] (fun v H => ∃ l2 : List Nat, v = .ifc 3 (.v (.int .i64 (nat0 l 0 : Int))) ∧ H = [(0, .box [.osl 1, .fsl 3 (ps.map encPr)]), (1, .arr .no 1 ((l2).map encJ))]) := by
 refine WpCallG.intro g21 rfl rfl ?_
 unfold af21
 change WpG _ _ _ _ _
 refine WpG.seq ?_
 refine WpG.reg ?_
 refine G.mv rfl ?_
 refine WpOpsG.nil ?_
 change WpG _ _ _ _ _
 refine WpG.seq ?_
 refine WpG.reg ?_
 refine G.mv rfl ?_
 refine G.invk (P := [(0, .box [.osl 1, .fsl 3 (ps.map encPr)]), (1, .arr .yes 1 ((l).map encJ))]) rfl rfl rfl (by repeat (first | exact trivial | refine ⟨rfl, ?_⟩)) rfl rfl (rlen_ok l ps) ?_
 rintro _ _ ⟨rfl, rfl⟩
 refine ⟨rfl, ?_⟩
 change WpOpsG _ _ ((5, _) :: _) ([(0, .box [.osl 1, .fsl 3 (ps.map encPr)]), (1, .arr .yes 1 ((l).map encJ))] ++ _) _
 refine G.subI rfl rfl (by omega) ?_
 rw [show (l.length : Int) - 1 = ((l.length - 1 : Nat) : Int) by omega]
 refine G.mv rfl ?_
 refine WpOpsG.nil ?_
 change WpG _ _ _ _ _
 refine WpG.seq ?_
 refine WpG.reg ?_
 refine G.mv rfl ?_
 refine G.mv rfl ?_
 refine G.invk (P := [(0, .box [.osl 1, .fsl 3 (ps.map encPr)]), (1, .arr .yes 1 ((l).map encJ))]) rfl rfl rfl (by repeat (first | exact trivial | refine ⟨rfl, ?_⟩)) rfl rfl (rswap_ok l ps 0 (l.length - 1) (by omega) (by omega) (by omega)) ?_
 rintro _ _ ⟨rfl, rfl⟩
 refine ⟨rfl, ?_⟩
 change WpOpsG _ _ ((9, _) :: _) ([(0, .box [.osl 1, .fsl 3 (ps.map encPr)]), (1, .arr .yes 1 ((swpJ l 0 (l.length - 1)).map encJ))] ++ _) _
 refine WpOpsG.nil ?_
 change WpG _ _ _ _ _
 refine WpG.seq ?_
 refine WpG.reg ?_
 refine G.mv rfl ?_
 refine G.mv rfl ?_
 refine G.call (P := [(0, .box [.osl 1, .fsl 3 (ps.map encPr)]), (1, .arr .yes 1 ((swpJ l 0 (l.length - 1)).map encJ))]) rfl (by repeat (first | exact trivial | refine ⟨rfl, ?_⟩)) rfl rfl (hdown_ok (swpJ l 0 (l.length - 1)) ps (l.length - 1) (by rw [swp_len]; omega) (fun x hx => hl x ((swp_mem (by omega) (by omega)).1 hx)) (by rw [swp_len]; omega)) ?_
 rintro _ _ ⟨m, b, ⟨hm1, hm2, hm3⟩, rfl, rfl⟩
 refine ⟨rfl, ?_⟩
 change WpOpsG _ _ ((12, _) :: _) ([(0, .box [.osl 1, .fsl 3 (ps.map encPr)]), (1, .arr .yes 1 ((m).map encJ))] ++ _) _
 rw [swp_len] at hm1
 have hm4 := hm3 (l.length - 1) (Nat.le_refl _) (by rw [swp_len]; omega)
 rw [swp_at (by omega) (by omega), if_pos rfl] at hm4
 refine WpOpsG.nil ?_
 change WpG _ _ _ _ _
 refine WpG.seq ?_
 refine WpG.reg ?_
 refine G.mv rfl ?_
 refine G.invk (P := [(0, .box [.osl 1, .fsl 3 (ps.map encPr)]), (1, .arr .yes 1 ((m).map encJ))]) rfl rfl rfl (by repeat (first | exact trivial | refine ⟨rfl, ?_⟩)) rfl rfl (rpop_ok m ps (by omega) (by omega)) ?_
 rintro _ _ ⟨rfl, rfl⟩
 refine ⟨rfl, ?_⟩
 change WpOpsG _ _ ((14, _) :: _) ([(0, .box [.osl 1, .fsl 3 (ps.map encPr)]), (1, .arr .no 1 ((m.take (m.length - 1)).map encJ))] ++ _) _
 rw [hm1, hm4]
 refine G.mv rfl ?_
 refine WpOpsG.nil ?_
 change WpG _ _ _ _ _
 refine WpG.ret ?_
 refine ⟨_, [(0, .box [.osl 1, .fsl 3 (ps.map encPr)]), (1, .arr .no 1 ((m.take (l.length - 1)).map encJ))], rfl, (hasP_le (by repeat (first | exact trivial | refine ⟨rfl, ?_⟩))), rfl, rfl, rfl, ?_⟩
 exact ⟨_, rfl, rfl⟩
end Go.AM.L16
