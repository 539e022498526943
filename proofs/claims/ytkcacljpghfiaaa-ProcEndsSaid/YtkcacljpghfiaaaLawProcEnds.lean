/- The statement ProcEnds returns true for any arguments, and they read as before. No condition. -/
import Derived.Test.YtkcacljpghfiaaaRows
import Derived.Test.YtkcacljpghfiaaaLink
import Derived.Test.YtkcacljpghfiaaaC16j
import Derived.WalkKit
import Derived.ProofKit
import Derived.OpenShut
import Derived.ShutString
import Derived.ChangeOld
import Derived.Below
import Derived.SizedLaws
import Derived.Carry
namespace Go.Proofs.Ytkcacljpghfiaaa.procEnds
open Go.ChangeShapes Go.WideShapes Go.ChangeAt Go.RowKit Go.AM
set_option linter.all false
open Go.Proofs.Ytkcacljpghfiaaa.lnk

set_option maxRecDepth 100000 in
theorem lifted (os : Os) (started : os.Started) (H : Type) (enc : TypeId × Value → H) :
    ReturnsInHanded {} Try.checked os 6 .any (Rows.procEndsSpec.pre6 enc Try.prog Try.f6 Rows.procEndsRow.domain false) (Rows.procEndsSpec.post enc Try.prog Try.f6 false true false false) := by
  refine returnsInHanded_of_change_sized (C := Try.checked) lnk.own started (by kernel_rfl) Try.func6
    (ChangeSpec.witness6 (enc := enc) (C := Try.checked) false ⟨#[], #[.slice none 0 0, .slice none 0 0, .slice none 0 0, .int .i64 0], []⟩ 8 (by kernel_rfl) (by kernel_rfl) (by kernel_rfl) (by kernel_rfl)) ?_
  intro W base args ds gs before hval0 hW hcnd hsz0 _
  have hsz : (DataW.weightsEach Try.prog (Try.f6.params.toList ++ Rows.procEndsSpec.plain.varTypes Try.prog) (ds ++ gs)).all (· ≤ reachBytes) = true := hsz0
  have hval : ∀ (j : Nat) t v, Try.f6.params[j]? = some t → args[j]? = some v → Value.okWide Try.prog W .any base t v := hval0
  have hW' := hW
  obtain ⟨p, q, hA0, hV, rfl, hfz, hnd⟩ := hW
  have hA : DataW.TrodAll enc Try.prog W 0 (fun _ => true) true Try.f6.params.toList args.toList ds p := hA0
  rw [Try.params6] at hA hval hsz
  obtain ⟨v0, vs0, d0, ds0, p0, q0, hargs, rfl, rfl, h0, r0⟩ := trodAll_cons hA
  obtain ⟨v1, vs1, d1, ds1, p1, q1, rfl, rfl, rfl, h1, r1⟩ := trodAll_cons r0
  obtain ⟨v2, vs2, d2, ds2, p2, q2, rfl, rfl, rfl, h2, r2⟩ := trodAll_cons r1
  obtain ⟨v3, vs3, d3, ds3, p3, q3, rfl, rfl, rfl, h3, r3⟩ := trodAll_cons r2
  obtain ⟨rfl, rfl, rfl⟩ := trodAll_nil r3
  obtain rfl : args = #[v0, v1, v2, v3] := by cases args; simp_all
  obtain ⟨rfl, rfl⟩ := trodVars_none hV
  obtain ⟨p, h_p, rep0⟩ := (RC.one (RC.slice Try.underlying22 (by kernel_rfl) (RC.int Try.underlying3 (by kernel_rfl)) (by decide)) (by kernel_rfl)) (hval 0 22 v0 rfl rfl) h0 (fine_each hsz (j := 0) rfl rfl)
  have hlt0 : ∀ x ∈ p0, x.block < W.heap.size := fun x hx => hW'.lt x (by simp; exact .inl hx)
  obtain ⟨e, h_e, rep1⟩ := (RC.one (RC.slice Try.underlying22 (by kernel_rfl) (RC.int Try.underlying3 (by kernel_rfl)) (by decide)) (by kernel_rfl)) (hval 1 22 v1 rfl rfl) h1 (fine_each hsz (j := 1) rfl rfl)
  have hlt1 : ∀ x ∈ p1, x.block < W.heap.size := fun x hx => hW'.lt x (by simp; exact .inr (.inl hx))
  obtain ⟨w, h_w, rep2⟩ := (RC.one (RC.slice Try.underlying23 (by kernel_rfl) (RC.int Try.underlying2 (by kernel_rfl)) (by decide)) (by kernel_rfl)) (hval 2 23 v2 rfl rfl) h2 (fine_each hsz (j := 2) rfl rfl)
  have hlt2 : ∀ x ∈ p2, x.block < W.heap.size := fun x hx => hW'.lt x (by simp; exact .inr (.inr (.inl hx)))
  obtain ⟨n, h_n, rep3⟩ := (RC.one (RC.int Try.underlying2 (by kernel_rfl)) (by kernel_rfl)) (hval 3 2 v3 rfl rfl) h3 (fine_each hsz (j := 3) rfl rfl)
  have hlt3 : ∀ x ∈ p3, x.block < W.heap.size := fun x hx => hW'.lt x (by simp; exact .inr (.inr (.inr (hx))))
  refine (entry lnk.linked (f := 6) (L16.procEnds_ok p e w n (by have h := h_p.2; rw [show Try.prog.bytesOf 3 = 8 by kernel_rfl] at h; unfold reachBytes at h; omega) (by have h := h_e.2; rw [show Try.prog.bytesOf 3 = 8 by kernel_rfl] at h; unfold reachBytes at h; omega) (by have h := h_w.2; rw [show Try.prog.bytesOf 2 = 8 by kernel_rfl] at h; unfold reachBytes at h; omega)) (W := W) (args := #[v0, v1, v2, v3]) rfl ?_).mono fun e W' ⟨he, bel⟩ => ?_
  · intro i g x e1 e2
    match i, e1, e2 with
    | 0, e1, e2 => cases e1; simp at e2; subst e2; exact rep0
    | 1, e1, e2 => cases e1; simp at e2; subst e2; exact rep1
    | 2, e1, e2 => cases e1; simp at e2; subst e2; exact rep2
    | 3, e1, e2 => cases e1; simp at e2; subst e2; exact rep3
    | i + 4, e1, e2 => simp at e1
  subst he
  exact ⟨_, rfl, _, _, _, [], _, [], hW', trodAll_mk1 (shut_bool (by kernel_rfl) _), (trodAll_cons_mk (Below.trod lnk.laid (by kernel_rfl) (of_decide_eq_true (by kernel_rfl)) h0 bel hlt0) (trodAll_cons_mk (Below.trod lnk.laid (by kernel_rfl) (of_decide_eq_true (by kernel_rfl)) h1 bel hlt1) (trodAll_cons_mk (Below.trod lnk.laid (by kernel_rfl) (of_decide_eq_true (by kernel_rfl)) h2 bel hlt2) (trodAll_cons_mk (Below.trod lnk.laid (by kernel_rfl) (of_decide_eq_true (by kernel_rfl)) h3 bel hlt3) trodAll_mk0)))), rfl, bel.frame _, fun h => by cases h⟩
theorem over : Rows.procEndsRow.holds Try.pinned (OpenSpec.ofChange Rows.procEndsSpec) :=
  OpenClaim.holds_of_wide 6 Try.f6 rfl rfl rfl rfl rfl rfl rfl ⟨rfl, rfl, rfl, rfl, rfl⟩ rfl rfl rfl rfl rfl (by kernel_rfl) Try.func6 (by kernel_rfl)
    (of_decide_eq_true (by kernel_rfl)) (by unfold Func.isWrapper; first | (rw [if_pos (by decide +kernel)]; kernel_rfl) | (rw [if_neg (by decide +kernel)]; exact ⟨rfl, rfl⟩))
    (fun os started H enc _ => lifted os started H enc)
end Go.Proofs.Ytkcacljpghfiaaa.procEnds
namespace Go.Proofs.Ytkcacljpghfiaaa
/-- The row, under a short name, for the claim. -/
theorem procEnds_holds : Rows.ProcEndsSaid := procEnds.over
end Go.Proofs.Ytkcacljpghfiaaa
