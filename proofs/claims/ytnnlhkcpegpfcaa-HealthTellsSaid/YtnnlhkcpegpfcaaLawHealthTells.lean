/- The statement HealthTells returns true for any arguments, and they read as before. No condition. -/
import Derived.Test.YtnnlhkcpegpfcaaRows
import Derived.Test.YtnnlhkcpegpfcaaLink
import Derived.Test.YtnnlhkcpegpfcaaC18d
import Derived.WalkKit
import Derived.ProofKit
import Derived.OpenShut
import Derived.ShutString
import Derived.ChangeOld
import Derived.Below
import Derived.SizedLaws
import Derived.Carry
namespace Go.Proofs.Ytnnlhkcpegpfcaa.healthTells
open Go.ChangeShapes Go.WideShapes Go.ChangeAt Go.RowKit Go.AM
set_option linter.all false
open Go.Proofs.Ytnnlhkcpegpfcaa.lnk

set_option maxRecDepth 100000 in
theorem lifted (os : Os) (started : os.Started) (H : Type) (enc : TypeId × Value → H) :
    ReturnsInHanded {} Try.checked os 4 .any (Rows.healthTellsSpec.pre6 enc Try.prog Try.f4 Rows.healthTellsRow.domain false) (Rows.healthTellsSpec.post enc Try.prog Try.f4 false true false false) := by
  refine returnsInHanded_of_change_sized (C := Try.checked) lnk.own started (by kernel_rfl) Try.func4
    (ChangeSpec.witness6 (enc := enc) (C := Try.checked) false ⟨#[], #[.int .i64 0, .int .i64 0, .int .i64 0, .int .i64 0, .int .i64 0, .slice none 0 0, .slice none 0 0, .slice none 0 0], []⟩ 8 (by kernel_rfl) (by kernel_rfl) (by kernel_rfl) (by kernel_rfl)) ?_
  intro W base args ds gs before hval0 hW hcnd hsz0 _
  have hsz : (DataW.weightsEach Try.prog (Try.f4.params.toList ++ Rows.healthTellsSpec.plain.varTypes Try.prog) (ds ++ gs)).all (· ≤ reachBytes) = true := hsz0
  have hval : ∀ (j : Nat) t v, Try.f4.params[j]? = some t → args[j]? = some v → Value.okWide Try.prog W .any base t v := hval0
  have hW' := hW
  obtain ⟨p, q, hA0, hV, rfl, hfz, hnd⟩ := hW
  have hA : DataW.TrodAll enc Try.prog W 0 (fun _ => true) true Try.f4.params.toList args.toList ds p := hA0
  rw [Try.params4] at hA hval hsz
  obtain ⟨v0, vs0, d0, ds0, p0, q0, hargs, rfl, rfl, h0, r0⟩ := trodAll_cons hA
  obtain ⟨v1, vs1, d1, ds1, p1, q1, rfl, rfl, rfl, h1, r1⟩ := trodAll_cons r0
  obtain ⟨v2, vs2, d2, ds2, p2, q2, rfl, rfl, rfl, h2, r2⟩ := trodAll_cons r1
  obtain ⟨v3, vs3, d3, ds3, p3, q3, rfl, rfl, rfl, h3, r3⟩ := trodAll_cons r2
  obtain ⟨v4, vs4, d4, ds4, p4, q4, rfl, rfl, rfl, h4, r4⟩ := trodAll_cons r3
  obtain ⟨v5, vs5, d5, ds5, p5, q5, rfl, rfl, rfl, h5, r5⟩ := trodAll_cons r4
  obtain ⟨v6, vs6, d6, ds6, p6, q6, rfl, rfl, rfl, h6, r6⟩ := trodAll_cons r5
  obtain ⟨v7, vs7, d7, ds7, p7, q7, rfl, rfl, rfl, h7, r7⟩ := trodAll_cons r6
  obtain ⟨rfl, rfl, rfl⟩ := trodAll_nil r7
  obtain rfl : args = #[v0, v1, v2, v3, v4, v5, v6, v7] := by cases args; simp_all
  obtain ⟨rfl, rfl⟩ := trodVars_none hV
  obtain ⟨a, h_a, rep0⟩ := (RC.one (RC.int Try.underlying3 (by kernel_rfl)) (by kernel_rfl)) (hval 0 3 v0 rfl rfl) h0 (fine_each hsz (j := 0) rfl rfl)
  have hlt0 : ∀ x ∈ p0, x.block < W.heap.size := fun x hx => hW'.lt x (by simp; exact .inl hx)
  obtain ⟨b, h_b, rep1⟩ := (RC.one (RC.int Try.underlying3 (by kernel_rfl)) (by kernel_rfl)) (hval 1 3 v1 rfl rfl) h1 (fine_each hsz (j := 1) rfl rfl)
  have hlt1 : ∀ x ∈ p1, x.block < W.heap.size := fun x hx => hW'.lt x (by simp; exact .inr (.inl hx))
  obtain ⟨c, h_c, rep2⟩ := (RC.one (RC.int Try.underlying3 (by kernel_rfl)) (by kernel_rfl)) (hval 2 3 v2 rfl rfl) h2 (fine_each hsz (j := 2) rfl rfl)
  have hlt2 : ∀ x ∈ p2, x.block < W.heap.size := fun x hx => hW'.lt x (by simp; exact .inr (.inr (.inl hx)))
  obtain ⟨d, h_d, rep3⟩ := (RC.one (RC.int Try.underlying3 (by kernel_rfl)) (by kernel_rfl)) (hval 3 3 v3 rfl rfl) h3 (fine_each hsz (j := 3) rfl rfl)
  have hlt3 : ∀ x ∈ p3, x.block < W.heap.size := fun x hx => hW'.lt x (by simp; exact .inr (.inr (.inr (.inl hx))))
  obtain ⟨e, h_e, rep4⟩ := (RC.one (RC.int Try.underlying3 (by kernel_rfl)) (by kernel_rfl)) (hval 4 3 v4 rfl rfl) h4 (fine_each hsz (j := 4) rfl rfl)
  have hlt4 : ∀ x ∈ p4, x.block < W.heap.size := fun x hx => hW'.lt x (by simp; exact .inr (.inr (.inr (.inr (.inl hx)))))
  obtain ⟨ks, h_ks, rep5⟩ := (RC.one (RC.slice Try.underlying24 (by kernel_rfl) (RC.int Try.underlying3 (by kernel_rfl)) (by decide)) (by kernel_rfl)) (hval 5 24 v5 rfl rfl) h5 (fine_each hsz (j := 5) rfl rfl)
  have hlt5 : ∀ x ∈ p5, x.block < W.heap.size := fun x hx => hW'.lt x (by simp; exact .inr (.inr (.inr (.inr (.inr (.inl hx))))))
  obtain ⟨ts, h_ts, rep6⟩ := (RC.one (RC.slice Try.underlying25 (by kernel_rfl) (RC.int Try.underlying2 (by kernel_rfl)) (by decide)) (by kernel_rfl)) (hval 6 25 v6 rfl rfl) h6 (fine_each hsz (j := 6) rfl rfl)
  have hlt6 : ∀ x ∈ p6, x.block < W.heap.size := fun x hx => hW'.lt x (by simp; exact .inr (.inr (.inr (.inr (.inr (.inr (.inl hx)))))))
  obtain ⟨pr, h_pr, rep7⟩ := (RC.one (RC.slice Try.underlying24 (by kernel_rfl) (RC.int Try.underlying3 (by kernel_rfl)) (by decide)) (by kernel_rfl)) (hval 7 24 v7 rfl rfl) h7 (fine_each hsz (j := 7) rfl rfl)
  have hlt7 : ∀ x ∈ p7, x.block < W.heap.size := fun x hx => hW'.lt x (by simp; exact .inr (.inr (.inr (.inr (.inr (.inr (.inr (hx))))))))
  refine (entry lnk.linked (f := 4) (L18.healthTells_ok a b c d e ks ts pr (fun z hz => wf64 (h_ks.1 z hz)) (by have h := h_ks.2; rw [show Try.prog.bytesOf 3 = 8 by kernel_rfl] at h; unfold reachBytes at h; omega) (by have h := h_ts.2; rw [show Try.prog.bytesOf 2 = 8 by kernel_rfl] at h; unfold reachBytes at h; omega) (by have h := h_pr.2; rw [show Try.prog.bytesOf 3 = 8 by kernel_rfl] at h; unfold reachBytes at h; omega)) (W := W) (args := #[v0, v1, v2, v3, v4, v5, v6, v7]) rfl ?_).mono fun e W' ⟨he, bel⟩ => ?_
  · intro i g x e1 e2
    match i, e1, e2 with
    | 0, e1, e2 => cases e1; simp at e2; subst e2; exact rep0
    | 1, e1, e2 => cases e1; simp at e2; subst e2; exact rep1
    | 2, e1, e2 => cases e1; simp at e2; subst e2; exact rep2
    | 3, e1, e2 => cases e1; simp at e2; subst e2; exact rep3
    | 4, e1, e2 => cases e1; simp at e2; subst e2; exact rep4
    | 5, e1, e2 => cases e1; simp at e2; subst e2; exact rep5
    | 6, e1, e2 => cases e1; simp at e2; subst e2; exact rep6
    | 7, e1, e2 => cases e1; simp at e2; subst e2; exact rep7
    | i + 8, e1, e2 => simp at e1
  subst he
  exact ⟨_, rfl, _, _, _, [], _, [], hW', trodAll_mk1 (shut_bool (by kernel_rfl) _), (trodAll_cons_mk (Below.trod lnk.laid (by kernel_rfl) (of_decide_eq_true (by kernel_rfl)) h0 bel hlt0) (trodAll_cons_mk (Below.trod lnk.laid (by kernel_rfl) (of_decide_eq_true (by kernel_rfl)) h1 bel hlt1) (trodAll_cons_mk (Below.trod lnk.laid (by kernel_rfl) (of_decide_eq_true (by kernel_rfl)) h2 bel hlt2) (trodAll_cons_mk (Below.trod lnk.laid (by kernel_rfl) (of_decide_eq_true (by kernel_rfl)) h3 bel hlt3) (trodAll_cons_mk (Below.trod lnk.laid (by kernel_rfl) (of_decide_eq_true (by kernel_rfl)) h4 bel hlt4) (trodAll_cons_mk (Below.trod lnk.laid (by kernel_rfl) (of_decide_eq_true (by kernel_rfl)) h5 bel hlt5) (trodAll_cons_mk (Below.trod lnk.laid (by kernel_rfl) (of_decide_eq_true (by kernel_rfl)) h6 bel hlt6) (trodAll_cons_mk (Below.trod lnk.laid (by kernel_rfl) (of_decide_eq_true (by kernel_rfl)) h7 bel hlt7) trodAll_mk0)))))))), rfl, bel.frame _, fun h => by cases h⟩
theorem over : Rows.healthTellsRow.holds Try.pinned (OpenSpec.ofChange Rows.healthTellsSpec) :=
  OpenClaim.holds_of_wide 4 Try.f4 rfl rfl rfl rfl rfl rfl rfl ⟨rfl, rfl, rfl, rfl, rfl⟩ rfl rfl rfl rfl rfl (by kernel_rfl) Try.func4 (by kernel_rfl)
    (of_decide_eq_true (by kernel_rfl)) (by unfold Func.isWrapper; first | (rw [if_pos (by decide +kernel)]; kernel_rfl) | (rw [if_neg (by decide +kernel)]; exact ⟨rfl, rfl⟩))
    (fun os started H enc _ => lifted os started H enc)
end Go.Proofs.Ytnnlhkcpegpfcaa.healthTells
namespace Go.Proofs.Ytnnlhkcpegpfcaa
/-- The row, under a short name, for the claim. -/
theorem healthTells_holds : Rows.HealthTellsSaid := healthTells.over
end Go.Proofs.Ytnnlhkcpegpfcaa
