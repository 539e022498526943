/- Of any actions, any kinds: the statement HealthHalts returns true, and its arguments read as before. No condition. -/
import Derived.Test.YtnnlhkcpegpfcaaRows
import Derived.Test.YtnnlhkcpegpfcaaRW3
import Derived.Test.YtnnlhkcpegpfcaaL18b
import Derived.WalkKit
import Derived.ProofKit
import Derived.OpenShut
import Derived.ShutString
import Derived.ChangeOld
import Derived.Below
import Derived.SizedLaws
import Derived.Carry
namespace Go.Proofs.Ytnnlhkcpegpfcaa.healthHalts
open Go.ChangeShapes Go.WideShapes Go.ChangeAt Go.RowKit Go.AM
set_option linter.all false
theorem own : ownKnob Try.prog.godebug = none := by kernel_rfl
theorem laid : laidOutB Try.prog = true := by kernel_rfl
def funs : List (Nat × AFunc) := [(5, L18.af5), (7, L18.af7), (8, L18.af8), (9, L18.af9), (10, L18.af10), (11, L18.af11), (12, L18.af12), (13, L18.af13), (14, L18.af14)]
theorem link : LinkL Try.prog funs := (.cons (by kernel_rfl) (by kernel_rfl) (.cons (by kernel_rfl) (by kernel_rfl) (.cons (by kernel_rfl) (by kernel_rfl) (.cons (by kernel_rfl) (by kernel_rfl) (.cons (by kernel_rfl) (by kernel_rfl) (.cons (by kernel_rfl) (by kernel_rfl) (.cons (by kernel_rfl) (by kernel_rfl) (.cons (by kernel_rfl) (by kernel_rfl) (.cons (by kernel_rfl) (by kernel_rfl) .nil)))))))))
theorem linked : Linked Try.prog (mkA funs) := link.linked (by kernel_rfl)
theorem known : WpCallG (mkA funs) 7 [] [] (fun v H => v = .v (.bool true) ∧ H = []) := L18.known_ok rfl rfl rfl rfl rfl rfl rfl rfl
theorem five (l : List Int) (h : l.length = 5) : ∃ a b c d e, l = [a, b, c, d, e] := by
  match l, h with
  | [a, b, c, d, e], _ => exact ⟨a, b, c, d, e, rfl⟩

set_option maxRecDepth 100000 in
theorem lifted (os : Os) (started : os.Started) (H : Type) (enc : TypeId × Value → H) :
    ReturnsInHanded {} Try.checked os 5 .any (Rows.healthHaltsSpec.pre6 enc Try.prog Try.f5 Rows.healthHaltsRow.domain false) (Rows.healthHaltsSpec.post enc Try.prog Try.f5 false true false false) := by
  refine returnsInHanded_of_change_sized (C := Try.checked) own started (by kernel_rfl) Try.func5
    (ChangeSpec.witness6 (enc := enc) (C := Try.checked) false ⟨#[], #[.agg #[.int .i64 0, .int .i64 0, .int .i64 0, .int .i64 0, .int .i64 0], .slice none 0 0], []⟩ 8 (by kernel_rfl) (by kernel_rfl) (by kernel_rfl) (by kernel_rfl)) ?_
  intro W base args ds gs before hval0 hW hcnd hsz0 _
  have hsz : (DataW.weightsEach Try.prog (Try.f5.params.toList ++ Rows.healthHaltsSpec.plain.varTypes Try.prog) (ds ++ gs)).all (· ≤ reachBytes) = true := hsz0
  have hval : ∀ (j : Nat) t v, Try.f5.params[j]? = some t → args[j]? = some v → Value.okWide Try.prog W .any base t v := hval0
  have hW' := hW
  obtain ⟨p, q, hA0, hV, rfl, hfz, hnd⟩ := hW
  have hA : DataW.TrodAll enc Try.prog W 0 (fun _ => true) true Try.f5.params.toList args.toList ds p := hA0
  rw [Try.params5] at hA hval hsz
  obtain ⟨v0, vs0, d0, ds0, p0, q0, hargs, rfl, rfl, h0, r0⟩ := trodAll_cons hA
  obtain ⟨v1, vs1, d1, ds1, p1, q1, rfl, rfl, rfl, h1, r1⟩ := trodAll_cons r0
  obtain ⟨rfl, rfl, rfl⟩ := trodAll_nil r1
  obtain rfl : args = #[v0, v1] := by cases args; simp_all
  obtain ⟨rfl, rfl⟩ := trodVars_none hV
  obtain ⟨hh, h_hh, rep0⟩ := (RC.agg (RC.array Try.underlying22 (by kernel_rfl) (RC.int Try.underlying3 (by kernel_rfl))) (by kernel_rfl)) (hval 0 22 v0 rfl rfl) h0 (fine_each hsz (j := 0) rfl rfl)
  have hlt0 : ∀ x ∈ p0, x.block < W.heap.size := fun x hx => hW'.lt x (by simp; exact .inl hx)
  obtain ⟨ks, h_ks, rep1⟩ := (RC.one (RC.slice Try.underlying24 (by kernel_rfl) (RC.int Try.underlying3 (by kernel_rfl)) (by decide)) (by kernel_rfl)) (hval 1 24 v1 rfl rfl) h1 (fine_each hsz (j := 1) rfl rfl)
  have hlt1 : ∀ x ∈ p1, x.block < W.heap.size := fun x hx => hW'.lt x (by simp; exact .inr (hx))
  obtain ⟨a0, a1, a2, a3, a4, rfl⟩ := five hh h_hh.1
  refine (entry linked (f := 5) (L18.healthHalts_ok rfl known rfl rfl rfl rfl rfl rfl rfl a0 a1 a2 a3 a4 ks) (W := W) (args := #[v0, v1]) rfl ?_).mono fun e W' ⟨he, bel⟩ => ?_
  · intro i g x e1 e2
    match i, e1, e2 with
    | 0, e1, e2 => cases e1; simp at e2; subst e2; exact rep0
    | 1, e1, e2 => cases e1; simp at e2; subst e2; exact rep1
    | i + 2, e1, e2 => simp at e1
  subst he
  exact ⟨_, rfl, _, _, _, [], _, [], hW', trodAll_mk1 (shut_bool (by kernel_rfl) _), (trodAll_cons_mk (Below.trod laid (by kernel_rfl) (of_decide_eq_true (by kernel_rfl)) h0 bel hlt0) (trodAll_cons_mk (Below.trod laid (by kernel_rfl) (of_decide_eq_true (by kernel_rfl)) h1 bel hlt1) trodAll_mk0)), rfl, bel.frame _, fun h => by cases h⟩
theorem over : Rows.healthHaltsRow.holds Try.pinned (OpenSpec.ofChange Rows.healthHaltsSpec) :=
  OpenClaim.holds_of_wide 5 Try.f5 rfl rfl rfl rfl rfl rfl rfl ⟨rfl, rfl, rfl, rfl, rfl⟩ rfl rfl rfl rfl rfl (by kernel_rfl) Try.func5 (by kernel_rfl)
    (of_decide_eq_true (by kernel_rfl)) (by unfold Func.isWrapper; first | (rw [if_pos (by decide +kernel)]; kernel_rfl) | (rw [if_neg (by decide +kernel)]; exact ⟨rfl, rfl⟩))
    (fun os started H enc _ => lifted os started H enc)
end Go.Proofs.Ytnnlhkcpegpfcaa.healthHalts
namespace Go.Proofs.Ytnnlhkcpegpfcaa
/-- The row, under a short name, for the claim. -/
theorem healthHalts_holds : Rows.HealthHaltsSaid := healthHalts.over
end Go.Proofs.Ytnnlhkcpegpfcaa
