/- Of any bytes, any numbers: the statement IsaTells returns true, and its arguments read as before. No condition. -/
import Derived.Test.YtldhombnpjcgoaaRows
import Derived.Test.YtldhombnpjcgoaaRW3
import Derived.Test.YtldhombnpjcgoaaL15c
import Derived.WalkKit
import Derived.ProofKit
import Derived.OpenShut
import Derived.ShutString
import Derived.ChangeOld
import Derived.Below
import Derived.SizedLaws
import Derived.Carry
namespace Go.Proofs.Ytldhombnpjcgoaa.isaTells
open Go.ChangeShapes Go.WideShapes Go.ChangeAt Go.RowKit Go.AM
set_option linter.all false
theorem own : ownKnob Try.prog.godebug = none := by kernel_rfl
theorem laid : laidOutB Try.prog = true := by kernel_rfl
def funs : List (Nat × AFunc) := [(4, L15.af4), (8, L15.af8), (9, L15.af9), (10, L15.af10), (11, L15.af11), (12, L15.af12), (13, L15.af13), (14, L15.af14), (15, L15.af15), (16, L15.af16), (17, L15.af17), (18, L15.af18), (19, L15.af19), (20, L15.af20), (21, L15.af21)]
theorem link : LinkL Try.prog funs := (.cons (by kernel_rfl) (by kernel_rfl) (.cons (by kernel_rfl) (by kernel_rfl) (.cons (by kernel_rfl) (by kernel_rfl) (.cons (by kernel_rfl) (by kernel_rfl) (.cons (by kernel_rfl) (by kernel_rfl) (.cons (by kernel_rfl) (by kernel_rfl) (.cons (by kernel_rfl) (by kernel_rfl) (.cons (by kernel_rfl) (by kernel_rfl) (.cons (by kernel_rfl) (by kernel_rfl) (.cons (by kernel_rfl) (by kernel_rfl) (.cons (by kernel_rfl) (by kernel_rfl) (.cons (by kernel_rfl) (by kernel_rfl) (.cons (by kernel_rfl) (by kernel_rfl) (.cons (by kernel_rfl) (by kernel_rfl) (.cons (by kernel_rfl) (by kernel_rfl) .nil)))))))))))))))
theorem linked : Linked Try.prog (mkA funs) := link.linked (by kernel_rfl)
theorem rcIns (W : World) : RC Try.prog W 26 4 L15.encI (fun x => True) :=
  (RC.struct Try.underlying26 (by kernel_rfl) (.cons rfl (RC.int Try.underlying3 (by kernel_rfl)) rfl (.cons rfl (RC.int Try.underlying3 (by kernel_rfl)) rfl (.cons rfl (RC.int Try.underlying3 (by kernel_rfl)) rfl (.cons rfl (RC.int Try.underlying3 (by kernel_rfl)) rfl .nil))))).map
    (fun x => ⟨x.1, x.2.1, x.2.2.1, x.2.2.2.1⟩) (fun x h => ⟨trivial, rfl⟩) (fun _ _ => rfl)
theorem known : WpCallG (mkA funs) 9 [] [] (fun v H => v = .v (.bool true) ∧ H = []) := L15.known_ok rfl rfl rfl rfl rfl rfl rfl rfl
theorem pc64 {n : Int} (h : (Lit.int .i64 n).wf = true) : L15.i64 n := by
  unfold L15.i64
  unfold Lit.wf at h
  simp only [Bool.and_eq_true, decide_eq_true_eq] at h
  rw [show IntKind.i64.min = -9223372036854775808 by decide, show IntKind.i64.max = 9223372036854775807 by decide] at h
  omega

set_option maxRecDepth 100000 in
theorem lifted (os : Os) (started : os.Started) (H : Type) (enc : TypeId × Value → H) :
    ReturnsInHanded {} Try.checked os 4 .any (Rows.isaTellsSpec.pre6 enc Try.prog Try.f4 Rows.isaTellsRow.domain false) (Rows.isaTellsSpec.post enc Try.prog Try.f4 false true false false) := by
  refine returnsInHanded_of_change_sized (C := Try.checked) own started (by kernel_rfl) Try.func4
    (ChangeSpec.witness6 (enc := enc) (C := Try.checked) false ⟨#[], #[.slice none 0 0, .int .i64 0, .agg #[.int .i64 0, .int .i64 0, .int .i64 0, .int .i64 0]], []⟩ 8 (by kernel_rfl) (by kernel_rfl) (by kernel_rfl) (by kernel_rfl)) ?_
  intro W base args ds gs before hval0 hW hcnd hsz0 _
  have hsz : (DataW.weightsEach Try.prog (Try.f4.params.toList ++ Rows.isaTellsSpec.plain.varTypes Try.prog) (ds ++ gs)).all (· ≤ reachBytes) = true := hsz0
  have hval : ∀ (j : Nat) t v, Try.f4.params[j]? = some t → args[j]? = some v → Value.okWide Try.prog W .any base t v := hval0
  have hW' := hW
  obtain ⟨p, q, hA0, hV, rfl, hfz, hnd⟩ := hW
  have hA : DataW.TrodAll enc Try.prog W 0 (fun _ => true) true Try.f4.params.toList args.toList ds p := hA0
  rw [Try.params4] at hA hval hsz
  obtain ⟨v0, vs0, d0, ds0, p0, q0, hargs, rfl, rfl, h0, r0⟩ := trodAll_cons hA
  obtain ⟨v1, vs1, d1, ds1, p1, q1, rfl, rfl, rfl, h1, r1⟩ := trodAll_cons r0
  obtain ⟨v2, vs2, d2, ds2, p2, q2, rfl, rfl, rfl, h2, r2⟩ := trodAll_cons r1
  obtain ⟨rfl, rfl, rfl⟩ := trodAll_nil r2
  obtain rfl : args = #[v0, v1, v2] := by cases args; simp_all
  obtain ⟨rfl, rfl⟩ := trodVars_none hV
  obtain ⟨p, h_p, rep0⟩ := (RC.one (RC.slice Try.underlying22 (by kernel_rfl) (RC.byte Try.underlying5 (by kernel_rfl)) (by decide)) (by kernel_rfl)) (hval 0 22 v0 rfl rfl) h0 (fine_each hsz (j := 0) rfl rfl)
  have hlt0 : ∀ x ∈ p0, x.block < W.heap.size := fun x hx => hW'.lt x (by simp; exact .inl hx)
  obtain ⟨pc, h_pc, rep1⟩ := (RC.one (RC.int Try.underlying3 (by kernel_rfl)) (by kernel_rfl)) (hval 1 3 v1 rfl rfl) h1 (fine_each hsz (j := 1) rfl rfl)
  have hlt1 : ∀ x ∈ p1, x.block < W.heap.size := fun x hx => hW'.lt x (by simp; exact .inr (.inl hx))
  obtain ⟨x, h_x, rep2⟩ := (RC.agg (rcIns W) (by kernel_rfl)) (hval 2 26 v2 rfl rfl) h2 (fine_each hsz (j := 2) rfl rfl)
  have hlt2 : ∀ x ∈ p2, x.block < W.heap.size := fun x hx => hW'.lt x (by simp; exact .inr (.inr (hx)))
  refine (entry linked (f := 4) (L15.isaTells_ok rfl rfl known rfl rfl rfl rfl rfl rfl rfl rfl rfl rfl rfl rfl p pc x (by have h := h_p.2; rw [show Try.prog.bytesOf 5 = 1 by kernel_rfl] at h; unfold reachBytes at h; omega) (pc64 h_pc)) (W := W) (args := #[v0, v1, v2]) rfl ?_).mono fun e W' ⟨he, bel⟩ => ?_
  · intro i g x e1 e2
    match i, e1, e2 with
    | 0, e1, e2 => cases e1; simp at e2; subst e2; exact rep0
    | 1, e1, e2 => cases e1; simp at e2; subst e2; exact rep1
    | 2, e1, e2 => cases e1; simp at e2; subst e2; exact rep2
    | i + 3, e1, e2 => simp at e1
  subst he
  exact ⟨_, rfl, _, _, _, [], _, [], hW', trodAll_mk1 (shut_bool (by kernel_rfl) _), (trodAll_cons_mk (Below.trod laid (by kernel_rfl) (of_decide_eq_true (by kernel_rfl)) h0 bel hlt0) (trodAll_cons_mk (Below.trod laid (by kernel_rfl) (of_decide_eq_true (by kernel_rfl)) h1 bel hlt1) (trodAll_cons_mk (Below.trod laid (by kernel_rfl) (of_decide_eq_true (by kernel_rfl)) h2 bel hlt2) trodAll_mk0))), rfl, bel.frame _, fun h => by cases h⟩
theorem over : Rows.isaTellsRow.holds Try.pinned (OpenSpec.ofChange Rows.isaTellsSpec) :=
  OpenClaim.holds_of_wide 4 Try.f4 rfl rfl rfl rfl rfl rfl rfl ⟨rfl, rfl, rfl, rfl, rfl⟩ rfl rfl rfl rfl rfl (by kernel_rfl) Try.func4 (by kernel_rfl)
    (of_decide_eq_true (by kernel_rfl)) (by unfold Func.isWrapper; first | (rw [if_pos (by decide +kernel)]; kernel_rfl) | (rw [if_neg (by decide +kernel)]; exact ⟨rfl, rfl⟩))
    (fun os started H enc _ => lifted os started H enc)
end Go.Proofs.Ytldhombnpjcgoaa.isaTells
namespace Go.Proofs.Ytldhombnpjcgoaa
/-- The row, under a short name, for the claim. -/
theorem isaTells_holds : Rows.IsaTellsSaid := isaTells.over
end Go.Proofs.Ytldhombnpjcgoaa
