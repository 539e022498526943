/- Of any instructions, any place: the statement IsaBack returns true, and its arguments read as before. No condition. -/
import Derived.Test.YtldhombnpjcgoaaRows
import Derived.Test.YtldhombnpjcgoaaRW3
import Derived.Test.YtldhombnpjcgoaaL15b
import Derived.WalkKit
import Derived.ProofKit
import Derived.OpenShut
import Derived.ShutString
import Derived.ChangeOld
import Derived.Below
import Derived.SizedLaws
import Derived.Carry
namespace Go.Proofs.Ytldhombnpjcgoaa.isaBack
open Go.ChangeShapes Go.WideShapes Go.ChangeAt Go.RowKit Go.AM
set_option linter.all false
theorem own : ownKnob Try.prog.godebug = none := by kernel_rfl
theorem laid : laidOutB Try.prog = true := by kernel_rfl
def funs : List (Nat × AFunc) := [(5, L15.af5), (9, L15.af9), (11, L15.af11), (12, L15.af12), (13, L15.af13), (14, L15.af14), (15, L15.af15), (19, L15.af19), (20, L15.af20)]
theorem link : LinkL Try.prog funs := (.cons (by kernel_rfl) (by kernel_rfl) (.cons (by kernel_rfl) (by kernel_rfl) (.cons (by kernel_rfl) (by kernel_rfl) (.cons (by kernel_rfl) (by kernel_rfl) (.cons (by kernel_rfl) (by kernel_rfl) (.cons (by kernel_rfl) (by kernel_rfl) (.cons (by kernel_rfl) (by kernel_rfl) (.cons (by kernel_rfl) (by kernel_rfl) (.cons (by kernel_rfl) (by kernel_rfl) .nil)))))))))
theorem linked : Linked Try.prog (mkA funs) := link.linked (by kernel_rfl)
theorem rcIns (W : World) : RC Try.prog W 26 4 L15.encI (fun x => True) :=
  (RC.struct Try.underlying26 (by kernel_rfl) (.cons rfl (RC.int Try.underlying3 (by kernel_rfl)) rfl (.cons rfl (RC.int Try.underlying3 (by kernel_rfl)) rfl (.cons rfl (RC.int Try.underlying3 (by kernel_rfl)) rfl (.cons rfl (RC.int Try.underlying3 (by kernel_rfl)) rfl .nil))))).map
    (fun x => ⟨x.1, x.2.1, x.2.2.1, x.2.2.2.1⟩) (fun x h => ⟨trivial, rfl⟩) (fun _ _ => rfl)
theorem known : WpCallG (mkA funs) 9 [] [] (fun v H => v = .v (.bool true) ∧ H = []) := L15.known_ok rfl rfl rfl rfl rfl rfl rfl rfl

set_option maxRecDepth 100000 in
theorem lifted (os : Os) (started : os.Started) (H : Type) (enc : TypeId × Value → H) :
    ReturnsInHanded {} Try.checked os 5 .any (Rows.isaBackSpec.pre6 enc Try.prog Try.f5 Rows.isaBackRow.domain false) (Rows.isaBackSpec.post enc Try.prog Try.f5 false true false false) := by
  refine returnsInHanded_of_change_sized (C := Try.checked) own started (by kernel_rfl) Try.func5
    (ChangeSpec.witness6 (enc := enc) (C := Try.checked) false ⟨#[], #[.slice none 0 0, .int .i64 0], []⟩ 8 (by kernel_rfl) (by kernel_rfl) (by kernel_rfl) (by kernel_rfl)) ?_
  intro W base args ds gs before hval0 hW hcnd hsz0 _
  have hsz : (DataW.weightsEach Try.prog (Try.f5.params.toList ++ Rows.isaBackSpec.plain.varTypes Try.prog) (ds ++ gs)).all (· ≤ reachBytes) = true := hsz0
  have hval : ∀ (j : Nat) t v, Try.f5.params[j]? = some t → args[j]? = some v → Value.okWide Try.prog W .any base t v := hval0
  have hW' := hW
  obtain ⟨p, q, hA0, hV, rfl, hfz, hnd⟩ := hW
  have hA : DataW.TrodAll enc Try.prog W 0 (fun _ => true) true Try.f5.params.toList args.toList ds p := hA0
  rw [Try.params5] at hA hval hsz
  obtain ⟨v0, vs0, d0, ds0, p0, q0, hargs, rfl, rfl, h0, r0⟩ := trodAll_cons hA
  obtain ⟨v1, vs1, d1, ds1, p1, q1, rfl, rfl, rfl, h1, r1⟩ := trodAll_cons r0
  obtain ⟨rfl, rfl, rfl⟩ := trodAll_nil r1
  obtain rfl : args = #[v0, v1] := by cases args; simp_all
  obtain ⟨rfl, rfl⟩ := trodVars_none hV
  obtain ⟨l, h_l, rep0⟩ := (RC.one (RC.slice Try.underlying30 (by kernel_rfl) (rcIns W) (by decide)) (by kernel_rfl)) (hval 0 30 v0 rfl rfl) h0 (fine_each hsz (j := 0) rfl rfl)
  have hlt0 : ∀ x ∈ p0, x.block < W.heap.size := fun x hx => hW'.lt x (by simp; exact .inl hx)
  obtain ⟨pc, h_pc, rep1⟩ := (RC.one (RC.int Try.underlying3 (by kernel_rfl)) (by kernel_rfl)) (hval 1 3 v1 rfl rfl) h1 (fine_each hsz (j := 1) rfl rfl)
  have hlt1 : ∀ x ∈ p1, x.block < W.heap.size := fun x hx => hW'.lt x (by simp; exact .inr (hx))
  refine (entry linked (f := 5) (L15.isaBack_ok rfl known rfl rfl l pc (by have h := h_l.2; rw [show Try.prog.bytesOf 26 = 32 by kernel_rfl] at h; unfold reachBytes at h; omega)) (W := W) (args := #[v0, v1]) rfl ?_).mono fun e W' ⟨he, bel⟩ => ?_
  · intro i g x e1 e2
    match i, e1, e2 with
    | 0, e1, e2 => cases e1; simp at e2; subst e2; exact rep0
    | 1, e1, e2 => cases e1; simp at e2; subst e2; exact rep1
    | i + 2, e1, e2 => simp at e1
  subst he
  exact ⟨_, rfl, _, _, _, [], _, [], hW', trodAll_mk1 (shut_bool (by kernel_rfl) _), (trodAll_cons_mk (Below.trod laid (by kernel_rfl) (of_decide_eq_true (by kernel_rfl)) h0 bel hlt0) (trodAll_cons_mk (Below.trod laid (by kernel_rfl) (of_decide_eq_true (by kernel_rfl)) h1 bel hlt1) trodAll_mk0)), rfl, bel.frame _, fun h => by cases h⟩
theorem over : Rows.isaBackRow.holds Try.pinned (OpenSpec.ofChange Rows.isaBackSpec) :=
  OpenClaim.holds_of_wide 5 Try.f5 rfl rfl rfl rfl rfl rfl rfl ⟨rfl, rfl, rfl, rfl, rfl⟩ rfl rfl rfl rfl rfl (by kernel_rfl) Try.func5 (by kernel_rfl)
    (of_decide_eq_true (by kernel_rfl)) (by unfold Func.isWrapper; first | (rw [if_pos (by decide +kernel)]; kernel_rfl) | (rw [if_neg (by decide +kernel)]; exact ⟨rfl, rfl⟩))
    (fun os started H enc _ => lifted os started H enc)
end Go.Proofs.Ytldhombnpjcgoaa.isaBack
namespace Go.Proofs.Ytldhombnpjcgoaa
/-- The row, under a short name, for the claim. -/
theorem isaBack_holds : Rows.IsaBackSaid := isaBack.over
end Go.Proofs.Ytldhombnpjcgoaa
