/- From the memory of a call to the machine: the frame of a row. No condition. -/
import Derived.Test.YtkohanehgndmhaaRW2
import GoSem.Claim
import GoSem.ClaimJoined
import Derived.ProofKit
import Derived.ShutString
import Derived.ChangeOld
import Derived.SizedLaws
import Derived.Carry
set_option linter.all false
namespace Go.AM
open Go.RowKit
/-! ## The frame of a row -/
def okFn (P : Program) (f : Nat) : Bool := match P.funcs[f]? with
  | some fn => !(fn.name == "runtime.NumGoroutine") && fn.body.isSome
  | none => false
theorem enter_ok {P : Program} {f : Nat} (h : okFn P f = true) (args : Array Value) (w : World) : (callFunc f args).run P w = .ok (.enter f args) w := by
  unfold okFn at h
  split at h
  · rename_i fn hf
    rw [Bool.and_eq_true, Bool.not_eq_true'] at h
    obtain ⟨h1, h2⟩ := h
    have h3 : fn.body.isNone = false := by cases hb : fn.body <;> simp_all
    unfold callFunc
    simp only [Sem.run_bind, run_program, Result.andThen, hf, h1, h3, Bool.false_eq_true, if_false]
    rfl
  · cases h
def mkA : List (Nat × AFunc) → AProg
  | [] => .e
  | p :: r => (mkA r).set p.1 (some p.2)
theorem mkA_mem : ∀ {l : List (Nat × AFunc)} {f : Nat} {af : AFunc}, (mkA l).get f = some af → (f, af) ∈ l
  | [], f, af, h => by simp [mkA, T.get_e] at h
  | p :: r, f, af, h => by
    rw [mkA, T.get_set] at h
    split at h
    · rename_i c; cases h; subst c; exact List.mem_cons_self
    · exact List.mem_cons_of_mem _ (mkA_mem h)
theorem mkA_get : ∀ {l : List (Nat × AFunc)} {f : Nat} {af : AFunc}, lkP l f = some af → (mkA l).get f = some af
  | [], f, af, h => by cases h
  | p :: r, f, af, h => by
    rw [lkP_cons] at h
    rw [mkA, T.get_set]
    split at h
    · rename_i c; rw [if_pos c.symm]; exact h
    · rename_i c; rw [if_neg (fun e => c e.symm)]; exact mkA_get h
inductive LinkL (P : Program) : List (Nat × AFunc) → Prop where
  | nil : LinkL P []
  | cons {f : Nat} {af : AFunc} {l : List (Nat × AFunc)} (h : cFunc P f = some af) (k : okFn P f = true) (r : LinkL P l) : LinkL P ((f, af) :: l)
theorem LinkL.at {P : Program} {l : List (Nat × AFunc)} (h : LinkL P l) {f : Nat} {af : AFunc} (m : (f, af) ∈ l) : cFunc P f = some af ∧ okFn P f = true := by
  induction h with
  | nil => cases m
  | cons h k _ ih =>
    rcases List.mem_cons.1 m with e | e
    · cases e; exact ⟨h, k⟩
    · exact ih e
theorem LinkL.linked {P : Program} {l : List (Nat × AFunc)} (h : LinkL P l) (hm : P.follows .mixedOrders = true) : Linked P (mkA l) :=
  ⟨hm, fun f af e => ⟨(h.at (mkA_mem e)).1, fun args w => enter_ok (h.at (mkA_mem e)).2 args w⟩⟩
/-! arguments -/
section
variable {M : Nat} {P : Program} {W : World}
def RA (M : Nat) (P : Program) (W : World) {α : Type} (t : TypeId) (g : α → GV) (ok : α → Prop) : Prop :=
  ∀ {H : Type} {en : TypeId × Value → H} {v : Value} {d : DataW H} {ps : List MemPlace} {r : Reach} {b0 : Nat}, Value.okWide P W r b0 t v → DataW.Trod en P W 0 (fun _ => true) true t v d ps → Fine M P t d → ∃ x, ok x ∧ RepV W v (g x)
def oneTy (P : Program) (t : TypeId) : Bool := match P.underlying t with
  | some .bool | some (.int _) | some .string | some (.slice _) => true
  | _ => false
theorem RC.one {α : Type} {t : TypeId} {g : α → GV} {ok : α → Prop} (h : RC M P W t 1 (fun x => [g x]) ok) (ht : oneTy P t = true) : RA M P W t g ok := by
  intro H en v d ps r b0 hval hd hf
  obtain ⟨fuel, hd⟩ := hd
  have hc : Cell.okWide P W r b0 t v := by
    unfold Value.okWide at hval
    unfold oneTy at ht
    split at hval
    · rename_i e; rw [e] at ht; cases ht
    · rename_i e; rw [e] at ht; cases ht
    · exact hval
  have hone : v.oneCell' = true := by
    cases v with
    | agg xs => exfalso; unfold oneTy at ht; unfold Cell.okWide at hc; split at hc <;> first | (rename_i e _; rw [e] at ht; cases ht) | (unfold Cell.ok at hc; split at hc <;> first | exact hc | (rename_i e; cases e) | skip) | skip
    | tuple xs => exfalso; unfold oneTy at ht; unfold Cell.okWide at hc; split at hc <;> first | (rename_i e _; rw [e] at ht; cases ht) | (unfold Cell.ok at hc; split at hc <;> first | exact hc | (rename_i e; cases e) | skip) | skip
    | _ => rfl
  have hcs : v.cells.toList = [v] := by cases v <;> first | rfl | cases hone
  rw [hcs] at hd
  obtain ⟨x, x1, _, x3⟩ := h.rd hd hf (fun a ha => by
    rw [List.mem_singleton] at ha
    subst ha
    exact row_of_ok hc)
  exact ⟨x, x1, .one (x3 0 _ _ rfl rfl)⟩
def aggTy (P : Program) (t : TypeId) : Bool := match P.underlying t with
  | some (.struct _) | some (.array _ _) => true
  | _ => false
theorem RC.agg {α : Type} {t : TypeId} {w : Nat} {enc : α → List GV} {ok : α → Prop} (h : RC M P W t w enc ok) (ht : aggTy P t = true) : RA M P W t (fun x => .agg (enc x)) ok := by
  intro H en v d ps r b0 hval hd hf
  obtain ⟨fuel, hd⟩ := hd
  have hc : ∃ cs, v = .agg cs ∧ cs.size = P.cellsOf t ∧ Row.okWide P W r b0 t cs := by
    unfold Value.okWide at hval
    unfold aggTy at ht
    split at hval
    · exact hval
    · exact hval
    · rename_i h1 h2
      split at ht
      · rename_i e; exact absurd e (h1 _)
      · rename_i e; exact absurd e (h2 _ _)
      · cases ht
  obtain ⟨cs, rfl, hsz, ts, _, _, hrow⟩ := hc
  have hcells : (Value.agg cs).cells.toList = cs.toList := rfl
  rw [hcells] at hd
  obtain ⟨x, x1, x2, x3⟩ := h.rd hd hf (fun a ha => by
    obtain ⟨i, hi⟩ := List.getElem?_of_mem ha
    obtain ⟨u, _, hu⟩ := hrow i _ (by simpa using hi)
    exact row_of_ok hu)
  refine ⟨x, x1, .agg ?_ fun i g y e1 e2 => x3 i g y e1 (by simpa using e2)⟩
  rw [h.len x x1, ← x2]; simp
theorem fine_each {H : Type} : ∀ {ts : List TypeId} {ds : List (DataW H)} {j : Nat} {t : TypeId} {d : DataW H}, (DataW.weightsEach P ts ds).all (· ≤ M) = true → ts[j]? = some t → ds[j]? = some d → Fine M P t d
  | [], ds, j, t, d, _, h, _ => by cases j <;> cases h
  | t0 :: ts, [], j, t, d, _, _, h => by cases j <;> cases h
  | t0 :: ts, d0 :: ds, 0, t, d, h, h1, h2 => by
    cases h1; cases h2
    intro n hn
    rw [DataW.weightsEach, List.all_append, Bool.and_eq_true] at h
    have := List.all_eq_true.1 h.1 n hn
    simpa using this
  | t0 :: ts, d0 :: ds, j + 1, t, d, h, h1, h2 => by
    rw [DataW.weightsEach, List.all_append, Bool.and_eq_true] at h
    exact fine_each h.2 (by simpa using h1) (by simpa using h2)
end
end Go.AM
