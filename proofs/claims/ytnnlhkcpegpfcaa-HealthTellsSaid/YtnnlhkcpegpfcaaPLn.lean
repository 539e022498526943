/- Contracts of the functions that the statement reaches. No condition. -/
import Derived.Test.YtnnlhkcpegpfcaaPLm
import Derived.Test.YtnnlhkcpegpfcaaPLk
import Derived.Test.YtnnlhkcpegpfcaaGMc
set_option linter.all false
set_option maxRecDepth 10000
namespace Go.AM.PL
end Go.AM.PL
namespace Go.AM.PL
end Go.AM.PL
set_option linter.all false
set_option maxRecDepth 10000
namespace Go.AM.PL
/-! what is turned about step by step -/
end Go.AM.PL
namespace Go.AM.PL
end Go.AM.PL
namespace Go.AM.PL
end Go.AM.PL
namespace Go.AM.PL
end Go.AM.PL
set_option linter.all false
set_option maxRecDepth 10000
namespace Go.AM.PL
structure Ch where
 fr : Int
 to : Int
 q : Bool
 cap : Int
 max : Int
 late : Int
 deriving DecidableEq
theorem gd17 {α : Type} {l : List α} {i : Nat} (d : α) (h : i < l.length) : l[i]? = some (l.getD i d) := by
 rw [List.getD_eq_getElem?_getD, List.getElem?_eq_getElem h]; rfl
def isC (C : List Ch) (i : Int) : Prop := 0 ≤ i ∧ i < (C.length : Int)
instance (C : List Ch) (i : Int) : Decidable (isC C i) := by unfold isC; infer_instance
end Go.AM.PL
namespace Go.AM.PL
section
variable {C : List Ch} {S : List (List Int)} {q : Nat} {n : Int}
end
end Go.AM.PL
namespace Go.AM.PL
end Go.AM.PL
set_option linter.all false
set_option maxRecDepth 10000
namespace Go.AM.PL
/-! two rows of rows, one by one -/
end Go.AM.PL
namespace Go.AM.PL
end Go.AM.PL
set_option linter.all false
set_option maxRecDepth 10000
namespace Go.AM.PL
/-! frames round: whose each tick is -/
abbrev Sp := Int × Int
def Rising (a e : Int) : List Sp → Prop
 | [] => a ≤ e
 | s :: b => a ≤ s.1 ∧ s.1 < s.2 ∧ Rising s.2 e b
theorem Rising.le {e : Int} : ∀ {b : List Sp} {a a' : Int}, Rising a e b → a' ≤ a → Rising a' e b
 | [], _, _, h, k => Int.le_trans k h
 | _ :: _, _, _, h, k => ⟨Int.le_trans k h.1, h.2⟩
theorem Rising.ae {e : Int} : ∀ {b : List Sp} {a : Int}, Rising a e b → a ≤ e
 | [], _, h => h
 | s :: b, a, h => by have := Rising.ae h.2.2; have := h.1; have := h.2.1; omega
theorem Rising.mem {e : Int} : ∀ {b : List Sp} {a : Int}, Rising a e b → ∀ s ∈ b, a ≤ s.1 ∧ s.1 < s.2 ∧ s.2 ≤ e
 | [], _, _, _, h => by cases h
 | s :: b, a, h, x, hx => by
   rcases List.mem_cons.1 hx with rfl | hx
   ·exact ⟨h.1, h.2.1, h.2.2.ae⟩
   ·have := Rising.mem h.2.2 x hx; have := h.1; have := h.2.1; omega
/-! the next tick -/
/-! lateness -/
structure IsLate (P Q : Int → Prop) (v : Int) : Prop where
 up : ∀ t, P t → ∃ d, 1 ≤ d ∧ d ≤ v ∧ Q (t + d)
 at_ : ∃ t, P t ∧ ∀ d, 1 ≤ d → d < v → ¬ Q (t + d)
theorem IsLate.shift {P Q P' Q' : Int → Prop} {v c : Int} (h : IsLate P Q v) (hP : ∀ t, P' t ↔ P (t + c)) (hQ : ∀ t, Q' t ↔ Q (t + c)) : IsLate P' Q' v where
 up := fun t ht => by
  obtain ⟨d, a1, a2, a3⟩ := h.up _ ((hP t).1 ht)
  exact ⟨d, a1, a2, (hQ _).2 (by rw [show t + d + c = t + c + d by omega]; exact a3)⟩
 at_ := by
  obtain ⟨t, h1, h2⟩ := h.at_
  exact ⟨t - c, (hP _).2 (by rw [Int.sub_add_cancel]; exact h1), fun d a b k => h2 d a b (by have := (hQ _).1 k; rwa [show t - c + d + c = t + d by omega] at this)⟩
end Go.AM.PL
set_option linter.all false
set_option maxRecDepth 10000
namespace Go.AM.PL
/-! ticks -/
def cnt (b : List Sp) : Int := b.foldl (fun n s => n + (s.2 - s.1)) 0
/-! a frame twice; a frame that begins later -/
/-! gaps -/
def spD (b : List Sp) (i : Nat) : Sp := b.getD i (0, 0)
theorem Rising.spD {e : Int} : ∀ {b : List Sp} {a : Int}, Rising a e b → ∀ i, i + 1 < b.length → (spD b i).2 ≤ (PL.spD b (i + 1)).1
 | [], _, _, i, h => by simp at h
 | [s], _, _, i, h => by simp at h
 | s :: s' :: b, a, h, 0, _ => h.2.2.1
 | s :: s' :: b, a, h, i + 1, hi => Rising.spD h.2.2 i (by simp only [List.length_cons] at hi ⊢; omega)
theorem spD_mem {b : List Sp} {i : Nat} (h : i < b.length) : spD b i ∈ b := by
 unfold spD; rw [List.getD_eq_getElem?_getD, List.getElem?_eq_getElem h]; exact List.getElem_mem h
theorem Rising.mono {e : Int} {b : List Sp} {a : Int} (h : Rising a e b) : ∀ i j, i < j → j < b.length → (PL.spD b i).2 ≤ (PL.spD b j).1 := fun i j hij hj => by
 obtain ⟨d, rfl⟩ : ∃ d, j = i + 1 + d := ⟨j - i - 1, by omega⟩
 clear hij
 induction d with
 | zero => exact h.spD i (by omega)
 | succ d ih =>
   have ih := ih (by omega)
   have h1 := h.spD (i + 1 + d) (by omega)
   have h2 := h.mem (PL.spD b (i + 1 + d)) (spD_mem (by omega))
   rw [show i + 1 + (d + 1) = i + 1 + d + 1 by omega]
   omega
end Go.AM.PL
