/- Contracts of the functions that the statement reaches. No condition. -/
import Derived.Test.YtnkbbfnloecbcaaPLm
import Derived.Test.YtnkbbfnloecbcaaPLk
import Derived.Test.YtnkbbfnloecbcaaGMc
set_option linter.all false
set_option maxRecDepth 10000
namespace Go.AM.PL
end Go.AM.PL
namespace Go.AM.PL
end Go.AM.PL
set_option linter.all false
set_option maxRecDepth 10000
namespace Go.AM.PL
/-! what is turned about step by step -/
end Go.AM.PL
namespace Go.AM.PL
def tapeL (c k n : Nat) : List Int := (List.range n).map fun i : Nat => ((i : Int) * i * 7 + (k : Int) * c + (i : Int) * k) % 211
theorem tapeL_snoc {c k i : Nat} : tapeL c k (i + 1) = tapeL c k i ++ [((i : Int) * i * 7 + (k : Int) * c + (i : Int) * k) % 211] := by unfold tapeL; rw [List.range_succ, List.map_append]; rfl
theorem tapeL_len {c k n : Nat} : (tapeL c k n).length = n := by unfold tapeL; simp
theorem tapeL_i64 {c k n : Nat} : ∀ x ∈ tapeL c k n, i64 x := fun x hx => by
 unfold tapeL at hx
 obtain ⟨i, _, rfl⟩ := List.mem_map.1 hx
 unfold i64; omega
theorem mul_le' {a b : Nat} {m n : Int} (h1 : (a : Int) ≤ m) (h2 : (b : Int) ≤ n) : 0 ≤ (a : Int) * b ∧ (a : Int) * b ≤ m * n := by
 have := Int.mul_le_mul h1 h2 (by omega) (by omega)
 have h3 := Int.mul_nonneg (show 0 ≤ (a : Int) by omega) (show 0 ≤ (b : Int) by omega)
 exact ⟨h3, this⟩
end Go.AM.PL
namespace Go.AM.PL
end Go.AM.PL
namespace Go.AM.PL
end Go.AM.PL
set_option linter.all false
set_option maxRecDepth 10000
namespace Go.AM.PL
structure Ch where
 fr : Int
 to : Int
 q : Bool
 cap : Int
 max : Int
 late : Int
 deriving DecidableEq
theorem gd17 {α : Type} {l : List α} {i : Nat} (d : α) (h : i < l.length) : l[i]? = some (l.getD i d) := by
 rw [List.getD_eq_getElem?_getD, List.getElem?_eq_getElem h]; rfl
def isC (C : List Ch) (i : Int) : Prop := 0 ≤ i ∧ i < (C.length : Int)
instance (C : List Ch) (i : Int) : Decidable (isC C i) := by unfold isC; infer_instance
end Go.AM.PL
namespace Go.AM.PL
section
variable {C : List Ch} {S : List (List Int)} {q : Nat} {n : Int}
end
end Go.AM.PL
namespace Go.AM.PL
end Go.AM.PL
set_option linter.all false
set_option maxRecDepth 10000
namespace Go.AM.PL
/-! two rows of rows, one by one -/
end Go.AM.PL
namespace Go.AM.PL
end Go.AM.PL
set_option linter.all false
set_option maxRecDepth 10000
namespace Go.AM.PL
/-! frames round: whose each tick is -/
abbrev Sp := Int × Int
def spV (part : Int) : Int → List Rn → List Sp
 | _, [] => []
 | a, r :: l => if r.p = part then (a, a + r.n) :: spV part (a + r.n) l else spV part (a + r.n) l
def wlen (l : List Rn) : Int := ((word l).length : Int)
theorem wlen_cons (r : Rn) (l : List Rn) (h : 0 ≤ r.n) : wlen (r :: l) = r.n + wlen l := by
 unfold wlen; rw [word_cons, List.length_append, List.length_replicate]; omega
def Rising (a e : Int) : List Sp → Prop
 | [] => a ≤ e
 | s :: b => a ≤ s.1 ∧ s.1 < s.2 ∧ Rising s.2 e b
theorem Rising.le {e : Int} : ∀ {b : List Sp} {a a' : Int}, Rising a e b → a' ≤ a → Rising a' e b
 | [], _, _, h, k => Int.le_trans k h
 | _ :: _, _, _, h, k => ⟨Int.le_trans k h.1, h.2⟩
theorem Rising.ae {e : Int} : ∀ {b : List Sp} {a : Int}, Rising a e b → a ≤ e
 | [], _, h => h
 | s :: b, a, h => by have := Rising.ae h.2.2; have := h.1; have := h.2.1; omega
theorem Rising.mem {e : Int} : ∀ {b : List Sp} {a : Int}, Rising a e b → ∀ s ∈ b, a ≤ s.1 ∧ s.1 < s.2 ∧ s.2 ≤ e
 | [], _, _, _, h => by cases h
 | s :: b, a, h, x, hx => by
   rcases List.mem_cons.1 hx with rfl | hx
   ·exact ⟨h.1, h.2.1, h.2.2.ae⟩
   ·have := Rising.mem h.2.2 x hx; have := h.1; have := h.2.1; omega
theorem sp_rising (part : Int) : ∀ (l : List Rn) (a : Int), (∀ r ∈ l, 1 ≤ r.n) → Rising a (a + wlen l) (spV part a l)
 | [], a, _ => by show a ≤ a + wlen []; unfold wlen word; simp
 | r :: l, a, hl => by
   have hr := hl r (List.mem_cons_self ..)
   have ih := sp_rising part l (a + r.n) (fun x hx => hl x (List.mem_cons_of_mem _ hx))
   rw [wlen_cons r l (by omega), show a + (r.n + wlen l) = a + r.n + wlen l by omega, spV]
   split
   ·exact ⟨Int.le_refl _, by show a < a + r.n; omega, ih⟩
   ·exact ih.le (by omega)
/-! the next tick -/
/-! lateness -/
structure IsLate (P Q : Int → Prop) (v : Int) : Prop where
 up : ∀ t, P t → ∃ d, 1 ≤ d ∧ d ≤ v ∧ Q (t + d)
 at_ : ∃ t, P t ∧ ∀ d, 1 ≤ d → d < v → ¬ Q (t + d)
theorem IsLate.shift {P Q P' Q' : Int → Prop} {v c : Int} (h : IsLate P Q v) (hP : ∀ t, P' t ↔ P (t + c)) (hQ : ∀ t, Q' t ↔ Q (t + c)) : IsLate P' Q' v where
 up := fun t ht => by
  obtain ⟨d, a1, a2, a3⟩ := h.up _ ((hP t).1 ht)
  exact ⟨d, a1, a2, (hQ _).2 (by rw [show t + d + c = t + c + d by omega]; exact a3)⟩
 at_ := by
  obtain ⟨t, h1, h2⟩ := h.at_
  exact ⟨t - c, (hP _).2 (by rw [Int.sub_add_cancel]; exact h1), fun d a b k => h2 d a b (by have := (hQ _).1 k; rwa [show t - c + d + c = t + d by omega] at this)⟩
end Go.AM.PL
set_option linter.all false
set_option maxRecDepth 10000
namespace Go.AM.PL
/-! ticks -/
def cnt (b : List Sp) : Int := b.foldl (fun n s => n + (s.2 - s.1)) 0
theorem cnt_from (b : List Sp) : ∀ m, b.foldl (fun n s => n + (s.2 - s.1)) m = m + cnt b := by
 induction b with
 | nil => intro m; show m = m + 0; omega
 | cons s b ih => intro m; unfold cnt; rw [List.foldl_cons, List.foldl_cons, ih, ih (0 + _)]; omega
theorem cnt_app (a b : List Sp) : cnt (a ++ b) = cnt a + cnt b := by unfold cnt; rw [List.foldl_append, cnt_from b]; rfl
theorem cnt_cons (s : Sp) (b : List Sp) : cnt (s :: b) = (s.2 - s.1) + cnt b := by unfold cnt; rw [List.foldl_cons, cnt_from]; unfold cnt; omega
theorem cnt_rng {a e : Int} : ∀ {b : List Sp} {a : Int}, Rising a e b → 0 ≤ cnt b ∧ cnt b ≤ e - a ∧ (cnt b = 0 → b = [])
 | [], a, h => ⟨Int.le_refl _, by have : a ≤ e := h; show (0 : Int) ≤ _; omega, fun _ => rfl⟩
 | s :: b, a, h => by
   have ih := cnt_rng (a := a) h.2.2
   have := h.1; have := h.2.1
   rw [cnt_cons]
   exact ⟨by omega, by omega, fun h => by omega⟩
/-! a frame twice; a frame that begins later -/
/-! gaps -/
def spD (b : List Sp) (i : Nat) : Sp := b.getD i (0, 0)
theorem Rising.spD {e : Int} : ∀ {b : List Sp} {a : Int}, Rising a e b → ∀ i, i + 1 < b.length → (spD b i).2 ≤ (PL.spD b (i + 1)).1
 | [], _, _, i, h => by simp at h
 | [s], _, _, i, h => by simp at h
 | s :: s' :: b, a, h, 0, _ => h.2.2.1
 | s :: s' :: b, a, h, i + 1, hi => Rising.spD h.2.2 i (by simp only [List.length_cons] at hi ⊢; omega)
theorem spD_mem {b : List Sp} {i : Nat} (h : i < b.length) : spD b i ∈ b := by
 unfold spD; rw [List.getD_eq_getElem?_getD, List.getElem?_eq_getElem h]; exact List.getElem_mem h
theorem Rising.mono {e : Int} {b : List Sp} {a : Int} (h : Rising a e b) : ∀ i j, i < j → j < b.length → (PL.spD b i).2 ≤ (PL.spD b j).1 := fun i j hij hj => by
 obtain ⟨d, rfl⟩ : ∃ d, j = i + 1 + d := ⟨j - i - 1, by omega⟩
 clear hij
 induction d with
 | zero => exact h.spD i (by omega)
 | succ d ih =>
   have ih := ih (by omega)
   have h1 := h.spD (i + 1 + d) (by omega)
   have h2 := h.mem (PL.spD b (i + 1 + d)) (spD_mem (by omega))
   rw [show i + 1 + (d + 1) = i + 1 + d + 1 by omega]
   omega
end Go.AM.PL
