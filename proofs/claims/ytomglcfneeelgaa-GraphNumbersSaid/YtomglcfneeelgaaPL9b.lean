/- Contracts of the functions that the statement reaches. No condition. -/
import Derived.Test.YtomglcfneeelgaaPL9
import Derived.Test.YtomglcfneeelgaaPL17b
set_option linter.all false
set_option maxRecDepth 10000
namespace Go.AM.PL
def encSp (s : Sp) : List GV := [.v (.int .i64 s.1), .v (.int .i64 s.2)]
theorem wlen_tot {l : List Rn} (h : ∀ r ∈ l, 1 ≤ r.n) : wlen l = tot l := by
  induction l with
  | nil => rfl
  | cons r l ih => rw [wlen_cons r l (by have := h r (List.mem_cons_self ..); omega), ih (fun x hx => h x (List.mem_cons_of_mem _ hx))]; rfl
theorem total_wlen {l : List Rn} (h : ∀ r ∈ l, 1 ≤ r.n) (hw : wlen l < 2 ^ 62) : total l = wlen l := by
  rw [wlen_tot h] at hw ⊢
  have := foldl_tot l 0 (Int.le_refl _) (fun r hr => by have := h r hr; omega) (by omega)
  unfold total; rw [this]; omega
/-! ticks -/
def cnt (b : List Sp) : Int := b.foldl (fun n s => n + (s.2 - s.1)) 0
theorem cnt_from (b : List Sp) : ∀ m, b.foldl (fun n s => n + (s.2 - s.1)) m = m + cnt b := by
  induction b with
  | nil => intro m; show m = m + 0; omega
  | cons s b ih => intro m; unfold cnt; rw [List.foldl_cons, List.foldl_cons, ih, ih (0 + _)]; omega
theorem cnt_app (a b : List Sp) : cnt (a ++ b) = cnt a + cnt b := by unfold cnt; rw [List.foldl_append, cnt_from b]; rfl
theorem cnt_cons (s : Sp) (b : List Sp) : cnt (s :: b) = (s.2 - s.1) + cnt b := by unfold cnt; rw [List.foldl_cons, cnt_from]; unfold cnt; omega
theorem cnt_rng {a e : Int} : ∀ {b : List Sp} {a : Int}, Rising a e b → 0 ≤ cnt b ∧ cnt b ≤ e - a ∧ (cnt b = 0 → b = [])
  | [], a, h => ⟨Int.le_refl _, by have : a ≤ e := h; show (0 : Int) ≤ _; omega, fun _ => rfl⟩
  | s :: b, a, h => by
    have ih := cnt_rng (a := a) h.2.2
    have := h.1; have := h.2.1
    rw [cnt_cons]
    exact ⟨by omega, by omega, fun h => by omega⟩
theorem sp_nil {p : Int} {l : List Rn} (h : ∀ r ∈ l, 1 ≤ r.n) : spV p 0 l = [] ↔ cnt (spV p 0 l) = 0 :=
  ⟨fun e => by rw [e]; rfl, (cnt_rng (a := 0) (sp_rising p l 0 h)).2.2⟩
/-! a frame twice; a frame that begins later -/
/-! gaps -/
def spD (b : List Sp) (i : Nat) : Sp := b.getD i (0, 0)
theorem Rising.spD {e : Int} : ∀ {b : List Sp} {a : Int}, Rising a e b → ∀ i, i + 1 < b.length → (spD b i).2 ≤ (PL.spD b (i + 1)).1
  | [], _, _, i, h => by simp at h
  | [s], _, _, i, h => by simp at h
  | s :: s' :: b, a, h, 0, _ => h.2.2.1
  | s :: s' :: b, a, h, i + 1, hi => Rising.spD h.2.2 i (by simp only [List.length_cons] at hi ⊢; omega)
theorem spD_mem {b : List Sp} {i : Nat} (h : i < b.length) : spD b i ∈ b := by
  unfold spD; rw [List.getD_eq_getElem?_getD, List.getElem?_eq_getElem h]; exact List.getElem_mem h
theorem Rising.mono {e : Int} {b : List Sp} {a : Int} (h : Rising a e b) : ∀ i j, i < j → j < b.length → (PL.spD b i).2 ≤ (PL.spD b j).1 := fun i j hij hj => by
  obtain ⟨d, rfl⟩ : ∃ d, j = i + 1 + d := ⟨j - i - 1, by omega⟩
  clear hij
  induction d with
  | zero => exact h.spD i (by omega)
  | succ d ih =>
    have ih := ih (by omega)
    have h1 := h.spD (i + 1 + d) (by omega)
    have h2 := h.mem (PL.spD b (i + 1 + d)) (spD_mem (by omega))
    rw [show i + 1 + (d + 1) = i + 1 + d + 1 by omega]
    omega
end Go.AM.PL
