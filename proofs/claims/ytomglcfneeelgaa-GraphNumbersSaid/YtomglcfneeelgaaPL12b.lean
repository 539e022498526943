/- Contracts of the functions that the statement reaches. No condition. -/
import Derived.Test.YtomglcfneeelgaaPL12
set_option linter.all false
set_option maxRecDepth 10000
namespace Go.AM.PL
def encRs (r : List Rn) : List GV := [.fsl 2 (r.map encN)]
def okCh (n : Int) (x : Ch) : Prop := (0 ≤ x.fr ∧ x.fr < n) ∧ 0 ≤ x.to ∧ x.to < n
def okCs (n : Int) (C : List Ch) : Prop := ∀ x ∈ C, okCh n x
def okXs (X : List Pc) : Prop := ∀ c ∈ X, c.p.name.size ≤ 2 ^ 40 ∧ c.pr.length ≤ 2 ^ 40 ∧ i64 c.p.per
theorem okCs_set {n : Int} {C : List Ch} (h : okCs n C) {i : Nat} {x : Ch} (hx : okCh n x) : okCs n (C.set i x) := fun y hy => by
  rcases List.mem_or_eq_of_mem_set hy with h1 | rfl
  · exact h y h1
  · exact hx
theorem okXs_set {X : List Pc} (h : okXs X) {i : Nat} (hi : i < X.length) {b p : Int} (hp : i64 p) : okXs (X.set i { X[i] with p := { X[i].p with bud := b, per := p } }) := fun y hy => by
  rcases List.mem_or_eq_of_mem_set hy with h1 | rfl
  · exact h y h1
  · have := h X[i] (List.getElem_mem hi)
    exact ⟨this.1, this.2.1, hp⟩
def divV (per : Int) : Nat → Int
  | 0 => per
  | 1 => per
  | k + 2 => if per % ((k + 2 : Nat) : Int) = 0 then per / ((k + 2 : Nat) : Int) else divV per (k + 1)
theorem divV_T {per : Int} {k : Nat} (h : 1 < k) (e : per % (k : Int) = 0) : divV per k = per / (k : Int) := by
  obtain ⟨m, rfl⟩ : ∃ m, k = m + 2 := ⟨k - 2, by omega⟩
  unfold divV; rw [if_pos e]
theorem divV_F {per : Int} {k : Nat} (h : 1 < k) (e : ¬ per % (k : Int) = 0) : divV per k = divV per (k - 1) := by
  obtain ⟨m, rfl⟩ : ∃ m, k = m + 2 := ⟨k - 2, by omega⟩
  rw [divV, if_neg e]; rfl
theorem divV_1 {per : Int} {k : Nat} (h : ¬ 1 < k) : divV per k = per := by
  have : k = 0 ∨ k = 1 := by omega
  rcases this with rfl | rfl <;> rfl
theorem divV_rng {per : Int} (h0 : 0 ≤ per) (h : per ≤ 4096) : ∀ k, 0 ≤ divV per k ∧ divV per k ≤ 4096
  | 0 => ⟨h0, h⟩
  | 1 => ⟨h0, h⟩
  | k + 2 => by
    unfold divV
    split
    · have h1 := Int.ediv_nonneg h0 (show (0 : Int) ≤ ((k + 2 : Nat) : Int) by omega)
      have h2 := Int.ediv_le_self (((k + 2 : Nat) : Int)) h0
      omega
    · exact divV_rng h0 h (k + 1)
theorem late_up {r : List Rn} (h : goodR r) (p q : Int) : -1 ≤ lateV r p q ∧ lateV r p q ≤ 4096 := by
  have h1 : ∀ x ∈ r, 1 ≤ x.n := fun x hx => (h.1 x hx).2
  cases r with
  | nil => unfold lateV; rw [if_pos (by rfl)]; decide
  | cons x r =>
    have := late_le h1 (wlen_pos h1 (by simp)) p q
    have := h.2.2
    omega
theorem total_good {r : List Rn} (h : goodR r) : 0 ≤ total r ∧ total r ≤ 4096 := by
  have h1 : ∀ x ∈ r, 1 ≤ x.n := fun x hx => (h.1 x hx).2
  have h2 := h.2.2
  have h3 : 0 ≤ wlen r := by unfold wlen; omega
  rw [total_wlen h1 (by omega)]; omega
theorem rs_good {rs : List (List Rn)} {r : List Rn} (h : ∀ x ∈ rs, goodR x) (hr : goodR r) : ∀ x ∈ rs ++ [r], goodR x := fun x hx => by
  rcases List.mem_append.1 hx with h1 | h1
  · exact h x h1
  · rw [List.mem_singleton.1 h1]; exact hr
theorem enc_size (n : Int) : (Utf8.encode n).size ≤ 4 := by
  unfold Utf8.encode
  dsimp only
  (repeat' split) <;> exact of_decide_eq_true rfl
end Go.AM.PL
