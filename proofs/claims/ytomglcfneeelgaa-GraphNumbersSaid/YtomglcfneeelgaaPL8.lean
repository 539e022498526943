/- Contracts of the functions that the statement reaches. No condition. -/
import Derived.Test.YtomglcfneeelgaaPLb
set_option linter.all false
set_option maxRecDepth 10000
namespace Go.AM.PL
def tstep (R : List Rn) (r : Rn) : List Rn :=
  if r.n < 1 then R else match R with
  | [] => [r]
  | q :: Q => if q.p = r.p then ⟨q.p, sadd q.n r.n⟩ :: Q else r :: q :: Q
def tidyR (l : List Rn) : List Rn := l.foldl tstep []
def tidyV (l : List Rn) : List Rn := (tidyR l).reverse
def hdR (R : List Rn) : Rn := R.headD ⟨0, 0⟩
theorem rtop {R : List Rn} (h : 0 < R.length) : R.reverse[R.length - 1]? = some (hdR R) := by
  cases R with
  | nil => simp at h
  | cons q Q => rw [List.reverse_cons, List.getElem?_append_right (by simp)]; simp [hdR]
theorem rset {R : List Rn} (h : 0 < R.length) (z : Rn) : R.reverse.set (R.length - 1) z = (z :: R.tail).reverse := by
  cases R with
  | nil => simp at h
  | cons q Q =>
    rw [List.reverse_cons, List.set_append_right _ _ (by simp)]
    simp
theorem tstep_0 {R : List Rn} {r : Rn} (h : r.n < 1) : tstep R r = R := by unfold tstep; rw [if_pos h]
theorem tstep_T {R : List Rn} {r : Rn} (h : ¬ r.n < 1) (h2 : 0 < R.length) (h3 : (hdR R).p = r.p) : tstep R r = ⟨(hdR R).p, sadd (hdR R).n r.n⟩ :: R.tail := by
  unfold tstep
  rw [if_neg h]
  cases R with
  | nil => simp at h2
  | cons q Q =>
    have h3 : q.p = r.p := h3
    show (if q.p = r.p then _ else _) = _
    rw [if_pos h3]; rfl
theorem tstep_F {R : List Rn} {r : Rn} (h : ¬ r.n < 1) (h2 : R.length = 0 ∨ (hdR R).p ≠ r.p) : tstep R r = r :: R := by
  unfold tstep
  rw [if_neg h]
  cases R with
  | nil => rfl
  | cons q Q =>
    have h3 : q.p ≠ r.p := by
      rcases h2 with h2 | h2
      · simp at h2
      · exact h2
    show (if q.p = r.p then _ else _) = _
    rw [if_neg h3]
theorem tidyR_snoc {l : List Rn} {i : Nat} (h : i < l.length) : tidyR (l.take (i + 1)) = tstep (tidyR (l.take i)) l[i] := by
  unfold tidyR; rw [foldl_take _ _ h]
theorem tstep_ok {R : List Rn} {r : Rn} (h : ∀ q ∈ R, okN q ∧ 1 ≤ q.n) (hr : okN r) : ∀ q ∈ tstep R r, okN q ∧ 1 ≤ q.n := by
  by_cases c : r.n < 1
  · rw [tstep_0 c]; exact h
  · cases R with
    | nil => intro q hq; rw [tstep_F c (.inl rfl)] at hq; rw [List.mem_singleton.1 hq]; exact ⟨hr, by omega⟩
    | cons q Q =>
      have hq0 := h q (List.mem_cons_self ..)
      by_cases d : q.p = r.p
      · intro z hz
        rw [tstep_T (R := q :: Q) c (by simp) d] at hz
        rcases List.mem_cons.1 hz with e | e
        · rw [e]
          unfold okN i64 at *
          have := hq0.1.1
          have h2 : 1 ≤ sadd q.n r.n ∧ sadd q.n r.n < 2 ^ 63 := by unfold sadd; split <;> omega
          show (_ ∧ _) ∧ _
          dsimp only [hdR, List.headD_cons]
          omega
        · exact h z (List.mem_cons_of_mem _ e)
      · intro z hz
        rw [tstep_F (R := q :: Q) c (.inr d)] at hz
        rcases List.mem_cons.1 hz with e | e
        · rw [e]; exact ⟨hr, by omega⟩
        · exact h z e
theorem tidyR_ok : ∀ (l : List Rn), (∀ r ∈ l, okN r) → ∀ q ∈ tidyR l, okN q ∧ 1 ≤ q.n := by
  have key : ∀ (l R : List Rn), (∀ r ∈ l, okN r) → (∀ q ∈ R, okN q ∧ 1 ≤ q.n) → ∀ q ∈ l.foldl tstep R, okN q ∧ 1 ≤ q.n := by
    intro l
    induction l with
    | nil => intro R _ h; exact h
    | cons r l ih => intro R hl h; exact ih (tstep R r) (fun x hx => hl x (List.mem_cons_of_mem _ hx)) (tstep_ok h (hl r (List.mem_cons_self ..)))
  exact fun l hl => key l [] hl (fun q hq => by cases hq)
theorem tidyR_len : ∀ (l : List Rn), (tidyR l).length ≤ l.length := by
  have key : ∀ (l R : List Rn), (l.foldl tstep R).length ≤ R.length + l.length := by
    intro l
    induction l with
    | nil => intro R; exact Nat.le_refl _
    | cons r l ih =>
      intro R
      have h1 := ih (tstep R r)
      have h2 : (tstep R r).length ≤ R.length + 1 := by
        unfold tstep
        split
        · omega
        · cases R with
          | nil => simp
          | cons q Q =>
            show (if q.p = r.p then _ else _ : List Rn).length ≤ _
            split <;> simp
      rw [List.foldl_cons, List.length_cons]; omega
  intro l
  have := key l []
  simpa [tidyR] using this
theorem snoc_ind {P : List Rn → Prop} (h0 : P []) (h1 : ∀ l r, P l → P (l ++ [r])) (l : List Rn) : P l := by
  have : ∀ n (l : List Rn), l.length = n → P l := by
    intro n
    induction n with
    | zero => intro l hl; rw [List.eq_nil_of_length_eq_zero hl]; exact h0
    | succ n ih =>
      intro l hl
      have hne : l ≠ [] := fun e => by rw [e] at hl; simp at hl
      rw [← List.dropLast_concat_getLast hne]
      exact h1 _ _ (ih _ (by rw [List.length_dropLast]; omega))
  exact this _ l rfl
theorem tidyR_app1 (l : List Rn) (r : Rn) : tidyR (l ++ [r]) = tstep (tidyR l) r := by unfold tidyR; rw [List.foldl_append]; rfl
def tickV (l : List Rn) (p : Int) : Int := l.foldl (fun n r => if r.p = p then sadd n r.n else n) 0
def both (a b : Int) (r : Rn) : Bool := (r.p == a) || (r.p == b)
def projV (l : List Rn) (a b : Int) : List Rn := tidyV (l.filter (both a b))
theorem hdR_mem {R : List Rn} (h : 0 < R.length) : hdR R ∈ R := by
  cases R with
  | nil => simp at h
  | cons q Q => exact List.mem_cons_self ..
instance : DecidableEq Rn := fun x y => decidable_of_iff (x.p = y.p ∧ x.n = y.n) ⟨fun h => by cases x; cases y; simp at h; simp [h], fun h => by rw [h]; exact ⟨rfl, rfl⟩⟩
def encO (b : Bool) : List GV := [.v (.bool b)]
def encBs (r : List Bool) : List GV := [.fsl 1 (r.map encO)]
def toV (dep : List (List Bool)) (a b : Int) : Bool := ((((decide (a ≥ 0) && decide (b ≥ 0)) && decide (a < (dep.length : Int))) && decide (b < (((dep.getD a.toNat []).length : Nat) : Int))) && (dep.getD a.toNat []).getD b.toNat false)
def depV8 (dep : List (List Bool)) (a b : Int) : Bool := ((a == b) || toV dep a b) || toV dep b a
section
variable (a b : List Rn) (dep : List (List Bool))
end
theorem ok_app {X Y : List Rn} (hX : ∀ r ∈ X, okN r) (hY : ∀ r ∈ Y, okN r) : ∀ r ∈ X ++ Y, okN r := fun r hr => (List.mem_append.1 hr).elim (hX r) (hY r)
end Go.AM.PL
