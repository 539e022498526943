/- Contracts of the functions that the statement reaches. No condition. -/
import Derived.Test.YtabhoinefficpaaPL9c
set_option linter.all false
set_option maxRecDepth 10000
namespace Go.AM.PL
def kl9 : List Rn := [⟨0, 2⟩, ⟨1, 1⟩, ⟨-1, 3⟩]
theorem kl9_ok : ∀ r ∈ kl9, okN r := ok3 (by unfold okN i64; decide) (by unfold okN i64; decide) (by unfold okN i64; decide)
theorem kl9_1 : ∀ r ∈ kl9, 1 ≤ r.n := by decide
def zP : Pt := ⟨ByteArray.empty, 0, 0, false, false, 0, 0, 0, 0, 0⟩
def zP3 : List Pt := [zP, zP, zP]
theorem zP3_at {p : Nat} (h : p < 3) : zP3[p]? = some zP := by
  have : p = 0 ∨ p = 1 ∨ p = 2 := by omega
  rcases this with rfl | rfl | rfl <;> rfl
def wP (b per : Int) : Pt := { zP with bud := b, per := per }
theorem okT_1 {k : Int} {l : List Rn} (h : ∀ r ∈ l, okT k r) : ∀ r ∈ l, 1 ≤ r.n := fun r hr => (h r hr).2.2.1
theorem okT_N {k : Int} {l : List Rn} (hk : k ≤ 2 ^ 40) (h : ∀ r ∈ l, okT k r) : ∀ r ∈ l, okN r := fun r hr => by
  have := h r hr
  unfold okT at this
  unfold okN i64; omega
theorem okT_w {k : Int} {l : List Rn} (h : ∀ r ∈ l, okT k r) : wlen l ≤ 4 * (l.length : Int) := by
  have := word_small (m := 4) l (fun r hr => (h r hr).2.2.2)
  unfold wlen; omega
theorem ok1_app {A B : List Rn} (hA : ∀ r ∈ A, 1 ≤ r.n) (hB : ∀ r ∈ B, 1 ≤ r.n) : ∀ r ∈ A ++ B, 1 ≤ r.n := fun r hr => (List.mem_append.1 hr).elim (hA r) (hB r)
section
variable {l : List Rn} (h : ∀ r ∈ l, 1 ≤ r.n) (k : Nat)
include h
theorem tk1 : ∀ r ∈ l.take k, 1 ≤ r.n := fun r hr => h r (List.mem_of_mem_take hr)
theorem dr1 : ∀ r ∈ l.drop k, 1 ≤ r.n := fun r hr => h r (List.mem_of_mem_drop hr)
theorem late_rot (p q : Int) : lateV (l.drop k ++ l.take k) p q = lateV l p q := by
  rw [late_round (tk1 h k) (dr1 h k), List.take_append_drop]
theorem gap_rot (p : Int) : gapV (l.drop k ++ l.take k) p = gapV l p := by
  rw [gap_round (tk1 h k) (dr1 h k), List.take_append_drop]
theorem bud_rot (h0 : 0 < wlen l) (p : Int) : budV (l.drop k ++ l.take k) p (wlen l) = budV l p (wlen l) := by
  have := bud_round (tk1 h k) (dr1 h k) (by rw [List.take_append_drop]; exact h0) p
  rwa [List.take_append_drop] at this
omit h in
theorem wlen_rot : wlen (l.drop k ++ l.take k) = wlen l := by
  have e : wlen l = wlen (l.take k) + wlen (l.drop k) := by rw [← wlen_app, List.take_append_drop]
  rw [wlen_app]; omega
end
section
variable {l : List Rn} {p q v : Int}
theorem short_z (k : Nat) : shortBad l k zP = false := rfl
theorem short_zz : ∀ i (h : i < zP3.length), shortBad l i zP3[i] = false := fun i h => by
  have h3 : i < 3 := h
  have := zP3_at h3
  rw [List.getElem?_eq_getElem h] at this
  rw [Option.some.inj this]; rfl
theorem hold9a (hv : lateV l p q = v) : holdV [⟨p, q, false, 0, 0, v⟩] zP3 l = 0 := by
  refine hold_ok ?_ short_zz
  show (lateBad l ⟨p, q, false, 0, 0, v⟩ || false) = false
  unfold lateBad
  rw [Bool.or_false, Bool.and_eq_false_iff, Bool.or_eq_false_iff, decide_eq_false_iff_not, decide_eq_false_iff_not, beq_eq_false_iff_ne]
  show ¬ v > 0 ∨ ¬ lateV l p q > v ∧ lateV l p q ≠ -1
  omega
theorem hold9b (hv : lateV l p q = v) (h : 1 < v) : holdV [⟨p, q, false, 0, 0, v - 1⟩] zP3 l = 19 := by
  refine hold_late (i := 0) (by show 0 < 1; decide) ?_
  show lateBad l ⟨p, q, false, 0, 0, v - 1⟩ = true
  unfold lateBad
  rw [Bool.and_eq_true, Bool.or_eq_true, decide_eq_true_eq, decide_eq_true_eq, beq_iff_eq]
  show v - 1 > 0 ∧ (lateV l p q > v - 1 ∨ lateV l p q = -1)
  omega
theorem hold9c (hv : lateV l p q = v) (h : v < 0) (hm : -1 ≤ v) : holdV [⟨p, q, false, 0, 0, 5000⟩] zP3 l = 19 := by
  refine hold_late (i := 0) (by show 0 < 1; decide) ?_
  show lateBad l ⟨p, q, false, 0, 0, 5000⟩ = true
  unfold lateBad
  rw [Bool.and_eq_true, Bool.or_eq_true, decide_eq_true_eq, decide_eq_true_eq, beq_iff_eq]
  show (5000 : Int) > 0 ∧ (lateV l p q > 5000 ∨ lateV l p q = -1)
  omega
theorem set_short {k : Nat} {P : Pt} (hk : k < 3) (h : shortBad l k P = false) : ∀ i (hi : i < (zP3.set k P).length), shortBad l i (zP3.set k P)[i] = false := fun i hi => by
  by_cases c : k = i
  · subst c; rw [List.getElem_set_self]; exact h
  · rw [List.getElem_set_ne c]
    exact short_zz i (by rw [List.length_set] at hi; exact hi)
theorem hold9d {k : Nat} {most w : Int} (hk : k < 3) (hv : budV l (k : Int) w = most) : holdV [] (zP3.set k (wP most w)) l = 0 := by
  refine hold_ok rfl (set_short hk ?_)
  unfold shortBad
  rw [Bool.and_eq_false_iff, decide_eq_false_iff_not, decide_eq_false_iff_not]
  show ¬ most > 0 ∨ ¬ budV l (k : Int) w < most
  omega
theorem hold9e {k : Nat} {most w : Int} (hk : k < 3) (hv : budV l (k : Int) w = most) (h0 : 0 ≤ most) : holdV [] (zP3.set k (wP (most + 1) w)) l = 20 := by
  refine hold_short (i := k) rfl (by rw [List.length_set]; exact hk) ?_
  rw [List.getElem_set_self]
  unfold shortBad
  rw [Bool.and_eq_true, decide_eq_true_eq, decide_eq_true_eq]
  show most + 1 > 0 ∧ budV l (k : Int) w < most + 1
  omega
theorem per_ok {k : Nat} {b w : Int} (hw : i64 w) : ∀ p ∈ zP3.set k (wP b w), i64 p.per := fun p hp => by
  rcases List.mem_or_eq_of_mem_set hp with h | h
  · have : p = zP := by
      simp only [zP3, List.mem_cons, List.not_mem_nil, or_false, or_self] at h; exact h
    rw [this]; unfold i64; decide
  · rw [h]; exact hw
theorem per_z : ∀ p ∈ zP3, i64 p.per := fun p hp => by
  have : p = zP := by
    simp only [zP3, List.mem_cons, List.not_mem_nil, or_false, or_self] at hp; exact hp
  rw [this]; unfold i64; decide
end
end Go.AM.PL
