/- Contracts of the functions that the statement reaches. No condition. -/
import Derived.Test.YtomglcfneeelgaaPL9e
set_option linter.all false
set_option maxRecDepth 10000
namespace Go.AM.PL
theorem word_snoc {l : List Rn} {i : Nat} (h : i < l.length) : word (l.take (i + 1)) = word (l.take i) ++ List.replicate l[i].n.toNat l[i].p := by
  rw [List.take_succ_eq_append_getElem h, word_app, word_cons]
  show _ ++ (_ ++ []) = _
  rw [List.append_nil]
theorem word_take_le (l : List Rn) (i : Nat) : (word (l.take i)).length ≤ (word l).length := by
  have e : word l = word (l.take i) ++ word (l.drop i) := by rw [← word_app, List.take_append_drop]
  rw [e, List.length_append]; omega
def LateI (w : List Int) (p q : Int) (t v : Nat) : Prop := (∀ s, s < t → w.getD s 0 = p → ∃ d, 1 ≤ d ∧ d ≤ v ∧ w.getD ((s + d) % w.length) 0 = q) ∧ (v = 0 ∨ ∃ s, s < t ∧ w.getD s 0 = p ∧ ∀ d, 1 ≤ d → d < v → w.getD ((s + d) % w.length) 0 ≠ q) ∧ v ≤ w.length
section
variable {w : List Int} {p q : Int} {t v : Nat}
theorem late_0 : LateI w p q 0 0 := ⟨fun s h => by omega, .inl rfl, Nat.zero_le _⟩
theorem late_skip (h : LateI w p q t v) (k : ¬ w.getD t 0 = p) : LateI w p q (t + 1) v := by
  refine ⟨fun s hs hp => ?_, ?_, h.2.2⟩
  · by_cases c : s = t
    · subst c; exact absurd hp k
    · exact h.1 s (by omega) hp
  · rcases h.2.1 with e | ⟨s, h1, h2⟩
    · exact .inl e
    · exact .inr ⟨s, by omega, h2⟩
theorem late_hit {d : Nat} (h : LateI w p q t v) (k : w.getD t 0 = p) (h1 : 1 ≤ d) (h2 : d ≤ w.length) (h3 : ∀ e, 1 ≤ e → e < d → w.getD ((t + e) % w.length) 0 ≠ q) (h4 : w.getD ((t + d) % w.length) 0 = q) : LateI w p q (t + 1) (max v d) := by
  refine ⟨fun s hs hp => ?_, ?_, by have := h.2.2; omega⟩
  · by_cases c : s = t
    · subst c; exact ⟨d, h1, by omega, h4⟩
    · obtain ⟨e, e1, e2, e3⟩ := h.1 s (by omega) hp
      exact ⟨e, e1, by omega, e3⟩
  · right
    by_cases c : v ≤ d
    · exact ⟨t, by omega, k, fun e e1 e2 => h3 e e1 (by omega)⟩
    · rcases h.2.1 with e | ⟨s, s1, s2, s3⟩
      · omega
      · exact ⟨s, by omega, s2, fun e e1 e2 => s3 e e1 (by omega)⟩
theorem any_mem (h : w.any (fun z => decide (z = p)) = true) : p ∈ w := by
  obtain ⟨z, hz, e⟩ := List.any_eq_true.1 h
  rw [← of_decide_eq_true e]; exact hz
theorem any_no (h : w.any (fun z => decide (z = p)) = false) : ¬ p ∈ w := fun hp => by
  have : w.any (fun z => decide (z = p)) = true := List.any_eq_true.2 ⟨p, hp, decide_eq_true rfl⟩
  rw [h] at this; cases this
theorem count_take {S : List Int} {j : Nat} (h : j < S.length) : (S.take (j + 1)).count p = (S.take j).count p + if S[j] = p then 1 else 0 := by
  rw [List.take_succ_eq_append_getElem h, List.count_append]
  congr 1
  by_cases c : S[j] = p
  · rw [if_pos c, c]; simp
  · rw [if_neg c]; exact List.count_eq_zero.2 (by simpa using fun e => c e.symm)
end
section
variable {l : List Rn} {p q : Int}
theorem late_no_p (h : ∀ r ∈ l, 1 ≤ r.n) (hp : ¬ p ∈ word l) : lateV l p q = 0 := by unfold lateV; rw [if_pos ((sp_word h p).2 hp)]
theorem late_no_q (h : ∀ r ∈ l, 1 ≤ r.n) (hp : p ∈ word l) (hq : ¬ q ∈ word l) : lateV l p q = -1 := by
  unfold lateV; rw [if_neg (fun c => (sp_word h p).1 c hp), if_pos ((sp_word h q).2 hq)]
theorem late_end {t v : Nat} (h : ∀ r ∈ l, 1 ≤ r.n) (hp : p ∈ word l) (hq : q ∈ word l) (ht : (word l).length ≤ t) (ht2 : t ≤ (word l).length) (hv : LateI (word l) p q t v) : lateV l p q = (v : Int) := by
  refine ref_late h hp hq (fun s hs => hv.1 s (by omega)) ?_
  rcases hv.2.1 with e | ⟨s, s1, s2, s3⟩
  · exfalso
    obtain ⟨u, hu, e2⟩ := List.mem_iff_getElem.1 hp
    obtain ⟨d, d1, d2, _⟩ := hv.1 u (by omega) (by rw [List.getD_eq_getElem?_getD, List.getElem?_eq_getElem hu]; exact e2)
    omega
  · exact ⟨s, by omega, s2, s3⟩
theorem late_ge (h : ∀ r ∈ l, 1 ≤ r.n) (p q : Int) : -1 ≤ lateV l p q := by
  cases l with
  | nil => unfold lateV; rw [if_pos (by rfl)]; decide
  | cons r l => exact (late_le h (wlen_pos h (by simp)) p q).1
theorem bud_m {n P : Nat} (h0 : 0 < n) (h1 : 1 ≤ P) (h : (n : Int) % (P : Int) = 0) : ∃ m, n = P * m := by
  have : n % P = 0 := by have := Int.natCast_emod n P; omega
  exact ⟨n / P, by have := Nat.mul_div_cancel' (Nat.dvd_of_mod_eq_zero this); omega⟩
theorem bud_P {n P m : Nat} (h : n = P * m) (h0 : 0 < n) : P ≤ n := by
  rcases Nat.eq_zero_or_pos m with c | c
  · subst c; omega
  · rw [h]; exact Nat.le_mul_of_pos_right _ c
theorem bud_lt {P k m : Nat} (h1 : 1 ≤ P) (h : P * k < P * m) : k < m := Nat.lt_of_mul_lt_mul_left h
theorem bud_le {n P k m : Nat} (h : n = P * m) (hk : k < m) : P * k + P ≤ n := by
  rw [h, ← Nat.mul_succ]; exact Nat.mul_le_mul_left _ hk
theorem bud_eq {P k m : Nat} (h1 : 1 ≤ P) (hk : k ≤ m) (h : P * m ≤ P * k) : k = m := by
  have := Nat.le_of_mul_le_mul_left h h1; omega
theorem bud_end {P k m : Nat} (h : ∀ r ∈ l, 1 ≤ r.n) (h1 : 1 ≤ P) (hm : (word l).length = P * m) (h0 : 0 < (word l).length) (hk : k = m) : budV l p (P : Int) = budR l p P k := by
  subst hk
  have hw : wlen l = ((P * k : Nat) : Int) := by unfold wlen; rw [hm]
  have e1 : wlen l % (P : Int) = 0 := by rw [hw, Int.natCast_mul, Int.mul_emod_right]
  have e2 : wlen l / (P : Int) = k := by rw [hw, Int.natCast_mul]; exact Int.mul_ediv_cancel_left _ (by omega)
  unfold budV
  rw [if_neg (by omega), e2, Int.toNat_natCast]
  cases k with
  | zero => omega
  | succ k => exact (budR_I h p P k).symm
end
end Go.AM.PL
