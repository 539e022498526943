/- Contracts of the functions that the statement reaches. No condition. -/
import Derived.Test.YtabhoinefficpaaPL8c
set_option linter.all false
set_option maxRecDepth 10000
namespace Go.AM.PL
theorem matF_get {n : Nat} {f : Nat → Nat → Bool} {p q : Nat} (hp : p < n) (hq : q < n) : ((matF n f).getD p []).getD q false = f p q := by
  unfold matF
  simp [List.getD_eq_getElem?_getD, hp, hq]
theorem matF_len {n : Nat} {f : Nat → Nat → Bool} : (matF n f).length = n := by unfold matF; simp
theorem matF_row {n : Nat} {f : Nat → Nat → Bool} {p : Nat} (hp : p < n) : ((matF n f).getD p []).length = n := by
  unfold matF
  simp [List.getD_eq_getElem?_getD, hp]
theorem matF_rows {n : Nat} {f : Nat → Nat → Bool} : ∀ r ∈ matF n f, r.length = n := fun r hr => by
  unfold matF at hr
  obtain ⟨a, _, rfl⟩ := List.mem_map.1 hr
  simp
theorem toV_matF {n : Nat} {f : Nat → Nat → Bool} {p q : Int} (hp : 0 ≤ p ∧ p < n) (hq : 0 ≤ q ∧ q < n) : toV (matF n f) p q = f p.toNat q.toNat := by
  unfold toV
  rw [matF_len, matF_row (by omega), matF_get (by omega) (by omega), decide_eq_true (by omega), decide_eq_true (by omega), decide_eq_true (by omega), decide_eq_true (by omega)]; rfl
theorem toV_out {n : Nat} {f : Nat → Nat → Bool} {p q : Int} (h : ¬ ((0 ≤ p ∧ p < n) ∧ (0 ≤ q ∧ q < n))) : toV (matF n f) p q = false := by
  unfold toV
  rw [matF_len]
  by_cases h1 : 0 ≤ p
  · by_cases h2 : 0 ≤ q
    · by_cases h3 : p < n
      · rw [matF_row (by omega), show decide (q < (n : Int)) = false from decide_eq_false (by omega)]; simp
      · rw [show decide (p < (n : Int)) = false from decide_eq_false (by omega)]; simp
    · rw [show decide (q ≥ 0) = false from decide_eq_false (by omega)]; simp
  · rw [show decide (p ≥ 0) = false from decide_eq_false (by omega)]; simp
theorem depF_symm (bits : Int) (a b : Nat) : depF bits a b = depF bits b a := by unfold depF; rw [Nat.max_comm, Nat.min_comm]
theorem depM_get {n : Nat} {bits : Int} {p q : Int} (hp : 0 ≤ p ∧ p < n) (hq : 0 ≤ q ∧ q < n) (hne : p ≠ q) : ((depM n bits).getD p.toNat []).getD q.toNat false = depV8 (depM n bits) p q := by
  unfold depM depV8
  rw [matF_get (by omega) (by omega), toV_matF hp hq, toV_matF hq hp, depF_symm bits q.toNat p.toNat, show (p == q) = false by simpa using hne]
  cases depF bits p.toNat q.toNat <;> rfl
theorem depM_T {n : Nat} {bits : Int} {p q : Nat} (hp : p < n) (hq : q < n) (h : ((depM n bits).getD p []).getD q false = true) : depV8 (depM n bits) p q = true := by
  unfold depM depV8 at *
  rw [matF_get hp hq] at h
  rw [toV_matF (by omega) (by omega), Int.toNat_natCast, Int.toNat_natCast, h]; simp
theorem mod64 (z : Int) (m : Nat) (hm : m < 20) : z / 2 ^ m % 2 = (z % 2 ^ 64) / 2 ^ m % 2 := by
  have : m = 0 ∨ m = 1 ∨ m = 2 ∨ m = 3 ∨ m = 4 ∨ m = 5 ∨ m = 6 ∨ m = 7 ∨ m = 8 ∨ m = 9 ∨ m = 10 ∨ m = 11 ∨ m = 12 ∨ m = 13 ∨ m = 14 ∨ m = 15 ∨ m = 16 ∨ m = 17 ∨ m = 18 ∨ m = 19 := by omega
  rcases this with h | h | h | h | h | h | h | h | h | h | h | h | h | h | h | h | h | h | h | h <;> subst h <;> omega
theorem bit_nat (z : Int) (m : Nat) (hm : m < 20) : z / 2 ^ m % 2 = if (z % 2 ^ 64).toNat.testBit m = true then 1 else 0 := by
  rw [mod64 z m hm]
  obtain ⟨N, hN⟩ : ∃ N : Nat, z % 2 ^ 64 = N := ⟨(z % 2 ^ 64).toNat, by omega⟩
  rw [hN, Int.toNat_natCast, Nat.testBit_eq_decide_div_mod_eq]
  have e : (N : Int) / 2 ^ m % 2 = ((N / 2 ^ m % 2 : Nat) : Int) := by simp
  rw [e]
  by_cases h : N / 2 ^ m % 2 = 1
  · rw [h]; simp
  · rw [show N / 2 ^ m % 2 = 0 by omega]; simp
theorem wrap64 (z : Int) : IntKind.i64.wrap z % 2 ^ 64 = z % 2 ^ 64 := by
  unfold IntKind.wrap
  simp only [IntKind.bits, IntKind.signed]
  first
  | omega
  | (split <;> omega)
theorem andI1 (y : Int) : andI .i64 y 1 = y % 2 := by
  unfold andI
  have h1 : (BitVec.ofInt IntKind.i64.bits y &&& BitVec.ofInt IntKind.i64.bits 1).toNat = (y % 2 ^ 64).toNat % 2 := by
    rw [BitVec.toNat_and, BitVec.toNat_ofInt, BitVec.toNat_ofInt]
    show (y % 2 ^ 64).toNat &&& 1 = _
    rw [Nat.and_one_is_mod]
  rw [h1]
  have h2 : (((y % 2 ^ 64).toNat % 2 : Nat) : Int) = y % 2 := by omega
  rw [h2]
  have h3 : 0 ≤ y % 2 ∧ y % 2 < 2 := by omega
  generalize y % 2 = r at h3
  have : r = 0 ∨ r = 1 := by omega
  rcases this with rfl | rfl <;> decide
theorem orI_mod (a b : Int) : (orI .i64 a b % 2 ^ 64).toNat = (a % 2 ^ 64).toNat ||| (b % 2 ^ 64).toNat := by
  unfold orI
  rw [wrap64]
  have h1 : (BitVec.ofInt IntKind.i64.bits a ||| BitVec.ofInt IntKind.i64.bits b).toNat = (a % 2 ^ 64).toNat ||| (b % 2 ^ 64).toNat := by
    rw [BitVec.toNat_or, BitVec.toNat_ofInt, BitVec.toNat_ofInt]; rfl
  have h2 := (BitVec.ofInt IntKind.i64.bits a ||| BitVec.ofInt IntKind.i64.bits b).isLt
  rw [h1] at h2 ⊢
  generalize (a % 2 ^ 64).toNat ||| (b % 2 ^ 64).toNat = N at h2
  have h2 : N < 2 ^ 64 := h2
  omega
theorem bitI_val (z : Int) (k : Nat) : bitI z k = z / 2 ^ (k % 20) % 2 := by
  unfold bitI
  rw [andI1]
  have : min ((k : Int) % 20).toNat IntKind.i64.bits = k % 20 := by
    show min _ 64 = _
    omega
  rw [this, Int.fdiv_eq_ediv_of_nonneg _ (Int.le_of_lt (Int.pow_pos (by decide)))]
theorem bitI_or {a b : Int} {k : Nat} (h : bitI a k = 1) : bitI (orI .i64 a b) k = 1 := by
  rw [bitI_val, bit_nat _ _ (Nat.mod_lt _ (by decide))] at *
  rw [orI_mod, Nat.testBit_or]
  split at h
  · rename_i c; rw [c]; rfl
  · cases h
theorem depF_or {a b : Int} {x y : Nat} (h : depF a x y = true) : depF (orI .i64 a b) x y = true := by
  unfold depF bitD at *
  rw [Bool.or_eq_true] at *
  rcases h with h | h
  · exact .inl h
  · right
    rw [beq_iff_eq] at *
    exact bitI_or h
theorem toV_or {n : Nat} {a b x y : Int} (h : toV (depM n a) x y = true) : toV (depM n (orI .i64 a b)) x y = true := by
  unfold depM at *
  by_cases c : (0 ≤ x ∧ x < n) ∧ (0 ≤ y ∧ y < n)
  · rw [toV_matF c.1 c.2] at *; exact depF_or h
  · rw [toV_out c] at h; cases h
theorem depV8_or {n : Nat} {a b : Int} (x y : Nat) (h : depV8 (depM n a) x y = true) : depV8 (depM n (orI .i64 a b)) x y = true := by
  unfold depV8 at *
  simp only [Bool.or_eq_true] at *
  rcases h with (h | h) | h
  · exact .inl (.inl h)
  · exact .inl (.inr (toV_or h))
  · exact .inr (toV_or h)
theorem depM_len {n : Nat} {bits : Int} : (depM n bits).length = n := matF_len
theorem depM_rows {n : Nat} {bits : Int} : ∀ r ∈ depM n bits, r.length = n := matF_rows
def freeV (dep : List (List Bool)) (u v : Rn) : Bool := ((u.p == -1) || (v.p == -1)) || !((dep.getD u.p.toNat []).getD v.p.toNat false)
theorem free_T {bits : Int} {u v : Rn} (hu : -1 ≤ u.p ∧ u.p < 4) (hv : -1 ≤ v.p ∧ v.p < 4) (hne : u.p ≠ v.p) (h : freeV (depM 4 bits) u v = true) : u.p = -1 ∨ v.p = -1 ∨ (u.p ≠ v.p ∧ depV8 (depM 4 bits) u.p v.p = false) := by
  unfold freeV at h
  by_cases h1 : u.p = -1
  · exact .inl h1
  · by_cases h2 : v.p = -1
    · exact .inr (.inl h2)
    · refine .inr (.inr ⟨hne, ?_⟩)
      rw [depM_get (by omega) (by omega) hne] at h
      rw [show (u.p == -1) = false by simpa using h1, show (v.p == -1) = false by simpa using h2] at h
      simpa using h
theorem turns_val {l : List Rn} {k : Nat} {bits : Int} {u v : Rn} (hu : l.getD k ⟨0, 0⟩ = u) (hv : l.getD (k + 1) ⟨0, 0⟩ = v) (h : k + 1 < l.length) (hok : ∀ r ∈ l, okN r ∧ 1 ≤ r.n ∧ -1 ≤ r.p ∧ r.p < 4) (hl : (word l).length < 2 ^ 62) (hne : u.p ≠ v.p) : (!(differV l (swapV l (k : Int)) (depM 4 bits)).2.2) = freeV (depM 4 bits) u v := by
  have gmem : ∀ i, i < l.length → l.getD i ⟨0, 0⟩ ∈ l := fun i hi => by
    rw [List.getD_eq_getElem?_getD, List.getElem?_eq_getElem hi]; exact List.getElem_mem hi
  have hu4 := hok _ (gmem k (by omega))
  have hv4 := hok _ (gmem (k + 1) h)
  rw [hu] at hu4
  rw [hv] at hv4
  cases hf : freeV (depM 4 bits) u v with
  | true =>
    have := swap_same (dep := depM 4 bits) h (by rw [hu, hv]; exact free_T hu4.2.2 hv4.2.2 hne hf)
    rw [same_iff.2 this]; rfl
  | false =>
    have hno : ¬ okP l (swapV l (k : Int)) (depM 4 bits) := by
      unfold freeV at hf
      simp only [Bool.or_eq_false_iff, beq_eq_false_iff_ne, Bool.not_eq_false'] at hf
      obtain ⟨⟨f1, f2⟩, f3⟩ := hf
      refine swap_turns h (fun r hr => ⟨(hok r hr).1, (hok r hr).2.1⟩) hl (by rw [hu, hv]; exact hne) (by rw [hu]; omega) (by rw [hv]; omega) ?_
      rw [hu, hv, ← depM_get (by omega) (by omega) hne]; exact f3
    cases hd : (differV l (swapV l (k : Int)) (depM 4 bits)).2.2 with
    | true => rfl
    | false => exact absurd (same_iff.1 hd) hno
end Go.AM.PL
namespace Go.AM.PL
theorem tidied_ok {rs l : List Rn} (h : ∀ r ∈ rs, okT 4 r) (e : tidyV rs = l) : ∀ r ∈ l, okN r ∧ 1 ≤ r.n ∧ -1 ≤ r.p ∧ r.p < 4 := fun r hr => by
  rw [← e] at hr
  have h1 := tidyR_ok rs (okT_N4 h) r (List.mem_reverse.1 hr)
  exact ⟨h1.1, h1.2, tidyV_part (P := fun p => -1 ≤ p ∧ p < 4) (fun r hr => by have := h r hr; unfold okT at this; omega) r hr⟩
theorem tidied_word {rs : List Rn} (h : ∀ r ∈ rs, okT 4 r) (hl : rs.length ≤ 2 ^ 40) : (word (tidyV rs)).length < 2 ^ 62 := by
  have h1 := word_small (m := 4) rs (fun r hr => by have := h r hr; unfold okT at this; omega)
  rw [word_tidy rs (okT_N4 h) (by omega)]; omega
theorem getD_mem {l : List Rn} {i : Nat} (h : i < l.length) : l.getD i ⟨0, 0⟩ ∈ l := by
  rw [List.getD_eq_getElem?_getD, List.getElem?_eq_getElem h]; exact List.getElem_mem h
theorem swap_mem {l : List Rn} {a : Int} : ∀ r ∈ swapV l a, r ∈ l := fun r hr => by
  unfold swapV at hr
  split at hr
  · rename_i c
    rcases List.mem_or_eq_of_mem_set hr with h | h
    · rcases List.mem_or_eq_of_mem_set h with h | h
      · exact h
      · rw [h]; exact getD_mem (by omega)
    · rw [h]; exact getD_mem (by omega)
  · exact hr
theorem swap_okN {l : List Rn} {a : Int} (h : ∀ r ∈ l, okN r) : ∀ r ∈ swapV l a, okN r := fun r hr => h r (swap_mem r hr)
theorem swap_total {l : List Rn} {k : Nat} (h : k + 1 < l.length) : total (swapV l (k : Int)) = total l := by
  obtain ⟨A, B, e1, e2, _⟩ := swap_form h
  generalize l.getD k ⟨0, 0⟩ = u at *
  generalize l.getD (k + 1) ⟨0, 0⟩ = v at *
  rw [e2, total_swap, ← e1]
end Go.AM.PL
