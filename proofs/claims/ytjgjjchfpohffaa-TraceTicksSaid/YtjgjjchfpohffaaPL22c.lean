/- Contracts of the functions that the statement reaches. No condition. -/
import Derived.Test.YtjgjjchfpohffaaPL22b
set_option linter.all false
set_option maxRecDepth 10000
namespace Go.AM.PL
theorem within_nat (n : Int) (k : Nat) : ∃ p : Nat, within n 0 (k : Int) = (p : Int) ∧ p ≤ k := by
  have h := within_rng n 0 (k : Int) (by omega)
  exact ⟨(within n 0 (k : Int)).toNat, by omega, by omega⟩
def bump (l : List Lcl) (k : Nat) : List Lcl := if h : k < l.length then l.set k { l[k] with v := IntKind.u32.wrap (l[k].v + 1) } else l
theorem bump_len (l : List Lcl) (k : Nat) : (bump l k).length = l.length := by unfold bump; split <;> simp
theorem bump_ne {l : List Lcl} {k : Nat} (h : k < l.length) : bump l k ≠ l := fun e => by
  have e2 : (bump l k)[k]? = l[k]? := by rw [e]
  unfold bump at e2
  rw [dif_pos h, List.getElem?_set_self h, List.getElem?_eq_getElem h] at e2
  have e3 := congrArg Lcl.v (Option.some.inj e2)
  dsimp only at e3
  rw [wrap_u32] at e3
  omega
theorem cmp_sym (a b : List Lcl) : cmp1 a b = cmp1 b a := by unfold cmp1; rw [Bool.or_comm]
theorem cmpR_pair (a b c d : List Lcl) : cmpR [a, b] [c, d] = (cmp1 a c && cmp1 b d) := by
  unfold cmpR
  rw [Bool.eq_iff_iff, decide_eq_true_iff, Bool.and_eq_true]
  constructor
  · rintro ⟨_, h⟩; exact ⟨h 0 (by simp) (by simp), h 1 (by simp) (by simp)⟩
  · rintro ⟨h1, h2⟩
    refine ⟨rfl, fun j p q => ?_⟩
    match j, p with
    | 0, _ => exact h1
    | 1, _ => exact h2
theorem pre_take (l : List Lcl) {p q : Nat} (h : p ≤ q) : l.take p <+: l.take q := by
  rw [show l.take p = (l.take q).take p by rw [List.take_take]; congr 1; omega]; exact List.take_prefix _ _
theorem cmp_take (l : List Lcl) (p q : Nat) : cmp1 (l.take p) (l.take q) = true := by
  unfold cmp1
  rw [Bool.or_eq_true, decide_eq_true_iff, decide_eq_true_iff]
  by_cases h : p ≤ q
  · exact .inl (pre_take l h)
  · exact .inr (pre_take l (by omega))
theorem cmp_bump (l : List Lcl) (k : Nat) (hk : 0 < l.length → k < l.length) : cmp1 (bump l k) l = ((l.length : Int) == 0) := by
  have e : ∀ (a b : List Lcl), a.length = b.length → (a <+: b) → a = b := fun a b h k => k.eq_of_length h
  unfold cmp1
  rw [Bool.eq_iff_iff, Bool.or_eq_true, decide_eq_true_iff, decide_eq_true_iff, beq_iff_eq]
  constructor
  · intro h
    by_cases h0 : 0 < l.length
    · rcases h with h | h
      · exact absurd (e _ _ (bump_len l k) h) (bump_ne (hk h0))
      · exact absurd (e _ _ (bump_len l k).symm h).symm (bump_ne (hk h0))
    · omega
  · intro h
    have : l = [] := List.eq_nil_of_length_eq_zero (by omega)
    subst this
    exact .inl (by unfold bump; simp)
theorem cpl_comm : ∀ (a b : List Lcl), cpl a b = cpl b a
  | [], [] => rfl
  | [], _ :: _ => rfl
  | _ :: _, [] => rfl
  | x :: xs, y :: ys => by
    rw [cpl, cpl]
    by_cases h : x = y
    · rw [if_pos h, if_pos h.symm, cpl_comm xs ys]
    · rw [if_neg h, if_neg (fun e => h e.symm)]
theorem firstV_comm (a b : List Lcl) : firstV a b = firstV b a := by
  unfold firstV
  by_cases h : a = b
  · rw [if_pos h, if_pos h.symm]
  · rw [if_neg h, if_neg (fun e => h e.symm), cpl_comm]
theorem firstV_take (l : List Lcl) {p q : Nat} (hp : p ≤ l.length) (hq : q ≤ l.length) : (firstV (l.take p) (l.take q) == -1) = ((p : Int) == (q : Int)) := by
  rw [Bool.eq_iff_iff, beq_iff_eq, beq_iff_eq]
  constructor
  · intro h
    by_cases e : l.take p = l.take q
    · have := congrArg List.length e
      rw [List.length_take, List.length_take] at this; omega
    · unfold firstV at h; rw [if_neg e] at h; omega
  · intro h
    have : p = q := by omega
    subst this
    unfold firstV; rw [if_pos rfl]
theorem okT_R {parts : Int} (hp : parts ≤ 6) {l : List Rn} (h : ∀ r ∈ l, okT parts r) : ∀ r ∈ l, okR r = true := fun r hr => by
  have := h r hr
  unfold okT at this
  unfold okR partV
  simp only [Bool.and_eq_true, decide_eq_true_eq]; omega
theorem okT_tot : ∀ {parts : Int} {l : List Rn}, (∀ r ∈ l, okT parts r) → (l.length : Int) ≤ tot l ∧ tot l ≤ 4 * l.length
  | _, [], _ => by simp [tot]
  | parts, x :: l, h => by
    have h1 := h x (List.mem_cons_self ..)
    have h2 := okT_tot (fun r hr => h r (List.mem_cons_of_mem _ hr))
    unfold okT at h1
    simp only [tot, List.length_cons]; omega
theorem okT_right {parts : Int} (hp : parts ≤ 6) {l : List Rn} (h : ∀ r ∈ l, okT parts r) (h1 : 1 ≤ l.length) (h2 : l.length ≤ 96) : rightR l = true := by
  unfold rightR
  have := okT_tot h
  simp only [Bool.and_eq_true, decide_eq_true_eq, List.all_eq_true]
  exact ⟨okT_R hp h, ⟨by omega, h2⟩, by omega⟩
theorem okT_N {parts : Int} (hp : parts ≤ 2 ^ 40) {l : List Rn} (h : ∀ r ∈ l, okT parts r) : ∀ r ∈ l, okN r := fun r hr => by
  have := h r hr
  unfold okT at this
  unfold okN i64; omega
theorem and_rng (n : Int) (m : Nat) (hm : m < 2 ^ 62) : 0 ≤ andI .i64 n m ∧ andI .i64 n m ≤ m := by
  unfold andI
  have h1 : (BitVec.ofInt 64 n &&& BitVec.ofInt 64 (m : Int)).toNat ≤ m := by
    rw [BitVec.toNat_and]
    refine Nat.le_trans Nat.and_le_right ?_
    rw [BitVec.toNat_ofInt]
    omega
  have h2 : IntKind.i64.wrap ((BitVec.ofInt 64 n &&& BitVec.ofInt 64 (m : Int)).toNat : Int) = ((BitVec.ofInt 64 n &&& BitVec.ofInt 64 (m : Int)).toNat : Int) := by
    rw [IntKind.wrap_i64]; omega
  show 0 ≤ IntKind.i64.wrap ((BitVec.ofInt 64 n &&& BitVec.ofInt 64 (m : Int)).toNat : Int) ∧ IntKind.i64.wrap ((BitVec.ofInt 64 n &&& BitVec.ofInt 64 (m : Int)).toNat : Int) ≤ m
  rw [h2]; omega
theorem ticksV_at {l : List Rn} {n : Int} {i : Nat} (h : rightR l = true) (hi : i < tN n) : (ticksV l n).getD i 0 = atR l ((i : Int) % tot l) := by
  unfold ticksV
  rw [if_pos h, List.getD_eq_getElem?_getD, List.getElem?_map, List.getElem?_range hi]; rfl
theorem ticksV_len2 {l : List Rn} {n : Int} (h : rightR l = true) : (ticksV l n).length = tN n := by
  unfold ticksV
  rw [if_pos h, List.length_map, List.length_range]

end Go.AM.PL
