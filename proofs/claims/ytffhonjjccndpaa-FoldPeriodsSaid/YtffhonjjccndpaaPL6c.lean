/- Contracts of the functions that the statement reaches. No condition. -/
import Derived.Test.YtffhonjjccndpaaPL6b
set_option linter.all false
set_option maxRecDepth 10000
namespace Go.AM.PL
open Fo
structure RowOk (row : List Rn) : Prop where
 r : ∀ q ∈ row, okR q = true
 pos : 0 < row.length
 len : row.length ≤ 96
 wl : wlen row ≤ 4096
theorem rowOk {row : List Rn} (h : rightR row = true) : RowOk row := by
 unfold rightR at h
 simp only [Bool.and_eq_true, decide_eq_true_eq, List.all_eq_true] at h
 refine ⟨h.1, h.2.1.1, h.2.1.2, ?_⟩
 rw [wlen_tot fun q hq => (okR_n (h.1 q hq)).1]
 exact h.2.2
theorem sum_ge : ∀ G : List (Nd × Fo), G.length ≤ sumL (G.map encTr)
 | [] => Nat.zero_le _
 | f :: G => by
   have h3 : sumL ((f :: G).map encTr) = (encTr f).length + sumL (G.map encTr) := rfl
   have := sum_ge G
   rw [h3, encTr_cons, List.length_cons, List.length_cons]; omega
def perOk (l : List Rn) (p : Nat) : Bool := decide (l.length % p = 0) && decide (l.drop p = l.take (l.length - p))
def perF (l : List Rn) : Nat → Nat → Nat
 | 0, _ => l.length
 | f + 1, p => if p < l.length then (if perOk l p = true then p else perF l f (p + 1)) else l.length
def perV (l : List Rn) : Nat := perF l l.length 1
theorem perF_no {l : List Rn} {f p : Nat} (h : ¬ p < l.length) : perF l f p = l.length := by
 cases f with
 | zero => rfl
 | succ f => rw [perF, if_neg h]
theorem perF_T {l : List Rn} {f p : Nat} (h : p < l.length) (k : perOk l p = true) : perF l (f + 1) p = p := by rw [perF, if_pos h, if_pos k]
theorem perF_F {l : List Rn} {f p : Nat} (h : p < l.length) (k : ¬ perOk l p = true) : perF l (f + 1) p = perF l f (p + 1) := by rw [perF, if_pos h, if_neg k]
theorem perF_ok {l : List Rn} : ∀ f p, 1 ≤ p → l.length ≤ f + p → (perF l f p = l.length ∨ (p ≤ perF l f p ∧ perF l f p < l.length ∧ perOk l (perF l f p) = true)) ∧ ∀ q, p ≤ q → q < l.length → perOk l q = true → perF l f p ≤ q
 | 0, p, _, h => ⟨.inl rfl, fun q h1 h2 => by omega⟩
 | f + 1, p, h1, h => by
   unfold perF
   split
   ·rename_i c
    split
    ·rename_i d
     exact ⟨.inr ⟨Nat.le_refl _, c, d⟩, fun q h1 _ _ => h1⟩
    ·rename_i d
     have ih := perF_ok (l := l) f (p + 1) (by omega) (by omega)
     refine ⟨?_, fun q h1 h2 h3 => ?_⟩
     ·rcases ih.1 with e | e
      ·exact .inl e
      ·exact .inr ⟨by omega, e.2⟩
     ·by_cases e : q = p
      ·subst e; exact absurd h3 d
      ·exact ih.2 q (by omega) h2 h3
   ·rename_i c
    exact ⟨.inl rfl, fun q h1 h2 => by omega⟩
theorem per6_ok (l : List Rn) : (perV l = l.length ∨ (1 ≤ perV l ∧ perV l < l.length ∧ perOk l (perV l) = true)) ∧ ∀ q, 1 ≤ q → q < l.length → perOk l q = true → perV l ≤ q := perF_ok l.length 1 (Nat.le_refl _) (by omega)
theorem per_at {l : List Rn} {p : Nat} (hp : 1 ≤ p) (h : l.drop p = l.take (l.length - p)) : ∀ i, i < l.length → l[i]? = l[i % p]? := by
 intro i
 induction i using Nat.strongRecOn with
 | _ i ih =>
   intro hi
   by_cases c : i < p
   ·rw [Nat.mod_eq_of_lt c]
   ·have h1 : (l.drop p)[i - p]? = l[i]? := by rw [List.getElem?_drop]; congr 1; omega
    have h2 : (l.take (l.length - p))[i - p]? = l[i - p]? := by rw [List.getElem?_take, if_pos (by omega)]
    rw [← h1, h, h2, ih (i - p) (by omega) (by omega)]
    congr 1
    rw [Nat.mod_eq_sub_mod (show i ≥ p by omega)]
def repR : Nat → List Rn → List Rn
 | 0, _ => []
 | n + 1, l => repR n l ++ l
theorem repR_len (l : List Rn) : ∀ n, (repR n l).length = n * l.length
 | 0 => by rw [Nat.zero_mul]; rfl
 | n + 1 => by show (repR n l ++ l).length = _; rw [List.length_append, repR_len l n, Nat.add_mul, Nat.one_mul]
theorem repR_at {l : List Rn} (hl : 0 < l.length) : ∀ n i, i < n * l.length → (repR n l)[i]? = l[i % l.length]?
 | 0, i, h => by rw [Nat.zero_mul] at h; omega
 | n + 1, i, h => by
   show (repR n l ++ l)[i]? = _
   have hle := repR_len l n
   by_cases c : i < n * l.length
   ·rw [List.getElem?_append_left (by rw [hle]; exact c), repR_at hl n i c]
   ·rw [List.getElem?_append_right (by rw [hle]; omega), hle]
    congr 1
    rw [Nat.add_mul, Nat.one_mul] at h
    have h1 : i = (i - n * l.length) + l.length * n := by rw [Nat.mul_comm l.length n]; omega
    have h2 : i - n * l.length < l.length := by omega
    conv => rhs; rw [h1, Nat.add_mul_mod_self_left, Nat.mod_eq_of_lt h2]
theorem per_pos {l : List Rn} (hl : 0 < l.length) : 1 ≤ perV l ∧ l.length % perV l = 0 ∧ perV l ≤ l.length ∧ ∀ i, perV l ≤ i → i < l.length → l[i]? = l[i - perV l]? := by
 rcases (per6_ok l).1 with e | ⟨h1, h2, h3⟩
 ·rw [e]
  exact ⟨hl, Nat.mod_self _, Nat.le_refl _, fun i h1 h2 => by omega⟩
 ·unfold perOk at h3
  rw [Bool.and_eq_true, decide_eq_true_eq, decide_eq_true_eq] at h3
  refine ⟨h1, h3.1, by omega, fun i h4 h5 => ?_⟩
  have e1 := per_at h1 h3.2 i h5
  have e2 := per_at h1 h3.2 (i - perV l) (by omega)
  rw [e1, e2, Nat.mod_eq_sub_mod (show i ≥ perV l by omega)]
theorem per_rep {l : List Rn} (hl : 0 < l.length) {m : Nat} (hm : 1 ≤ m) : perV (repR m l) ≤ perV l := by
 have hp := per_pos hl
 have hle := repR_len l m
 have hml : 1 * l.length ≤ m * l.length := Nat.mul_le_mul_right _ hm
 by_cases c : perV l < (repR m l).length
 ·refine (per6_ok (repR m l)).2 _ hp.1 c ?_
  have hper : ∀ i, i < l.length → l[i]? = l[i % perV l]? := by
   intro i
   induction i using Nat.strongRecOn with
   | _ i ih =>
     intro hi
     by_cases c : i < perV l
     ·rw [Nat.mod_eq_of_lt c]
     ·rw [hp.2.2.2 i (by omega) hi, ih (i - perV l) (by omega) (by omega)]
      congr 1
      rw [Nat.mod_eq_sub_mod (show i ≥ perV l by omega)]
  obtain ⟨z, hz⟩ : ∃ z, l.length = perV l * z := ⟨l.length / perV l, (Nat.mul_div_cancel' (Nat.dvd_of_mod_eq_zero hp.2.1)).symm⟩
  have hat : ∀ i, i < m * l.length → (repR m l)[i]? = l[i % perV l]? := fun i hi => by
   rw [repR_at hl m i hi, hper _ (Nat.mod_lt _ hl)]
   congr 1
   conv => lhs; rw [hz]
   exact Nat.mod_mul_right_mod ..
  unfold perOk
  rw [Bool.and_eq_true, decide_eq_true_eq, decide_eq_true_eq]
  refine ⟨?_, ?_⟩
  ·rw [hle, hz, ← Nat.mul_assoc, Nat.mul_comm m, Nat.mul_assoc]; exact Nat.mul_mod_right _ _
  ·refine List.ext_getElem? fun i => ?_
   rw [List.getElem?_drop, List.getElem?_take]
   by_cases d : i < (repR m l).length - perV l
   ·rw [if_pos d, hat _ (by omega), hat _ (by omega)]
    congr 1
    rw [Nat.add_mod_left]
   ·rw [if_neg d, List.getElem?_eq_none (by omega)]
 ·have := (per6_ok (repR m l)).1
  rcases this with e | e <;> omega
theorem win_eq {α : Type} {l : List α} {a p : Nat} : (l.take (a + p)).drop a = win l a p := by
 unfold win; rw [List.drop_take]; congr 1; omega
theorem win_eq' {α : Type} {l : List α} {a b p : Nat} (h : b = a + p) : (l.take b).drop a = win l a p := by rw [h]; exact win_eq
theorem leaves_snoc {l : List Rn} {i : Nat} (h : i < l.length) : leavesV (l.take (i + 1)) = leavesV (l.take i) ++ [[leafV l[i]]] := by
 unfold leavesV; rw [List.take_succ_eq_append_getElem h, List.map_append]; rfl
theorem idx_take {α : Type} [DecidableEq α] {l : List α} {i : Nat} (h : i < l.length) : (idxV l)[i]? = some (((l.findIdx fun y => decide (l[i] = y) : Nat) : Int)) := by
 unfold idxV; rw [List.getElem?_map, List.getElem?_eq_getElem h]; rfl
def idxP {α : Type} [DecidableEq α] (l : List α) (i : Nat) : List Int := (idxV l).take i
theorem idxP_snoc {α : Type} [DecidableEq α] {l : List α} {i : Nat} (h : i < l.length) : idxP l (i + 1) = idxP l i ++ [((l.findIdx fun y => decide (l[i] = y) : Nat) : Int)] := by
 unfold idxP
 rw [List.take_succ_eq_append_getElem (by rw [idx_len]; exact h)]
 congr 2
 have h1 := idx_take h
 rw [List.getElem?_eq_getElem (by rw [idx_len]; exact h)] at h1
 exact Option.some.inj h1
theorem idxP_len {α : Type} [DecidableEq α] {l : List α} {i : Nat} (h : i ≤ l.length) : (idxP l i).length = i := by
 unfold idxP; rw [List.length_take, idx_len]; omega
theorem idxP_all {α : Type} [DecidableEq α] {l : List α} {i : Nat} (h : l.length ≤ i) : idxP l i = idxV l := List.take_of_length_le (by rw [idx_len]; exact h)
theorem find_at {α : Type} {f : α → Bool} {l : List α} {i : Nat} (hi : i < l.length) (hno : ∀ x ∈ l.take i, f x = false) (hy : f l[i] = true) : l.findIdx f = i := by
 have h1 : l = l.take i ++ l[i] :: l.drop (i + 1) := by rw [← List.drop_eq_getElem_cons hi, List.take_append_drop]
 conv => lhs; rw [h1]
 rw [List.findIdx_append, List.findIdx_cons, hy]
 have h2 : (l.take i).findIdx f = (l.take i).length := List.findIdx_eq_length.2 hno
 rw [h2, List.length_take]
 simp only [show ¬ (min i l.length < min i l.length) by omega, if_false, cond_true]
 omega
theorem find_take {α : Type} {f : α → Bool} {l : List α} {i : Nat} (hi : i < l.length) (hy : f l[i] = true) : (l.take (i + 1)).findIdx f = l.findIdx f := by
 have h1 : (l.take (i + 1)).findIdx f < (l.take (i + 1)).length := List.findIdx_lt_length_of_exists ⟨l[i], by rw [List.take_succ_eq_append_getElem hi]; exact List.mem_append_right _ (List.mem_singleton.2 rfl), hy⟩
 conv => rhs; rw [← List.take_append_drop (i + 1) l]
 rw [List.findIdx_append, if_pos h1]
theorem win_sum_le {xs : List (List Nd)} {a p : Nat} : sumL (win xs a p) ≤ sumL xs := by
 have h := split3 xs a p
 have h2 : sumL xs = sumL (xs.take a) + (sumL (win xs a p) + sumL (xs.drop (a + p))) := by
  conv => lhs; rw [h]
  rw [sumL_app, sumL_app]
 omega
theorem leaves_sum : ∀ l : List Rn, sumL (leavesV l) = l.length
 | [] => rfl
 | r :: l => by show 1 + sumL (leavesV l) = _; rw [leaves_sum l, List.length_cons]; omega
def onesV (l : List Rn) : List Int := l.map fun _ => 1
def bestR (l : List Rn) : Ft := bestV (idxV l) (onesV l)
def againOk (a l : List Rn) (n : Int) (m : Nat) : Prop := (m : Int) ≤ n ∧ (m = 0 ∨ a.length + m * l.length < 90) ∧ (0 < n → a.length + l.length < 90 → 1 ≤ m)
def kl6 : List Rn := [⟨0, 1⟩, ⟨1, 1⟩, ⟨0, 1⟩, ⟨1, 1⟩, ⟨0, 1⟩, ⟨1, 1⟩]
def sgt (size : Int) (n p : Nat) : Int := size * ((n : Int) - 1) - 1 - (if 1 < p then 1 else 0)
theorem sgt_rng {size : Int} {n p : Nat} (h0 : 0 ≤ size) (h1 : size ≤ 50000) (n1 : 1 ≤ n) (n2 : n ≤ 300) : 0 ≤ size * ((n : Int) - 1) ∧ size * ((n : Int) - 1) ≤ 50000 * 300 := by
 refine ⟨Int.mul_nonneg h0 (by omega), Int.mul_le_mul h1 (by omega) (by omega) (by omega)⟩
theorem upB_t {ids : List Int} {a p n : Nat} {size : Int} {o : Ft} (hn : againV ids a p = n) (h : 1 < n ∧ o.s < sgt size n p) : upB ids a p size o = ⟨a, p, n, sgt size n p⟩ := by
 subst hn; exact upB_T h
theorem upB_f {ids : List Int} {a p n : Nat} {size : Int} {o : Ft} (hn : againV ids a p = n) (h : ¬ (1 < n ∧ o.s < sgt size n p)) : upB ids a p size o = o := by
 subst hn; exact upB_F h
theorem lenI_snoc {xs : List (List Nd)} {i : Nat} (h : i < xs.length) : (lenI xs).take (i + 1) = (lenI xs).take i ++ [(xs[i].length : Int)] := by
 unfold lenI; rw [List.take_succ_eq_append_getElem (by rw [List.length_map]; exact h), List.getElem_map]
theorem ones_snoc {l : List Rn} {i : Nat} (h : i < l.length) : (onesV l).take (i + 1) = (onesV l).take i ++ [1] := by
 unfold onesV; rw [List.take_succ_eq_append_getElem (by rw [List.length_map]; exact h), List.getElem_map]
theorem ones_len (l : List Rn) : (onesV l).length = l.length := List.length_map ..
theorem lenI_len (xs : List (List Nd)) : (lenI xs).length = xs.length := List.length_map ..
theorem getD_memI {l : List Int} {i : Nat} (h : i < l.length) : l.getD i 0 ∈ l := by
 rw [List.getD_eq_getElem?_getD, List.getElem?_eq_getElem h]; exact List.getElem_mem h
theorem lenI_rng {xs : List (List Nd)} {m : Nat} (h : sumL xs ≤ m) : ∀ x ∈ lenI xs, 0 ≤ x ∧ x ≤ (m : Int) := fun x hx => by
 unfold lenI at hx
 obtain ⟨y, hy, rfl⟩ := List.mem_map.1 hx
 have : ∀ xs : List (List Nd), y ∈ xs → y.length ≤ sumL xs := fun xs => by
  induction xs with
  | nil => intro h; cases h
  | cons z zs ih =>
    intro h
    have e : sumL (z :: zs) = z.length + sumL zs := rfl
    rcases List.mem_cons.1 h with rfl | h
    ·omega
    ·have := ih h; omega
 have := this xs hy
 omega
theorem one_flat {xs : List (List Nd)} {o : Ft} : [[(⟨4, 0, (o.n : Int)⟩ : Nd)], joinedV (win xs o.a o.p)].flatten = oneV xs o := by unfold oneV; simp
theorem step_flat {xs : List (List Nd)} {o : Ft} : [xs.take o.a, [oneV xs o], xs.drop (o.a + o.p * o.n)].flatten = stepV xs o := by unfold stepV; simp
def foldG (l : List Rn) (xs : List (List Nd)) : Prop := ∃ G, xs = G.map encTr ∧ Folds l G
theorem foldG_0 {l : List Rn} (h : rightR l = true) : foldG l (leavesV l) := by
 obtain ⟨e, hf⟩ := leaves_folds (rowOk h).r
 exact ⟨_, e, hf⟩
theorem foldG_sum {l : List Rn} {xs : List (List Nd)} (h : foldG l xs) : sumL xs ≤ l.length ∧ xs.length ≤ l.length := by
 obtain ⟨G, rfl, hf⟩ := h
 have h1 := hf.sum
 have h2 := sum_ge G
 rw [List.length_map]
 omega
theorem fit_step {l : List Rn} {xs : List (List Nd)} (h : foldG l xs) (hr : l.length ≤ 96) {o : Ft} (ho : bestV (idxV xs) (lenI xs) = o) (hn : o.n ≠ 0) :
 ((1 ≤ o.p ∧ 2 ≤ o.n) ∧ o.a + o.n * o.p ≤ xs.length) ∧ foldG l (stepV xs o) := by
 have hb := best_ok (ids := idxV xs) (sizes := lenI xs) (by rw [idx_len]; exact List.length_map ..)
 rw [ho] at hb
 rcases hb with rfl | ⟨h1, h2, h3, h4, h5⟩
 ·exact absurd rfl hn
 ·rw [idx_len] at h2
  refine ⟨⟨h1, h2⟩, ?_⟩
  obtain ⟨G, rfl, hf⟩ := h
  obtain ⟨G', e, hG⟩ := step_folds hf hr (o := o) ⟨h1, by rw [List.length_map] at h2; exact h2, fun k hk => win_idx (h3 k hk), by
   rw [h4] at h5
   unfold lenI at h5
   rw [win_map] at h5
   have := lenI_sum (win (G.map encTr) o.a o.p)
   unfold lenI at this
   rw [this] at h5
   exact h5⟩
  exact ⟨G', e, hG⟩
theorem fit_len {l : List Rn} {o : Ft} (h : bestR l = o) : o.a + o.p * o.n ≤ l.length ∧ (o.n = 0 ∨ 2 ≤ o.n) ∧ o.p ≤ l.length ∧ o.n ≤ 1 + l.length := by
 have hb := best_ok (ids := idxV l) (sizes := onesV l) (by rw [idx_len, ones_len])
 rw [show bestV (idxV l) (onesV l) = o from h] at hb
 rcases hb with rfl | ⟨h1, h2, h3, h4, h5⟩
 ·exact ⟨Nat.zero_le _, .inl rfl, Nat.zero_le _, Nat.zero_le _⟩
 ·rw [idx_len] at h2
  have h6 : o.n * 1 ≤ o.n * o.p := Nat.mul_le_mul_left _ h1.1
  have h7 : 2 * o.p ≤ o.n * o.p := Nat.mul_le_mul_right _ h1.2
  rw [Nat.mul_comm o.p o.n]
  exact ⟨h2, .inr h1.2, by omega, by omega⟩
theorem rn_t2 {x y : Rn} (h : ¬ false = rneq x y) : x = y := by
 rw [rneq_eq] at h
 by_cases c : x = y
 ·exact c
 ·rw [decide_eq_false c] at h; exact absurd rfl h
theorem rn_f2 {x y : Rn} (h : false = rneq x y) : ¬ x = y := fun c => by
 rw [rneq_eq, decide_eq_true c] at h; cases h
end Go.AM.PL
