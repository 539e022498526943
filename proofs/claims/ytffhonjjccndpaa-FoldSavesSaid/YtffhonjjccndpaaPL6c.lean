/- Contracts of the functions that the statement reaches. No condition. -/
import Derived.Test.YtffhonjjccndpaaPL6b
set_option linter.all false
set_option maxRecDepth 10000
namespace Go.AM.PL
open Fo
theorem rep_wlen (l : List Rn) : ∀ n : Nat, wlen (repL n l) = n * wlen l
 | 0 => by show wlen [] = ((0 : Nat) : Int) * _; rw [show ((0 : Nat) : Int) = 0 from rfl, Int.zero_mul]; rfl
 | n + 1 => by
   show wlen (repL n l ++ l) = _
   rw [wlen_app, rep_wlen l n, show ((n + 1 : Nat) : Int) = (n : Int) + 1 by omega, Int.add_mul, Int.one_mul]
theorem lw_eq : ∀ {f : Fo}, f.ok → wlen f.lv = f.lw
 | nil, _ => rfl
 | cons x ks r, h => by
   have h1 := lw_eq h.2.1
   have h2 := lw_eq h.2.2
   have hn := kidV_pos (x := x) (by rw [h.1]; omega)
   simp only [lv, lw]
   rw [wlen_app, h2]
   congr 1
   unfold lvX lwX
   split
   ·rw [rep_wlen, h1, show ((x.n.toNat : Nat) : Int) = x.n by omega]
   ·split
    ·rw [wlen_cons _ _ (by dsimp only; omega)]
     show x.n + wlen [] = _
     rw [wlen_nil, Int.add_zero]
    ·exact h1
structure RowOk (row : List Rn) : Prop where
 r : ∀ q ∈ row, okR q = true
 pos : 0 < row.length
 len : row.length ≤ 96
 wl : wlen row ≤ 4096
theorem rowOk {row : List Rn} (h : rightR row = true) : RowOk row := by
 unfold rightR at h
 simp only [Bool.and_eq_true, decide_eq_true_eq, List.all_eq_true] at h
 refine ⟨h.1, h.2.1.1, h.2.1.2, ?_⟩
 rw [wlen_tot fun q hq => (okR_n (h.1 q hq)).1]
 exact h.2.2
theorem pow_96 {k n : Nat} (h : 2 ^ k ≤ n) (hn : n ≤ 96) : k ≤ 6 := by
 by_cases c : k ≤ 6
 ·exact c
 ·have : 2 ^ 7 ≤ 2 ^ k := Nat.pow_le_pow_right (by omega) (by omega)
  omega
theorem sum_ge : ∀ G : List (Nd × Fo), G.length ≤ sumL (G.map encTr)
 | [] => Nat.zero_le _
 | f :: G => by
   have h3 : sumL ((f :: G).map encTr) = (encTr f).length + sumL (G.map encTr) := rfl
   have := sum_ge G
   rw [h3, encTr_cons, List.length_cons, List.length_cons]; omega
theorem joined_tree {row : List Rn} {G : List (Nd × Fo)} (h : Folds row G) (hr : RowOk row) : ∃ T : Nd × Fo, joinedV (G.map encTr) = encTr T ∧ (one T.1 T.2).ok ∧ lvT T = row ∧ T.2.dep ≤ 13 ∧ (encTr T).length ≤ row.length + (if row.length = 1 then 0 else 1) := by
 have hG : G ≠ [] := fun e => by
  subst e
  have := h.lv
  have hp := hr.pos
  rw [← this] at hp
  simp at hp
 have hGl := sum_ge G
 have hs := h.sum
 have hGp : 0 < G.length := List.length_pos_iff.2 hG
 have hlen := joined_len (G.map encTr)
 rw [List.length_map] at hlen
 have hdep : ∀ f ∈ G, f.2.dep ≤ 12 := fun f hf => by
  obtain ⟨k, h1, h2⟩ := (h.ok f hf).2
  have h3 := mem_flat hf
  rw [h.lv] at h3
  have := pow_96 (Nat.le_trans h2 h3) hr.len
  omega
 have hlen2 : (joinedV (G.map encTr)).length ≤ row.length + (if row.length = 1 then 0 else 1) := by
  rw [hlen]
  by_cases c : row.length = 1
  ·rw [if_pos (show G.length = 1 by omega), if_pos c]; omega
  ·rw [if_neg c]
   split <;> omega
 by_cases c : G.length = 1
 ·obtain ⟨f, rfl⟩ : ∃ f, G = [f] := List.length_eq_one_iff.1 c
  have hf := h.ok f (List.mem_cons_self ..)
  have e : joinedV ([f].map encTr) = encTr f := by unfold joinedV; simp
  refine ⟨f, e, hf.1, ?_, by have := hdep f (List.mem_cons_self ..); omega, by rw [← e]; exact hlen2⟩
  have := h.lv
  simpa using this
 ·have hGok := foT_ok fun f hf => (h.ok f hf).1
  have hk3 : kidV ⟨3, 0, (G.length : Int)⟩ = G.length := by have := hr.len; unfold kidV; (repeat' split) <;> simp_all <;> omega
  have e : joinedV (G.map encTr) = encTr (⟨3, 0, (G.length : Int)⟩, foT G) := by
   unfold joinedV
   rw [List.length_map, if_neg c, encTr_cons, foT_enc]
  obtain ⟨f, hf, hd⟩ := foT_dep G hG
  refine ⟨(⟨3, 0, (G.length : Int)⟩, foT G), e, ⟨by show kidV ⟨3, 0, (G.length : Int)⟩ = _; rw [hk3, foT_cnt], hGok, trivial⟩, ?_, by show (foT G).dep ≤ 13; have := hdep f hf; omega, by rw [← e]; exact hlen2⟩
  unfold lvT lvX
  dsimp only
  rw [if_neg (by decide), if_neg (by rw [hk3]; omega), foT_lv, h.lv]
theorem tree_right {row : List Rn} {T : Nd × Fo} (hr : RowOk row) (ht : tidyV row = row) (ok : (one T.1 T.2).ok) (hl : lvT T = row) (hd : T.2.dep ≤ 13) (hn : (encTr T).length ≤ row.length + (if row.length = 1 then 0 else 1)) : ofV (encTr T) = row ∧ ofE (encTr T) = 0 := by
 have h96 := hr.len
 have hn2 : (encTr T).length ≤ 97 := by
  refine Nat.le_trans hn ?_
  split <;> omega
 have hlw : lwX T.1 T.2.lw = wlen row := by
  have := lw_eq ok
  rw [lv_one, lw_one] at this
  rw [← this]
  exact congrArg wlen hl
 have htot : lenX T.1 T.2.tot ≤ 4096 := by
  have h1 := tot_lw ok
  rw [tot_one ok, lw_one, hlw] at h1
  have := hr.wl
  omega
 have hright : rightN (encTr T) = 0 := by
  unfold rightN encTr
  rw [whole_one ok, dep_one ok (by unfold encTr at hn2; omega), len_one ok (by unfold encTr at hn2; omega), if_pos htot]
  unfold encTr at hn2
  rw [if_neg (by omega), if_neg (by simp), if_neg (by omega), if_neg (by simp)]
 have e : lvV (encTr T) = row := by
  unfold encTr
  rw [lvV_eq ok]; exact hl
 unfold ofV ofE
 rw [if_pos hright, if_pos hright, e, ht, if_neg (by omega), if_neg (by omega)]
 exact ⟨rfl, rfl⟩
theorem fold_back {row : List Rn} (h : rightR row = true) (ht : tidyV row = row) :
 (ofV (tableV row) = row ∧ ofE (tableV row) = 0) ∧ (ofV (plainV row) = row ∧ ofE (plainV row) = 0) ∧ (tableV row).length ≤ (plainV row).length ∧ (plainV row).length ≤ row.length + 1 := by
 have hr := rowOk h
 obtain ⟨e, hf⟩ := leaves_folds hr.r
 unfold tableV plainV
 rw [if_pos h, if_pos h]
 have hpl : (joinedV (leavesV row)).length = row.length + (if row.length = 1 then 0 else 1) := by
  have hs : ∀ l : List Rn, sumL (leavesV l) = l.length := fun l => by
   induction l with
   | nil => rfl
   | cons r l ih => show 1 + sumL (leavesV l) = _; rw [ih, List.length_cons]; omega
  rw [joined_len, hs]
  unfold leavesV
  rw [List.length_map]
 rw [e]
 obtain ⟨G', e2, hf2⟩ := tab_folds hr.len row.length _ hf
 rw [e2]
 obtain ⟨T, a1, a2, a3, a4, a5⟩ := joined_tree hf2 hr
 obtain ⟨U, b1, b2, b3, b4, b5⟩ := joined_tree hf hr
 rw [e, b1] at hpl
 rw [a1, b1]
 refine ⟨tree_right hr ht a2 a3 a4 a5, tree_right hr ht b2 b3 b4 b5, by rw [hpl]; exact a5, ?_⟩
 rw [hpl]
 split <;> omega
theorem table_no {row : List Rn} (h : ¬ rightR row = true) : tableV row = [] := by unfold tableV; rw [if_neg h]
theorem table_len {row : List Rn} : (tableV row).length ≤ row.length + 1 := by
 by_cases h : rightR row = true
 ·have hr := rowOk h
  obtain ⟨e, hf⟩ := leaves_folds hr.r
  unfold tableV
  rw [if_pos h, e]
  obtain ⟨G', e2, hf2⟩ := tab_folds hr.len row.length _ hf
  rw [e2]
  obtain ⟨T, a1, a2, a3, a4, a5⟩ := joined_tree hf2 hr
  rw [a1]
  refine Nat.le_trans a5 ?_
  split <;> omega
 ·rw [table_no h]; exact Nat.zero_le _
theorem tidy_of_adj : ∀ {l : List Rn}, (∀ r ∈ l, 1 ≤ r.n) → (∀ i, i + 1 < l.length → (l.getD i ⟨0, 0⟩).p ≠ (l.getD (i + 1) ⟨0, 0⟩).p) → tidyR l = l.reverse := by
 intro l
 induction l using snoc_ind with
 | h0 => intro _ _; rfl
 | h1 l r ih =>
   intro hn ha
   have h1 := ih (fun q hq => hn q (List.mem_append_left _ hq)) fun i hi => by
    have := ha i (by rw [List.length_append]; omega)
    rw [List.getD_eq_getElem?_getD, List.getD_eq_getElem?_getD, List.getElem?_append_left (by omega), List.getElem?_append_left (by omega)] at this
    rw [List.getD_eq_getElem?_getD, List.getD_eq_getElem?_getD]
    exact this
   rw [tidyR_app1, h1, List.reverse_append]
   refine tstep_F (by have := hn r (by simp); omega) ?_
   by_cases c : l.length = 0
   ·left; rw [List.length_reverse]; exact c
   ·right
    have h2 := ha (l.length - 1) (by rw [List.length_append, List.length_singleton]; omega)
    rw [show l.length - 1 + 1 = l.length by omega] at h2
    rw [List.getD_eq_getElem?_getD, List.getD_eq_getElem?_getD, List.getElem?_append_left (by omega), List.getElem?_append_right (Nat.le_refl _), Nat.sub_self] at h2
    have h3 := rtop (R := l.reverse) (by rw [List.length_reverse]; omega)
    rw [List.reverse_reverse, List.length_reverse] at h3
    rw [h3] at h2
    simpa using h2
def perOk (l : List Rn) (p : Nat) : Bool := decide (l.length % p = 0) && decide (l.drop p = l.take (l.length - p))
def perF (l : List Rn) : Nat → Nat → Nat
 | 0, _ => l.length
 | f + 1, p => if p < l.length then (if perOk l p = true then p else perF l f (p + 1)) else l.length
def perV (l : List Rn) : Nat := perF l l.length 1
theorem perF_no {l : List Rn} {f p : Nat} (h : ¬ p < l.length) : perF l f p = l.length := by
 cases f with
 | zero => rfl
 | succ f => rw [perF, if_neg h]
theorem perF_T {l : List Rn} {f p : Nat} (h : p < l.length) (k : perOk l p = true) : perF l (f + 1) p = p := by rw [perF, if_pos h, if_pos k]
theorem perF_F {l : List Rn} {f p : Nat} (h : p < l.length) (k : ¬ perOk l p = true) : perF l (f + 1) p = perF l f (p + 1) := by rw [perF, if_pos h, if_neg k]
def repR : Nat → List Rn → List Rn
 | 0, _ => []
 | n + 1, l => repR n l ++ l
theorem repR_len (l : List Rn) : ∀ n, (repR n l).length = n * l.length
 | 0 => by rw [Nat.zero_mul]; rfl
 | n + 1 => by show (repR n l ++ l).length = _; rw [List.length_append, repR_len l n, Nat.add_mul, Nat.one_mul]
theorem repR_mem {l : List Rn} {r : Rn} : ∀ n, r ∈ repR n l → r ∈ l
 | 0, h => by cases h
 | n + 1, h => by
   rcases List.mem_append.1 (show r ∈ repR n l ++ l from h) with h | h
   ·exact repR_mem n h
   ·exact h
theorem repR_at {l : List Rn} (hl : 0 < l.length) : ∀ n i, i < n * l.length → (repR n l)[i]? = l[i % l.length]?
 | 0, i, h => by rw [Nat.zero_mul] at h; omega
 | n + 1, i, h => by
   show (repR n l ++ l)[i]? = _
   have hle := repR_len l n
   by_cases c : i < n * l.length
   ·rw [List.getElem?_append_left (by rw [hle]; exact c), repR_at hl n i c]
   ·rw [List.getElem?_append_right (by rw [hle]; omega), hle]
    congr 1
    rw [Nat.add_mul, Nat.one_mul] at h
    have h1 : i = (i - n * l.length) + l.length * n := by rw [Nat.mul_comm l.length n]; omega
    have h2 : i - n * l.length < l.length := by omega
    conv => rhs; rw [h1, Nat.add_mul_mod_self_left, Nat.mod_eq_of_lt h2]
theorem win_eq {α : Type} {l : List α} {a p : Nat} : (l.take (a + p)).drop a = win l a p := by
 unfold win; rw [List.drop_take]; congr 1; omega
theorem win_eq' {α : Type} {l : List α} {a b p : Nat} (h : b = a + p) : (l.take b).drop a = win l a p := by rw [h]; exact win_eq
theorem leaves_snoc {l : List Rn} {i : Nat} (h : i < l.length) : leavesV (l.take (i + 1)) = leavesV (l.take i) ++ [[leafV l[i]]] := by
 unfold leavesV; rw [List.take_succ_eq_append_getElem h, List.map_append]; rfl
theorem idx_take {α : Type} [DecidableEq α] {l : List α} {i : Nat} (h : i < l.length) : (idxV l)[i]? = some (((l.findIdx fun y => decide (l[i] = y) : Nat) : Int)) := by
 unfold idxV; rw [List.getElem?_map, List.getElem?_eq_getElem h]; rfl
def idxP {α : Type} [DecidableEq α] (l : List α) (i : Nat) : List Int := (idxV l).take i
theorem idxP_snoc {α : Type} [DecidableEq α] {l : List α} {i : Nat} (h : i < l.length) : idxP l (i + 1) = idxP l i ++ [((l.findIdx fun y => decide (l[i] = y) : Nat) : Int)] := by
 unfold idxP
 rw [List.take_succ_eq_append_getElem (by rw [idx_len]; exact h)]
 congr 2
 have h1 := idx_take h
 rw [List.getElem?_eq_getElem (by rw [idx_len]; exact h)] at h1
 exact Option.some.inj h1
theorem idxP_len {α : Type} [DecidableEq α] {l : List α} {i : Nat} (h : i ≤ l.length) : (idxP l i).length = i := by
 unfold idxP; rw [List.length_take, idx_len]; omega
theorem idxP_all {α : Type} [DecidableEq α] {l : List α} {i : Nat} (h : l.length ≤ i) : idxP l i = idxV l := List.take_of_length_le (by rw [idx_len]; exact h)
theorem find_at {α : Type} {f : α → Bool} {l : List α} {i : Nat} (hi : i < l.length) (hno : ∀ x ∈ l.take i, f x = false) (hy : f l[i] = true) : l.findIdx f = i := by
 have h1 : l = l.take i ++ l[i] :: l.drop (i + 1) := by rw [← List.drop_eq_getElem_cons hi, List.take_append_drop]
 conv => lhs; rw [h1]
 rw [List.findIdx_append, List.findIdx_cons, hy]
 have h2 : (l.take i).findIdx f = (l.take i).length := List.findIdx_eq_length.2 hno
 rw [h2, List.length_take]
 simp only [show ¬ (min i l.length < min i l.length) by omega, if_false, cond_true]
 omega
theorem find_take {α : Type} {f : α → Bool} {l : List α} {i : Nat} (hi : i < l.length) (hy : f l[i] = true) : (l.take (i + 1)).findIdx f = l.findIdx f := by
 have h1 : (l.take (i + 1)).findIdx f < (l.take (i + 1)).length := List.findIdx_lt_length_of_exists ⟨l[i], by rw [List.take_succ_eq_append_getElem hi]; exact List.mem_append_right _ (List.mem_singleton.2 rfl), hy⟩
 conv => rhs; rw [← List.take_append_drop (i + 1) l]
 rw [List.findIdx_append, if_pos h1]
theorem win_sum_le {xs : List (List Nd)} {a p : Nat} : sumL (win xs a p) ≤ sumL xs := by
 have h := split3 xs a p
 have h2 : sumL xs = sumL (xs.take a) + (sumL (win xs a p) + sumL (xs.drop (a + p))) := by
  conv => lhs; rw [h]
  rw [sumL_app, sumL_app]
 omega
theorem leaves_sum : ∀ l : List Rn, sumL (leavesV l) = l.length
 | [] => rfl
 | r :: l => by show 1 + sumL (leavesV l) = _; rw [leaves_sum l, List.length_cons]; omega
def onesV (l : List Rn) : List Int := l.map fun _ => 1
def bestR (l : List Rn) : Ft := bestV (idxV l) (onesV l)
def againOk (a l : List Rn) (n : Int) (m : Nat) : Prop := (m : Int) ≤ n ∧ (m = 0 ∨ a.length + m * l.length < 90) ∧ (0 < n → a.length + l.length < 90 → 1 ≤ m)
def kl6 : List Rn := [⟨0, 1⟩, ⟨1, 1⟩, ⟨0, 1⟩, ⟨1, 1⟩, ⟨0, 1⟩, ⟨1, 1⟩]
def sgt (size : Int) (n p : Nat) : Int := size * ((n : Int) - 1) - 1 - (if 1 < p then 1 else 0)
theorem sgt_rng {size : Int} {n p : Nat} (h0 : 0 ≤ size) (h1 : size ≤ 50000) (n1 : 1 ≤ n) (n2 : n ≤ 300) : 0 ≤ size * ((n : Int) - 1) ∧ size * ((n : Int) - 1) ≤ 50000 * 300 := by
 refine ⟨Int.mul_nonneg h0 (by omega), Int.mul_le_mul h1 (by omega) (by omega) (by omega)⟩
theorem upB_t {ids : List Int} {a p n : Nat} {size : Int} {o : Ft} (hn : againV ids a p = n) (h : 1 < n ∧ o.s < sgt size n p) : upB ids a p size o = ⟨a, p, n, sgt size n p⟩ := by
 subst hn; exact upB_T h
theorem upB_f {ids : List Int} {a p n : Nat} {size : Int} {o : Ft} (hn : againV ids a p = n) (h : ¬ (1 < n ∧ o.s < sgt size n p)) : upB ids a p size o = o := by
 subst hn; exact upB_F h
theorem lenI_snoc {xs : List (List Nd)} {i : Nat} (h : i < xs.length) : (lenI xs).take (i + 1) = (lenI xs).take i ++ [(xs[i].length : Int)] := by
 unfold lenI; rw [List.take_succ_eq_append_getElem (by rw [List.length_map]; exact h), List.getElem_map]
theorem ones_snoc {l : List Rn} {i : Nat} (h : i < l.length) : (onesV l).take (i + 1) = (onesV l).take i ++ [1] := by
 unfold onesV; rw [List.take_succ_eq_append_getElem (by rw [List.length_map]; exact h), List.getElem_map]
theorem ones_len (l : List Rn) : (onesV l).length = l.length := List.length_map ..
theorem lenI_len (xs : List (List Nd)) : (lenI xs).length = xs.length := List.length_map ..
theorem getD_memI {l : List Int} {i : Nat} (h : i < l.length) : l.getD i 0 ∈ l := by
 rw [List.getD_eq_getElem?_getD, List.getElem?_eq_getElem h]; exact List.getElem_mem h
theorem lenI_rng {xs : List (List Nd)} {m : Nat} (h : sumL xs ≤ m) : ∀ x ∈ lenI xs, 0 ≤ x ∧ x ≤ (m : Int) := fun x hx => by
 unfold lenI at hx
 obtain ⟨y, hy, rfl⟩ := List.mem_map.1 hx
 have : ∀ xs : List (List Nd), y ∈ xs → y.length ≤ sumL xs := fun xs => by
  induction xs with
  | nil => intro h; cases h
  | cons z zs ih =>
    intro h
    have e : sumL (z :: zs) = z.length + sumL zs := rfl
    rcases List.mem_cons.1 h with rfl | h
    ·omega
    ·have := ih h; omega
 have := this xs hy
 omega
theorem one_flat {xs : List (List Nd)} {o : Ft} : [[(⟨4, 0, (o.n : Int)⟩ : Nd)], joinedV (win xs o.a o.p)].flatten = oneV xs o := by unfold oneV; simp
theorem step_flat {xs : List (List Nd)} {o : Ft} : [xs.take o.a, [oneV xs o], xs.drop (o.a + o.p * o.n)].flatten = stepV xs o := by unfold stepV; simp
def foldG (l : List Rn) (xs : List (List Nd)) : Prop := ∃ G, xs = G.map encTr ∧ Folds l G
theorem foldG_0 {l : List Rn} (h : rightR l = true) : foldG l (leavesV l) := by
 obtain ⟨e, hf⟩ := leaves_folds (rowOk h).r
 exact ⟨_, e, hf⟩
theorem foldG_sum {l : List Rn} {xs : List (List Nd)} (h : foldG l xs) : sumL xs ≤ l.length ∧ xs.length ≤ l.length := by
 obtain ⟨G, rfl, hf⟩ := h
 have h1 := hf.sum
 have h2 := sum_ge G
 rw [List.length_map]
 omega
theorem fit_step {l : List Rn} {xs : List (List Nd)} (h : foldG l xs) (hr : l.length ≤ 96) {o : Ft} (ho : bestV (idxV xs) (lenI xs) = o) (hn : o.n ≠ 0) :
 ((1 ≤ o.p ∧ 2 ≤ o.n) ∧ o.a + o.n * o.p ≤ xs.length) ∧ foldG l (stepV xs o) := by
 have hb := best_ok (ids := idxV xs) (sizes := lenI xs) (by rw [idx_len]; exact List.length_map ..)
 rw [ho] at hb
 rcases hb with rfl | ⟨h1, h2, h3, h4, h5⟩
 ·exact absurd rfl hn
 ·rw [idx_len] at h2
  refine ⟨⟨h1, h2⟩, ?_⟩
  obtain ⟨G, rfl, hf⟩ := h
  obtain ⟨G', e, hG⟩ := step_folds hf hr (o := o) ⟨h1, by rw [List.length_map] at h2; exact h2, fun k hk => win_idx (h3 k hk), by
   rw [h4] at h5
   unfold lenI at h5
   rw [win_map] at h5
   have := lenI_sum (win (G.map encTr) o.a o.p)
   unfold lenI at this
   rw [this] at h5
   exact h5⟩
  exact ⟨G', e, hG⟩
theorem rn_t2 {x y : Rn} (h : ¬ false = rneq x y) : x = y := by
 rw [rneq_eq] at h
 by_cases c : x = y
 ·exact c
 ·rw [decide_eq_false c] at h; exact absurd rfl h
theorem rn_f2 {x y : Rn} (h : false = rneq x y) : ¬ x = y := fun c => by
 rw [rneq_eq, decide_eq_true c] at h; cases h
end Go.AM.PL
