/- Contracts of the functions that the statement reaches. No condition. -/
import Derived.Test.YtabhoinefficpaaPL10
set_option linter.all false
set_option maxRecDepth 10000
namespace Go.AM.PL
theorem may_plc {l : List Rn} {dep : List (List Bool)} {i j : Int} (h : mayV l dep i j = true) : plc l i j = true := by
 unfold mayV at h; rw [Bool.and_eq_true] at h; exact h.1
theorem wlen_split {l : List Rn} {i j : Nat} (h : i < j) (hj : j < l.length) : ∃ A M B, l = A ++ rnD l i :: (M ++ rnD l j :: B) ∧ A.length = i ∧ M = midV l i j := by
 refine ⟨l.take i, midV l i j, l.drop (j + 1), ?_, ?_, rfl⟩
 ·have e1 : l[i]'(by omega) = rnD l i := (Option.some.inj ((gd17 (⟨0, 0⟩ : Rn) (show i < l.length by omega)).symm.trans (List.getElem?_eq_getElem (by omega)))).symm
  have e2 : l[j] = rnD l j := (Option.some.inj ((gd17 (⟨0, 0⟩ : Rn) hj).symm.trans (List.getElem?_eq_getElem hj))).symm
  have h1 : l = l.take j ++ l[j] :: l.drop (j + 1) := by rw [← List.drop_eq_getElem_cons hj, List.take_append_drop]
  have h2 : l.take j = l.take i ++ l[i]'(by omega) :: midV l i j := by
   unfold midV
   have hi2 : i < (l.take j).length := by rw [List.length_take]; omega
   have h3 : l.take j = (l.take j).take i ++ (l.take j)[i] :: (l.take j).drop (i + 1) := by rw [← List.drop_eq_getElem_cons hi2, List.take_append_drop]
   rw [List.take_take, Nat.min_eq_left (by omega), List.getElem_take] at h3
   exact h3
  rw [← e1, ← e2]
  conv => lhs; rw [h1, h2]
  simp
 ·rw [List.length_take]; omega
theorem setM_F {A M B : List Rn} {u v : Rn} : setM (A ++ u :: (M ++ v :: B)) A.length (A.length + 1 + M.length) = A ++ ⟨u.p, sadd u.n v.n⟩ :: (M ++ ⟨v.p, 0⟩ :: B) := by
 have e1 : rnD (A ++ u :: (M ++ v :: B)) A.length = u := by unfold rnD; simp
 have e2 : rnD (A ++ u :: (M ++ v :: B)) (A.length + 1 + M.length) = v := by
  unfold rnD
  rw [show A ++ u :: (M ++ v :: B) = (A ++ u :: M) ++ v :: B by simp, show A.length + 1 + M.length = (A ++ u :: M).length by simp; omega]
  simp
 unfold setM
 rw [e1, e2, List.set_append_right _ _ (Nat.le_refl _), Nat.sub_self, List.set_cons_zero]
 rw [show A ++ ⟨u.p, sadd u.n v.n⟩ :: (M ++ v :: B) = (A ++ ⟨u.p, sadd u.n v.n⟩ :: M) ++ v :: B by simp, show A.length + 1 + M.length = (A ++ (⟨u.p, sadd u.n v.n⟩ : Rn) :: M).length by simp; omega]
 rw [List.set_append_right _ _ (Nat.le_refl _), Nat.sub_self, List.set_cons_zero]
 simp
theorem setM_T {A M B : List Rn} {u v : Rn} : setM (A ++ u :: (M ++ v :: B)) (A.length + 1 + M.length) A.length = A ++ ⟨u.p, 0⟩ :: (M ++ ⟨v.p, sadd v.n u.n⟩ :: B) := by
 have e1 : rnD (A ++ u :: (M ++ v :: B)) A.length = u := by unfold rnD; simp
 have e2 : rnD (A ++ u :: (M ++ v :: B)) (A.length + 1 + M.length) = v := by
  unfold rnD
  rw [show A ++ u :: (M ++ v :: B) = (A ++ u :: M) ++ v :: B by simp, show A.length + 1 + M.length = (A ++ u :: M).length by simp; omega]
  simp
 unfold setM
 rw [e1, e2]
 rw [show A ++ u :: (M ++ v :: B) = (A ++ u :: M) ++ v :: B by simp, show A.length + 1 + M.length = (A ++ u :: M).length by simp; omega]
 rw [List.set_append_right _ _ (Nat.le_refl _), Nat.sub_self, List.set_cons_zero]
 rw [show (A ++ u :: M) ++ ⟨v.p, sadd v.n u.n⟩ :: B = A ++ u :: (M ++ ⟨v.p, sadd v.n u.n⟩ :: B) by simp]
 rw [List.set_append_right _ _ (Nat.le_refl _), Nat.sub_self, List.set_cons_zero]
theorem do_form {l : List Rn} {i j : Nat} {r : Bool} (h : i < j) (hj : j < l.length) : ∃ A M B u v, l = A ++ u :: (M ++ v :: B) ∧ M = midV l i j ∧ u = rnD l i ∧ v = rnD l j ∧
 doV l i j r = tidyV (if r = true then A ++ ⟨u.p, 0⟩ :: (M ++ ⟨v.p, sadd v.n u.n⟩ :: B) else A ++ ⟨u.p, sadd u.n v.n⟩ :: (M ++ ⟨v.p, 0⟩ :: B)) := by
 obtain ⟨A, M, B, e, hA, hM⟩ := wlen_split h hj
 have hMl : M.length = j - (i + 1) := by rw [hM]; exact mid_len (by omega)
 refine ⟨A, M, B, rnD l i, rnD l j, e, hM, rfl, rfl, ?_⟩
 have ej : j = A.length + 1 + M.length := by omega
 obtain ⟨u, hu⟩ : ∃ u, rnD l i = u := ⟨_, rfl⟩
 obtain ⟨v, hv⟩ : ∃ v, rnD l j = v := ⟨_, rfl⟩
 rw [hu, hv] at e ⊢
 cases r with
 | false =>
   rw [do_F ⟨h, hj⟩, if_neg (by decide)]
   congr 1
   rw [← hA, ej, e]; exact setM_F
 | true =>
   rw [do_T ⟨h, hj⟩, if_pos rfl]
   congr 1
   rw [← hA, ej, e]; exact setM_T
theorem wl_cons (r : Rn) (B : List Rn) : wlen (r :: B) = max r.n 0 + wlen B := by
 unfold wlen; rw [word_cons, List.length_append, List.length_replicate]; omega
theorem do_wlen {l : List Rn} {i j : Int} {r : Bool} (hp : plc l i j = true) (h : ∀ r ∈ l, okN r) (hw : wlen l ≤ 8192) : wlen (doV l i j r) = wlen l ∧ (∀ q ∈ doV l i j r, okN q) ∧ (∀ q ∈ doV l i j r, 1 ≤ q.n) ∧ (doV l i j r).length ≤ l.length := by
 have hp := plc_iff.1 hp
 obtain ⟨a, rfl⟩ : ∃ a : Nat, i = a := ⟨i.toNat, by omega⟩
 obtain ⟨b, rfl⟩ : ∃ b : Nat, j = b := ⟨j.toNat, by omega⟩
 obtain ⟨A, M, B, u, v, e, _, _, _, hd⟩ := do_form (r := r) (show a < b by omega) (show b < l.length by omega)
 have hu : okN u := h u (by rw [e]; simp)
 have hv : okN v := h v (by rw [e]; simp)
 have hA : ∀ q ∈ A, okN q := fun q hq => h q (by rw [e]; simp [hq])
 have hM : ∀ q ∈ M, okN q := fun q hq => h q (by rw [e]; simp [hq])
 have hB : ∀ q ∈ B, okN q := fun q hq => h q (by rw [e]; simp [hq])
 have ew : wlen l = wlen A + (max u.n 0 + (wlen M + (max v.n 0 + wlen B))) := by rw [e, wlen_app, wl_cons, wlen_app, wl_cons]
 have p0 : ∀ X, 0 ≤ wlen X := fun X => by unfold wlen; omega
 have := p0 A; have := p0 M; have := p0 B
 have key : ∀ Y : List Rn, (∀ q ∈ Y, okN q) → wlen Y = wlen l → Y.length = l.length → doV l a b r = tidyV Y → _ := fun Y hY hYw hYl hd2 => by
  have hR := tidyR_ok Y hY
  refine show wlen (doV l a b r) = wlen l ∧ (∀ q ∈ doV l a b r, okN q) ∧ (∀ q ∈ doV l a b r, 1 ≤ q.n) ∧ (doV l a b r).length ≤ l.length from ?_
  rw [hd2]
  refine ⟨?_, tidyV_ok hY, fun q hq => (hR q (List.mem_reverse.1 hq)).2, by rw [← hYl]; exact tidyV_len Y⟩
  rw [← hYw]
  unfold wlen at *
  rw [word_tidy Y hY (by omega)]
 unfold okN i64 at hu hv
 have s1 : sadd u.n v.n = max u.n 0 + max v.n 0 := by unfold sadd; rw [if_neg (by omega)]
 have s2 : sadd v.n u.n = max v.n 0 + max u.n 0 := by unfold sadd; rw [if_neg (by omega)]
 have ok1 : ∀ p n, i64 p → 0 ≤ n → n ≤ 8192 → okN ⟨p, n⟩ := fun p n h1 h2 h3 => ⟨h1, by unfold i64; dsimp only; omega⟩
 have okL : ∀ x y : Rn, okN x → okN y → ∀ q ∈ A ++ x :: (M ++ y :: B), okN q := fun x y hx hy q hq => by
  rcases List.mem_append.1 hq with hq | hq
  ·exact hA q hq
  ·rcases List.mem_cons.1 hq with rfl | hq
   ·exact hx
   ·rcases List.mem_append.1 hq with hq | hq
    ·exact hM q hq
    ·rcases List.mem_cons.1 hq with rfl | hq
     ·exact hy
     ·exact hB q hq
 refine key _ ?_ ?_ ?_ hd
 ·cases r
  ·exact okL _ _ (ok1 _ _ hu.1 (by omega) (by omega)) (ok1 _ _ hv.1 (by omega) (by omega))
  ·exact okL _ _ (ok1 _ _ hu.1 (by omega) (by omega)) (ok1 _ _ hv.1 (by omega) (by omega))
 ·cases r
  ·show wlen (A ++ ⟨u.p, sadd u.n v.n⟩ :: (M ++ ⟨v.p, 0⟩ :: B)) = _
   rw [wlen_app, wl_cons, wlen_app, wl_cons]; dsimp only; omega
  ·show wlen (A ++ ⟨u.p, 0⟩ :: (M ++ ⟨v.p, sadd v.n u.n⟩ :: B)) = _
   rw [wlen_app, wl_cons, wlen_app, wl_cons]; dsimp only; omega
 ·rw [e]; cases r <;> simp
theorem do_okN {l : List Rn} {i j : Int} {r : Bool} (h : ∀ r ∈ l, okN r) : ∀ q ∈ doV l i j r, okN q := by
 by_cases c : plc l i j = true
 ·have hp := plc_iff.1 c
  unfold doV
  rw [if_pos c]
  have k : ∀ a b, a < l.length → b < l.length → ∀ q ∈ tidyV (setM l a b), okN q := fun a b ha hb => tidyV_ok (setM_ok h hb ha)
  cases r
  ·exact k i.toNat j.toNat (by omega) (by omega)
  ·exact k j.toNat i.toNat (by omega) (by omega)
 ·rw [do_0 (by simpa using c)]; exact h
theorem tidyR_app (X Y : List Rn) : tidyR (X ++ Y) = Y.foldl tstep (tidyR X) := by unfold tidyR; rw [List.foldl_append]
theorem proj_move {A M B : List Rn} {u v : Rn} {r : Bool} {a b : Int} (hp : u.p = v.p) (hu : 1 ≤ u.n) (hv : 1 ≤ v.n) (hN : okN u ∧ okN v)
 (hM : both a b u = true → ∀ q ∈ M, ¬ both a b q = true) :
 projV (if r = true then A ++ ⟨u.p, 0⟩ :: (M ++ ⟨v.p, sadd v.n u.n⟩ :: B) else A ++ ⟨u.p, sadd u.n v.n⟩ :: (M ++ ⟨v.p, 0⟩ :: B)) a b = projV (A ++ u :: (M ++ v :: B)) a b := by
 have hb : ∀ x y : Rn, x.p = y.p → both a b x = both a b y := fun x y h => by unfold both; rw [h]
 by_cases c : both a b u = true
 ·have hf : M.filter (both a b) = [] := List.filter_eq_nil_iff.2 (hM c)
  have cv : both a b v = true := by rw [← c]; exact hb _ _ hp.symm
  have F : ∀ x y : Rn, x.p = u.p → y.p = u.p → (A ++ x :: (M ++ y :: B)).filter (both a b) = A.filter (both a b) ++ x :: y :: B.filter (both a b) := fun x y hx hy => by
   rw [List.filter_append, List.filter_cons_of_pos (by rw [hb x u hx]; exact c), List.filter_append, hf, List.filter_cons_of_pos (by rw [hb y u hy]; exact c)]; rfl
  have T : ∀ X x y Y, tidyR (X ++ x :: y :: Y) = Y.foldl tstep (tstep (tstep (tidyR X) x) y) := fun X x y Y => by rw [tidyR_app]; rfl
  have two : ∀ W, tstep (tstep W u) v = tstep W ⟨u.p, sadd u.n v.n⟩ := fun W => tstep_two hp hu (by omega)
  have s0 : ∀ W p, tstep W ⟨p, 0⟩ = W := fun W p => tstep_0 (by dsimp only; omega)
  unfold projV tidyV
  congr 1
  cases r
  ·show tidyR ((A ++ ⟨u.p, sadd u.n v.n⟩ :: (M ++ ⟨v.p, 0⟩ :: B)).filter (both a b)) = _
   rw [F ⟨u.p, sadd u.n v.n⟩ ⟨v.p, 0⟩ rfl hp.symm, F u v rfl hp.symm, T, T, s0, two]
  ·show tidyR ((A ++ ⟨u.p, 0⟩ :: (M ++ ⟨v.p, sadd v.n u.n⟩ :: B)).filter (both a b)) = _
   rw [F ⟨u.p, 0⟩ ⟨v.p, sadd v.n u.n⟩ rfl hp.symm, F u v rfl hp.symm, T, T, s0, two, hp, sadd_comm]
 ·have cv : ¬ both a b v = true := by rw [← hb _ _ hp]; exact c
  have F : ∀ x y : Rn, x.p = u.p → y.p = u.p → (A ++ x :: (M ++ y :: B)).filter (both a b) = A.filter (both a b) ++ (M.filter (both a b) ++ B.filter (both a b)) := fun x y hx hy => by
   rw [List.filter_append, List.filter_cons_of_neg (by rw [hb x u hx]; exact c), List.filter_append, List.filter_cons_of_neg (by rw [hb y u hy]; exact c)]
  unfold projV
  congr 1
  cases r
  ·show (A ++ ⟨u.p, sadd u.n v.n⟩ :: (M ++ ⟨v.p, 0⟩ :: B)).filter (both a b) = _
   rw [F ⟨u.p, sadd u.n v.n⟩ ⟨v.p, 0⟩ rfl hp.symm, F u v rfl hp.symm]
  ·show (A ++ ⟨u.p, 0⟩ :: (M ++ ⟨v.p, sadd v.n u.n⟩ :: B)).filter (both a b) = _
   rw [F ⟨u.p, 0⟩ ⟨v.p, sadd v.n u.n⟩ rfl hp.symm, F u v rfl hp.symm]
def swV (l : List Rn) : Nat := (tidyV l).countP fun r => !(r.p == -1)
theorem tstep_cnt (f : Int → Bool) (R : List Rn) (r : Rn) : (tstep R r).countP (fun q => f q.p) ≤ R.countP (fun q => f q.p) + [r].countP (fun q => f q.p) := by
 by_cases h : r.n < 1
 ·rw [tstep_0 h]; omega
 ·by_cases h2 : 0 < R.length ∧ (hdR R).p = r.p
  ·rw [tstep_T h h2.1 h2.2]
   cases R with
   | nil => exact absurd h2.1 (by decide)
   | cons q R =>
     show ((⟨q.p, sadd q.n r.n⟩ : Rn) :: R).countP _ ≤ _
     rw [List.countP_cons, List.countP_cons]
     dsimp only
     omega
  ·rw [tstep_F h (by omega), List.countP_cons, List.countP_cons, List.countP_nil]; omega
theorem tidyR_cnt (f : Int → Bool) (l : List Rn) : (tidyR l).countP (fun q => f q.p) ≤ l.countP (fun q => f q.p) := by
 induction l using snoc_ind with
 | h0 => exact Nat.le_refl _
 | h1 l r ih =>
   rw [tidyR_app1, List.countP_append]
   have := tstep_cnt f (tidyR l) r
   omega
theorem tidyV_cnt (f : Int → Bool) (l : List Rn) : (tidyV l).countP (fun q => f q.p) ≤ l.countP (fun q => f q.p) := by
 unfold tidyV; rw [List.countP_reverse]; exact tidyR_cnt f l
theorem tidy_idem {Y : List Rn} (h : ∀ r ∈ Y, okN r) : tidyV (tidyV Y) = tidyV Y := by
 have := fold_tidy [] Y h
 unfold tidyV at *
 exact congrArg List.reverse this
theorem tidyR_zero (A : List Rn) (p : Int) (B : List Rn) : tidyR (A ++ ⟨p, 0⟩ :: B) = tidyR (A ++ B) := by
 rw [tidyR_app, tidyR_app]
 show B.foldl tstep (tstep (tidyR A) ⟨p, 0⟩) = _
 rw [tstep_0 (by dsimp only; omega)]
theorem cnt_take {S : List Rn} {i : Nat} (h : i < S.length) (f : Rn → Bool) : (S.take (i + 1)).countP f = (S.take i).countP f + (if f S[i] = true then 1 else 0) := by
 rw [List.take_succ_eq_append_getElem h, List.countP_append, List.countP_cons, List.countP_nil]; omega
def idleN (r : Rn) : Bool := !(r.p == -1)
theorem idle_T {r : Rn} (h : ¬ r.p = -1) : idleN r = true := by unfold idleN; simpa using h
theorem idle_F {r : Rn} (h : r.p = -1) : ¬ idleN r = true := by unfold idleN; simpa using h
theorem sw_le (l : List Rn) : swV l ≤ l.length := Nat.le_trans List.countP_le_length (tidyV_len l)
structure Moved (l : List Rn) (dep : List (List Bool)) (y : List Rn) : Prop where
 tick : ∀ p : Int, tickV y p = tickV l p
 same : okP l y dep
 less : y.length < l.length
 sw : swV y ≤ swV l
theorem moved_ok {X l : List Rn} {dep : List (List Bool)} {i j : Nat} {r : Bool} (hX : ∀ r ∈ X, okN r) (hl : tidyV X = l) (hm : mayV l dep i j = true) : Moved l dep (doV l i j r) := by
 have h1 := may_iff.1 hm
 rw [Int.toNat_natCast, Int.toNat_natCast] at h1
 obtain ⟨hpl, hpp, hmid⟩ := h1
 obtain ⟨A, M, B, u, v, e, hM, hu, hv, hd⟩ := do_form (r := r) (show i < j by omega) (show j < l.length by omega)
 rw [← hu] at hpp hmid
 rw [← hv] at hpp
 rw [← hM] at hmid
 have hok : ∀ q ∈ l, okN q ∧ 1 ≤ q.n := fun q hq => by rw [← hl] at hq; exact tidyR_ok X hX q (List.mem_reverse.1 hq)
 have hul := hok u (by rw [e]; simp)
 have hvl := hok v (by rw [e]; simp)
 have hts : tidyV l = l := by rw [← hl]; exact tidy_idem hX
 obtain ⟨Y, hY⟩ : ∃ Y, Y = (if r = true then A ++ ⟨u.p, 0⟩ :: (M ++ ⟨v.p, sadd v.n u.n⟩ :: B) else A ++ ⟨u.p, sadd u.n v.n⟩ :: (M ++ ⟨v.p, 0⟩ :: B)) := ⟨_, rfl⟩
 rw [← hY] at hd
 have sr := sadd_i64 (a := u.n) (b := v.n)
 have sr2 := sadd_i64 (a := v.n) (b := u.n)
 have hYok : ∀ q ∈ Y, okN q := fun q hq => by
  have hul1 := hul.1
  have hvl1 := hvl.1
  unfold okN i64 at hul1 hvl1
  have k1 : okN ⟨u.p, 0⟩ := by unfold okN i64; dsimp only; omega
  have k2 : okN ⟨v.p, 0⟩ := by unfold okN i64; dsimp only; omega
  have k3 : okN ⟨u.p, sadd u.n v.n⟩ := by unfold okN i64; dsimp only; omega
  have k4 : okN ⟨v.p, sadd v.n u.n⟩ := by unfold okN i64; dsimp only; omega
  have kA : ∀ q ∈ A, okN q := fun q hq => (hok q (by rw [e]; simp [hq])).1
  have kM : ∀ q ∈ M, okN q := fun q hq => (hok q (by rw [e]; simp [hq])).1
  have kB : ∀ q ∈ B, okN q := fun q hq => (hok q (by rw [e]; simp [hq])).1
  rw [hY] at hq
  cases r
  ·have hq : q ∈ A ++ ⟨u.p, sadd u.n v.n⟩ :: (M ++ ⟨v.p, 0⟩ :: B) := hq
   simp only [List.mem_append, List.mem_cons] at hq
   rcases hq with hq | rfl | hq | rfl | hq
   ·exact kA q hq
   ·exact k3
   ·exact kM q hq
   ·exact k2
   ·exact kB q hq
  ·have hq : q ∈ A ++ ⟨u.p, 0⟩ :: (M ++ ⟨v.p, sadd v.n u.n⟩ :: B) := hq
   simp only [List.mem_append, List.mem_cons] at hq
   rcases hq with hq | rfl | hq | rfl | hq
   ·exact kA q hq
   ·exact k1
   ·exact kM q hq
   ·exact k4
   ·exact kB q hq
 have hpr : ∀ a b : Int, (both a b u = true → ∀ q ∈ M, ¬ both a b q = true) → projV Y a b = projV l a b := fun a b hab => by
  rw [hY, e]; exact proj_move hpp hul.2 hvl.2 ⟨hul.1, hvl.1⟩ hab
 have hne : ∀ q ∈ M, q.p ≠ u.p := fun q hq c => by
  have := hmid q hq
  unfold blkM at this
  rw [c, beq_self_eq_true] at this
  cases this
 have htick : ∀ p : Int, tickV Y p = tickV l p := fun p => by
  have h2 := hpr p p (fun hb q hq hb2 => hne q hq (by
   have a1 := both_iff.1 hb
   have a2 := both_iff.1 hb2
   omega))
  rw [← tick_proj Y p p hYok, h2, tick_proj l p p fun q hq => (hok q hq).1]
 have hcnt : ∀ f : Int → Bool, Y.countP (fun q => f q.p) = l.countP (fun q => f q.p) := fun f => by
  rw [hY, e]
  cases r
  ·show (A ++ ⟨u.p, sadd u.n v.n⟩ :: (M ++ ⟨v.p, 0⟩ :: B)).countP _ = _
   simp [List.countP_append, List.countP_cons]
  ·show (A ++ ⟨u.p, 0⟩ :: (M ++ ⟨v.p, sadd v.n u.n⟩ :: B)).countP _ = _
   simp [List.countP_append, List.countP_cons]
 rw [hd]
 refine ⟨fun p => by rw [tick_tidy Y p hYok]; exact htick p, ⟨fun x y h1 h2 h3 => ?_, by rw [tick_tidy Y _ hYok]; exact (htick _).symm⟩, ?_, ?_⟩
 ·rw [proj_tidy Y x y hYok]
  refine (hpr x y fun hb q hq hb2 => ?_).symm
  have a1 := both_iff.1 hb
  have a2 := both_iff.1 hb2
  have a3 := hne q hq
  have a4 := hmid q hq
  unfold blkM at a4
  rw [Bool.or_eq_false_iff, Bool.and_eq_false_iff, Bool.and_eq_false_iff] at a4
  have a5 : depV8 dep u.p q.p = true := by
   rcases a1 with c1 | c1 <;> rcases a2 with c2 | c2
   ·omega
   ·rw [c1, c2]; exact h3
   ·rw [c1, c2, depV8_symm]; exact h3
   ·omega
  rcases a4.2 with (c | c) | c
  ·simp at c; omega
  ·simp at c; omega
  ·rw [a5] at c; cases c
 ·have hl2 : l.length = A.length + (1 + (M.length + (1 + B.length))) := by rw [e]; simp; omega
  have : (tidyR Y).length ≤ A.length + (1 + (M.length + B.length)) := by
   rw [hY]
   cases r
   ·show (tidyR (A ++ ⟨u.p, sadd u.n v.n⟩ :: (M ++ ⟨v.p, 0⟩ :: B))).length ≤ _
    rw [show A ++ ⟨u.p, sadd u.n v.n⟩ :: (M ++ ⟨v.p, 0⟩ :: B) = (A ++ ⟨u.p, sadd u.n v.n⟩ :: M) ++ ⟨v.p, 0⟩ :: B by simp, tidyR_zero]
    refine Nat.le_trans (tidyR_len _) ?_
    simp; omega
   ·show (tidyR (A ++ ⟨u.p, 0⟩ :: (M ++ ⟨v.p, sadd v.n u.n⟩ :: B))).length ≤ _
    rw [tidyR_zero]
    refine Nat.le_trans (tidyR_len _) ?_
    simp; omega
  unfold tidyV
  rw [List.length_reverse]
  omega
 ·unfold swV
  rw [tidy_idem hYok, hts]
  refine Nat.le_trans (tidyV_cnt (fun p => !(p == -1)) Y) ?_
  rw [hcnt fun p => !(p == -1)]
  exact Nat.le_refl _
section
variable {l : List Rn} {dep : List (List Bool)}
end
theorem runs_wlen {l : List Rn} {p : Int} (h : ∀ r ∈ l, okT p r) (hn : l.length ≤ 16) : wlen l ≤ 8192 := by
 have h2 := word_small (m := 4) l fun r hr => (h r hr).2.2.2
 unfold wlen; omega
end Go.AM.PL
