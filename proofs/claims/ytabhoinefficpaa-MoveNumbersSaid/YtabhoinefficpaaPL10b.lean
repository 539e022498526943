/- Contracts of the functions that the statement reaches. No condition. -/
import Derived.Test.YtabhoinefficpaaPL10
set_option linter.all false
set_option maxRecDepth 10000
namespace Go.AM.PL
theorem may_plc {l : List Rn} {dep : List (List Bool)} {i j : Int} (h : mayV l dep i j = true) : plc l i j = true := by
 unfold mayV at h; rw [Bool.and_eq_true] at h; exact h.1
theorem wlen_split {l : List Rn} {i j : Nat} (h : i < j) (hj : j < l.length) : ∃ A M B, l = A ++ rnD l i :: (M ++ rnD l j :: B) ∧ A.length = i ∧ M = midV l i j := by
 refine ⟨l.take i, midV l i j, l.drop (j + 1), ?_, ?_, rfl⟩
 ·have e1 : l[i]'(by omega) = rnD l i := (Option.some.inj ((gd17 (⟨0, 0⟩ : Rn) (show i < l.length by omega)).symm.trans (List.getElem?_eq_getElem (by omega)))).symm
  have e2 : l[j] = rnD l j := (Option.some.inj ((gd17 (⟨0, 0⟩ : Rn) hj).symm.trans (List.getElem?_eq_getElem hj))).symm
  have h1 : l = l.take j ++ l[j] :: l.drop (j + 1) := by rw [← List.drop_eq_getElem_cons hj, List.take_append_drop]
  have h2 : l.take j = l.take i ++ l[i]'(by omega) :: midV l i j := by
   unfold midV
   have hi2 : i < (l.take j).length := by rw [List.length_take]; omega
   have h3 : l.take j = (l.take j).take i ++ (l.take j)[i] :: (l.take j).drop (i + 1) := by rw [← List.drop_eq_getElem_cons hi2, List.take_append_drop]
   rw [List.take_take, Nat.min_eq_left (by omega), List.getElem_take] at h3
   exact h3
  rw [← e1, ← e2]
  conv => lhs; rw [h1, h2]
  simp
 ·rw [List.length_take]; omega
theorem setM_F {A M B : List Rn} {u v : Rn} : setM (A ++ u :: (M ++ v :: B)) A.length (A.length + 1 + M.length) = A ++ ⟨u.p, sadd u.n v.n⟩ :: (M ++ ⟨v.p, 0⟩ :: B) := by
 have e1 : rnD (A ++ u :: (M ++ v :: B)) A.length = u := by unfold rnD; simp
 have e2 : rnD (A ++ u :: (M ++ v :: B)) (A.length + 1 + M.length) = v := by
  unfold rnD
  rw [show A ++ u :: (M ++ v :: B) = (A ++ u :: M) ++ v :: B by simp, show A.length + 1 + M.length = (A ++ u :: M).length by simp; omega]
  simp
 unfold setM
 rw [e1, e2, List.set_append_right _ _ (Nat.le_refl _), Nat.sub_self, List.set_cons_zero]
 rw [show A ++ ⟨u.p, sadd u.n v.n⟩ :: (M ++ v :: B) = (A ++ ⟨u.p, sadd u.n v.n⟩ :: M) ++ v :: B by simp, show A.length + 1 + M.length = (A ++ (⟨u.p, sadd u.n v.n⟩ : Rn) :: M).length by simp; omega]
 rw [List.set_append_right _ _ (Nat.le_refl _), Nat.sub_self, List.set_cons_zero]
 simp
theorem setM_T {A M B : List Rn} {u v : Rn} : setM (A ++ u :: (M ++ v :: B)) (A.length + 1 + M.length) A.length = A ++ ⟨u.p, 0⟩ :: (M ++ ⟨v.p, sadd v.n u.n⟩ :: B) := by
 have e1 : rnD (A ++ u :: (M ++ v :: B)) A.length = u := by unfold rnD; simp
 have e2 : rnD (A ++ u :: (M ++ v :: B)) (A.length + 1 + M.length) = v := by
  unfold rnD
  rw [show A ++ u :: (M ++ v :: B) = (A ++ u :: M) ++ v :: B by simp, show A.length + 1 + M.length = (A ++ u :: M).length by simp; omega]
  simp
 unfold setM
 rw [e1, e2]
 rw [show A ++ u :: (M ++ v :: B) = (A ++ u :: M) ++ v :: B by simp, show A.length + 1 + M.length = (A ++ u :: M).length by simp; omega]
 rw [List.set_append_right _ _ (Nat.le_refl _), Nat.sub_self, List.set_cons_zero]
 rw [show (A ++ u :: M) ++ ⟨v.p, sadd v.n u.n⟩ :: B = A ++ u :: (M ++ ⟨v.p, sadd v.n u.n⟩ :: B) by simp]
 rw [List.set_append_right _ _ (Nat.le_refl _), Nat.sub_self, List.set_cons_zero]
theorem do_form {l : List Rn} {i j : Nat} {r : Bool} (h : i < j) (hj : j < l.length) : ∃ A M B u v, l = A ++ u :: (M ++ v :: B) ∧ M = midV l i j ∧ u = rnD l i ∧ v = rnD l j ∧
 doV l i j r = tidyV (if r = true then A ++ ⟨u.p, 0⟩ :: (M ++ ⟨v.p, sadd v.n u.n⟩ :: B) else A ++ ⟨u.p, sadd u.n v.n⟩ :: (M ++ ⟨v.p, 0⟩ :: B)) := by
 obtain ⟨A, M, B, e, hA, hM⟩ := wlen_split h hj
 have hMl : M.length = j - (i + 1) := by rw [hM]; exact mid_len (by omega)
 refine ⟨A, M, B, rnD l i, rnD l j, e, hM, rfl, rfl, ?_⟩
 have ej : j = A.length + 1 + M.length := by omega
 obtain ⟨u, hu⟩ : ∃ u, rnD l i = u := ⟨_, rfl⟩
 obtain ⟨v, hv⟩ : ∃ v, rnD l j = v := ⟨_, rfl⟩
 rw [hu, hv] at e ⊢
 cases r with
 | false =>
   rw [do_F ⟨h, hj⟩, if_neg (by decide)]
   congr 1
   rw [← hA, ej, e]; exact setM_F
 | true =>
   rw [do_T ⟨h, hj⟩, if_pos rfl]
   congr 1
   rw [← hA, ej, e]; exact setM_T
theorem wl_cons (r : Rn) (B : List Rn) : wlen (r :: B) = max r.n 0 + wlen B := by
 unfold wlen; rw [word_cons, List.length_append, List.length_replicate]; omega
theorem do_wlen {l : List Rn} {i j : Int} {r : Bool} (hp : plc l i j = true) (h : ∀ r ∈ l, okN r) (hw : wlen l ≤ 8192) : wlen (doV l i j r) = wlen l ∧ (∀ q ∈ doV l i j r, okN q) ∧ (∀ q ∈ doV l i j r, 1 ≤ q.n) ∧ (doV l i j r).length ≤ l.length := by
 have hp := plc_iff.1 hp
 obtain ⟨a, rfl⟩ : ∃ a : Nat, i = a := ⟨i.toNat, by omega⟩
 obtain ⟨b, rfl⟩ : ∃ b : Nat, j = b := ⟨j.toNat, by omega⟩
 obtain ⟨A, M, B, u, v, e, _, _, _, hd⟩ := do_form (r := r) (show a < b by omega) (show b < l.length by omega)
 have hu : okN u := h u (by rw [e]; simp)
 have hv : okN v := h v (by rw [e]; simp)
 have hA : ∀ q ∈ A, okN q := fun q hq => h q (by rw [e]; simp [hq])
 have hM : ∀ q ∈ M, okN q := fun q hq => h q (by rw [e]; simp [hq])
 have hB : ∀ q ∈ B, okN q := fun q hq => h q (by rw [e]; simp [hq])
 have ew : wlen l = wlen A + (max u.n 0 + (wlen M + (max v.n 0 + wlen B))) := by rw [e, wlen_app, wl_cons, wlen_app, wl_cons]
 have p0 : ∀ X, 0 ≤ wlen X := fun X => by unfold wlen; omega
 have := p0 A; have := p0 M; have := p0 B
 have key : ∀ Y : List Rn, (∀ q ∈ Y, okN q) → wlen Y = wlen l → Y.length = l.length → doV l a b r = tidyV Y → _ := fun Y hY hYw hYl hd2 => by
  have hR := tidyR_ok Y hY
  refine show wlen (doV l a b r) = wlen l ∧ (∀ q ∈ doV l a b r, okN q) ∧ (∀ q ∈ doV l a b r, 1 ≤ q.n) ∧ (doV l a b r).length ≤ l.length from ?_
  rw [hd2]
  refine ⟨?_, tidyV_ok hY, fun q hq => (hR q (List.mem_reverse.1 hq)).2, by rw [← hYl]; exact tidyV_len Y⟩
  rw [← hYw]
  unfold wlen at *
  rw [word_tidy Y hY (by omega)]
 unfold okN i64 at hu hv
 have s1 : sadd u.n v.n = max u.n 0 + max v.n 0 := by unfold sadd; rw [if_neg (by omega)]
 have s2 : sadd v.n u.n = max v.n 0 + max u.n 0 := by unfold sadd; rw [if_neg (by omega)]
 have ok1 : ∀ p n, i64 p → 0 ≤ n → n ≤ 8192 → okN ⟨p, n⟩ := fun p n h1 h2 h3 => ⟨h1, by unfold i64; dsimp only; omega⟩
 have okL : ∀ x y : Rn, okN x → okN y → ∀ q ∈ A ++ x :: (M ++ y :: B), okN q := fun x y hx hy q hq => by
  rcases List.mem_append.1 hq with hq | hq
  ·exact hA q hq
  ·rcases List.mem_cons.1 hq with rfl | hq
   ·exact hx
   ·rcases List.mem_append.1 hq with hq | hq
    ·exact hM q hq
    ·rcases List.mem_cons.1 hq with rfl | hq
     ·exact hy
     ·exact hB q hq
 refine key _ ?_ ?_ ?_ hd
 ·cases r
  ·exact okL _ _ (ok1 _ _ hu.1 (by omega) (by omega)) (ok1 _ _ hv.1 (by omega) (by omega))
  ·exact okL _ _ (ok1 _ _ hu.1 (by omega) (by omega)) (ok1 _ _ hv.1 (by omega) (by omega))
 ·cases r
  ·show wlen (A ++ ⟨u.p, sadd u.n v.n⟩ :: (M ++ ⟨v.p, 0⟩ :: B)) = _
   rw [wlen_app, wl_cons, wlen_app, wl_cons]; dsimp only; omega
  ·show wlen (A ++ ⟨u.p, 0⟩ :: (M ++ ⟨v.p, sadd v.n u.n⟩ :: B)) = _
   rw [wlen_app, wl_cons, wlen_app, wl_cons]; dsimp only; omega
 ·rw [e]; cases r <;> simp
theorem do_len {l : List Rn} {i j : Int} {r : Bool} : (doV l i j r).length ≤ l.length := by
 unfold doV
 split
 ·refine Nat.le_trans (tidyV_len _) ?_
  rw [List.length_set, List.length_set]; exact Nat.le_refl _
 ·exact Nat.le_refl _
section
variable {l : List Rn} {dep : List (List Bool)}
end
theorem runs_wlen {l : List Rn} {p : Int} (h : ∀ r ∈ l, okT p r) (hn : l.length ≤ 16) : wlen l ≤ 8192 := by
 have h2 := word_small (m := 4) l fun r hr => (h r hr).2.2.2
 unfold wlen; omega
theorem cfgNil2 {A : AProg} {f : Nat} {u a b c : GV} {vs : List GV} {P : GHp} {K : GV → GHp → Prop} (hc : WpCallG A f (u :: .agg [nz 11 a, nz 6 b, nz 1 c] :: vs) P K) : WpCallG A f (u :: .agg [a, b, c] :: vs) P K := fun Z om as H hr hv => by
 cases hv with
 | cons h0 hv =>
   cases hv with
   | cons h k =>
     obtain ⟨bs, rfl, h1, h2⟩ := h.agg_inv
     refine hc Z om _ H hr (.cons h0 (.cons (.agg h1 fun i x y e f => ?_) k))
     match i, e with
     | 0, e => cases e; exact nz_ok (h2 0 a y rfl f)
     | 1, e => cases e; exact nz_ok (h2 1 b y rfl f)
     | 2, e => cases e; exact nz_ok (h2 2 c y rfl f)
def mn10 : List Rn := [⟨0, -5⟩, ⟨1, 1⟩, ⟨0, 3⟩]
theorem mn10_ok : ∀ r ∈ mn10, okN r := by unfold okN i64; decide
end Go.AM.PL
