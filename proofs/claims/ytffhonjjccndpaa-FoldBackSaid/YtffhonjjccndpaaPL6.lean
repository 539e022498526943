/- Contracts of the functions that the statement reaches. No condition. -/
import Derived.Test.YtffhonjjccndpaaPL9g
set_option linter.all false
set_option maxRecDepth 10000
namespace Go.AM.PL
structure Ft where
 a : Nat
 p : Nat
 n : Nat
 s : Int
 deriving DecidableEq
def encFt (f : Ft) : List GV := [.v (.int .i64 f.a), .v (.int .i64 f.p), .v (.int .i64 f.n), .v (.int .i64 f.s)]
section
variable {α : Type} [DecidableEq α]
def win (l : List α) (a p : Nat) : List α := (l.drop a).take p
def agF (l : List α) (a p : Nat) : Nat → Nat → Nat
 | 0, n => n
 | f + 1, n => if a + (n + 1) * p ≤ l.length ∧ win l a p = win l (a + n * p) p then agF l a p f (n + 1) else n
def againV (l : List α) (a p : Nat) : Nat := agF l a p l.length 1
theorem agF_rng {l : List α} {a p : Nat} : ∀ f n, n ≤ agF l a p f n ∧ agF l a p f n ≤ n + f
 | 0, n => ⟨Nat.le_refl _, Nat.le_refl _⟩
 | f + 1, n => by
   unfold agF
   split
   ·have := agF_rng (l := l) (a := a) (p := p) f (n + 1); omega
   ·omega
theorem again_rng {l : List α} {a p : Nat} : 1 ≤ againV l a p ∧ againV l a p ≤ 1 + l.length := agF_rng _ _
theorem agF_yes {l : List α} {a p f n : Nat} (h : a + (n + 1) * p ≤ l.length) (e : win l a p = win l (a + n * p) p) : agF l a p (f + 1) n = agF l a p f (n + 1) := by rw [agF, if_pos ⟨h, e⟩]
theorem agF_no {l : List α} {a p f n : Nat} (h : ¬ (a + (n + 1) * p ≤ l.length ∧ win l a p = win l (a + n * p) p)) : agF l a p f n = n := by
 cases f with
 | zero => rfl
 | succ f => rw [agF, if_neg h]
theorem agF_ok {l : List α} {a p : Nat} : ∀ f n, 1 ≤ n → a + n * p ≤ l.length → (∀ k, k < n → win l (a + k * p) p = win l a p) → a + agF l a p f n * p ≤ l.length ∧ ∀ k, k < agF l a p f n → win l (a + k * p) p = win l a p
 | 0, n, _, h1, h2 => ⟨h1, h2⟩
 | f + 1, n, h0, h1, h2 => by
   unfold agF
   split
   ·rename_i c
    refine agF_ok f (n + 1) (by omega) c.1 fun k hk => ?_
    by_cases e : k = n
    ·subst e; exact c.2.symm
    ·exact h2 k (by omega)
   ·exact ⟨h1, h2⟩
end
def upB (ids : List Int) (a p : Nat) (size : Int) (o : Ft) : Ft :=
 if 1 < againV ids a p ∧ o.s < size * ((againV ids a p : Int) - 1) - 1 - (if 1 < p then 1 else 0) then ⟨a, p, againV ids a p, size * ((againV ids a p : Int) - 1) - 1 - (if 1 < p then 1 else 0)⟩ else o
def inB (ids sizes : List Int) (a : Nat) : Nat → Nat → Int → Ft → Ft
 | 0, _, _, o => o
 | f + 1, p, size, o => if a + 2 * p ≤ ids.length then inB ids sizes a f (p + 1) (size + sizes.getD (a + p - 1) 0) (upB ids a p (size + sizes.getD (a + p - 1) 0) o) else o
def outB (ids sizes : List Int) (i : Nat) : Ft := (List.range i).foldl (fun o a => inB ids sizes a ids.length 1 0 o) ⟨0, 0, 0, 0⟩
def bestV (ids sizes : List Int) : Ft := outB ids sizes ids.length
theorem outB_snoc {ids sizes : List Int} {i : Nat} : outB ids sizes (i + 1) = inB ids sizes i ids.length 1 0 (outB ids sizes i) := by unfold outB; rw [List.range_succ, List.foldl_append]; rfl
theorem inB_yes {ids sizes : List Int} {a f p : Nat} {size : Int} {o : Ft} (h : a + 2 * p ≤ ids.length) : inB ids sizes a (f + 1) p size o = inB ids sizes a f (p + 1) (size + sizes.getD (a + p - 1) 0) (upB ids a p (size + sizes.getD (a + p - 1) 0) o) := by rw [inB, if_pos h]
theorem inB_no {ids sizes : List Int} {a f p : Nat} {size : Int} {o : Ft} (h : ¬ a + 2 * p ≤ ids.length) : inB ids sizes a f p size o = o := by
 cases f with
 | zero => rfl
 | succ f => rw [inB, if_neg h]
theorem upB_T {ids : List Int} {a p : Nat} {size : Int} {o : Ft} (h : 1 < againV ids a p ∧ o.s < size * ((againV ids a p : Int) - 1) - 1 - (if 1 < p then 1 else 0)) : upB ids a p size o = ⟨a, p, againV ids a p, size * ((againV ids a p : Int) - 1) - 1 - (if 1 < p then 1 else 0)⟩ := if_pos h
theorem upB_F {ids : List Int} {a p : Nat} {size : Int} {o : Ft} (h : ¬ (1 < againV ids a p ∧ o.s < size * ((againV ids a p : Int) - 1) - 1 - (if 1 < p then 1 else 0))) : upB ids a p size o = o := if_neg h
def fitG (ids sizes : List Int) (o : Ft) : Prop := o = ⟨0, 0, 0, 0⟩ ∨ ((1 ≤ o.p ∧ 2 ≤ o.n) ∧ o.a + o.n * o.p ≤ ids.length ∧ (∀ k, k < o.n → win ids (o.a + k * o.p) o.p = win ids o.a o.p) ∧ o.s = (win sizes o.a o.p).sum * ((o.n : Int) - 1) - 1 - (if 1 < o.p then 1 else 0) ∧ 0 < o.s)
theorem win_sum {sizes : List Int} {a p : Nat} (h : a + p ≤ sizes.length) (hp : 1 ≤ p) : (win sizes a p).sum = (win sizes a (p - 1)).sum + sizes.getD (a + p - 1) 0 := by
 unfold win
 obtain ⟨q, rfl⟩ : ∃ q, p = q + 1 := ⟨p - 1, by omega⟩
 have h1 : q < (sizes.drop a).length := by rw [List.length_drop]; omega
 rw [List.take_succ_eq_append_getElem h1, List.sum_append, Nat.add_sub_cancel]
 congr 1
 rw [List.getElem_drop, List.sum_cons, List.sum_nil, Int.add_zero, List.getD_eq_getElem?_getD, List.getElem?_eq_getElem (by omega)]
 simp
theorem inB_ok {ids sizes : List Int} {a : Nat} (hl : sizes.length = ids.length) : ∀ (f p : Nat) (size : Int) (o : Ft), 1 ≤ p → (a + (p - 1) ≤ ids.length → size = (win sizes a (p - 1)).sum) → fitG ids sizes o → fitG ids sizes (inB ids sizes a f p size o)
 | 0, p, size, o, _, _, ho => ho
 | f + 1, p, size, o, hp, hs, ho => by
   unfold inB
   split
   ·rename_i c
    have hs1 := hs (by omega)
    have hs2 := win_sum (sizes := sizes) (a := a) (p := p) (by omega) hp
    have e : size + sizes.getD (a + p - 1) 0 = (win sizes a p).sum := by rw [hs2, hs1]
    refine inB_ok hl f (p + 1) _ _ (by omega) (fun _ => e) ?_
    by_cases d : 1 < againV ids a p ∧ o.s < (size + sizes.getD (a + p - 1) 0) * ((againV ids a p : Int) - 1) - 1 - (if 1 < p then 1 else 0)
    ·rw [upB_T d]
     right
     have hk := agF_ok (l := ids) (a := a) (p := p) ids.length 1 (by omega) (by omega) (fun k hk => by
      obtain rfl : k = 0 := by omega
      rw [Nat.zero_mul, Nat.add_zero])
     have ho0 : 0 ≤ o.s := by
      rcases ho with rfl | ho
      ·exact Int.le_refl _
      ·have := ho.2.2.2.2; omega
     have d2 := d.2
     exact ⟨⟨hp, d.1⟩, hk.1, hk.2, by rw [e], by dsimp only; omega⟩
    ·rw [upB_F d]; exact ho
   ·exact ho
theorem best_ok {ids sizes : List Int} (hl : sizes.length = ids.length) : fitG ids sizes (bestV ids sizes) := by
 unfold bestV
 have : ∀ i, fitG ids sizes (outB ids sizes i) := fun i => by
  induction i with
  | zero => exact .inl rfl
  | succ i ih =>
    rw [outB_snoc]
    exact inB_ok hl _ _ _ _ (Nat.le_refl _) (fun _ => by unfold win; simp) ih
 exact this _
def idxV {α : Type} [DecidableEq α] (l : List α) : List Int := l.map fun x => ((l.findIdx fun y => decide (x = y) : Nat) : Int)
theorem idx_len {α : Type} [DecidableEq α] (l : List α) : (idxV l).length = l.length := List.length_map ..
theorem idx_self {α : Type} [DecidableEq α] {l : List α} {x : α} (h : x ∈ l) : l[l.findIdx fun y => decide (x = y)]? = some x := by
 have h1 : l.findIdx (fun y => decide (x = y)) < l.length := List.findIdx_lt_length_of_exists ⟨x, h, decide_eq_true rfl⟩
 have h2 := List.findIdx_getElem (w := h1)
 rw [List.getElem?_eq_getElem h1]
 exact congrArg some (of_decide_eq_true h2).symm
theorem idx_inj {α : Type} [DecidableEq α] {l : List α} {x y : α} (hx : x ∈ l) (hy : y ∈ l) (h : (l.findIdx fun z => decide (x = z)) = (l.findIdx fun z => decide (y = z))) : x = y := by
 have h1 := idx_self hx
 rw [h, idx_self hy] at h1
 exact (Option.some.inj h1).symm
theorem win_map {α β : Type} {f : α → β} {l : List α} {a p : Nat} : win (l.map f) a p = (win l a p).map f := by unfold win; rw [List.map_take, List.map_drop]
theorem win_mem {α : Type} {l : List α} {a p : Nat} {x : α} (h : x ∈ win l a p) : x ∈ l := List.mem_of_mem_drop (List.mem_of_mem_take h)
theorem map_inj_on {α β : Type} {f : α → β} : ∀ {l m : List α}, (∀ x ∈ l, ∀ y ∈ m, f x = f y → x = y) → l.map f = m.map f → l = m
 | [], [], _, _ => rfl
 | [], y :: m, _, h => by cases h
 | x :: l, [], _, h => by cases h
 | x :: l, y :: m, hi, h => by
   simp only [List.map_cons, List.cons.injEq] at h
   rw [hi x (List.mem_cons_self ..) y (List.mem_cons_self ..) h.1, map_inj_on (fun u hu v hv => hi u (List.mem_cons_of_mem _ hu) v (List.mem_cons_of_mem _ hv)) h.2]
theorem win_idx {α : Type} [DecidableEq α] {l : List α} {a b p : Nat} (h : win (idxV l) a p = win (idxV l) b p) : win l a p = win l b p := by
 unfold idxV at h
 rw [win_map, win_map] at h
 exact map_inj_on (fun x hx y hy e => idx_inj (win_mem hx) (win_mem hy) (by omega)) h
def joinedV (xs : List (List Nd)) : List Nd := if xs.length = 1 then xs.flatten else ⟨3, 0, (xs.length : Int)⟩ :: xs.flatten
def lenI (xs : List (List Nd)) : List Int := xs.map fun x => (x.length : Int)
def oneV (xs : List (List Nd)) (o : Ft) : List Nd := ⟨4, 0, (o.n : Int)⟩ :: joinedV (win xs o.a o.p)
def stepV (xs : List (List Nd)) (o : Ft) : List (List Nd) := xs.take o.a ++ oneV xs o :: xs.drop (o.a + o.p * o.n)
def tabF : Nat → List (List Nd) → List Nd
 | 0, xs => joinedV xs
 | f + 1, xs => if (bestV (idxV xs) (lenI xs)).n = 0 then joinedV xs else tabF f (stepV xs (bestV (idxV xs) (lenI xs)))
def leafV (r : Rn) : Nd := if r.p = -1 then ⟨2, 0, r.n⟩ else ⟨1, r.p, r.n⟩
def leavesV (l : List Rn) : List (List Nd) := l.map fun r => [leafV r]
def tableV (l : List Rn) : List Nd := if rightR l = true then tabF l.length (leavesV l) else []
def plainV (l : List Rn) : List Nd := if rightR l = true then joinedV (leavesV l) else []
theorem step6_len {xs : List (List Nd)} (h : (bestV (idxV xs) (lenI xs)).n ≠ 0) : (stepV xs (bestV (idxV xs) (lenI xs))).length < xs.length := by
 have hb := best_ok (ids := idxV xs) (sizes := lenI xs) (by rw [idx_len]; exact List.length_map ..)
 generalize bestV (idxV xs) (lenI xs) = o at h hb ⊢
 rcases hb with rfl | hb
 ·exact absurd rfl h
 ·have h1 := hb.2.1
  rw [idx_len, Nat.mul_comm] at h1
  have h2 : 2 ≤ o.p * o.n := by
   have := Nat.mul_le_mul hb.1.1 hb.1.2; omega
  unfold stepV
  rw [List.length_append, List.length_take, List.length_cons, List.length_drop]
  omega
theorem tabF_end {f : Nat} {xs : List (List Nd)} (h : (bestV (idxV xs) (lenI xs)).n = 0) : tabF f xs = joinedV xs := by
 cases f with
 | zero => rfl
 | succ f => rw [tabF, if_pos h]
theorem tabF_step {f : Nat} {xs : List (List Nd)} (h : (bestV (idxV xs) (lenI xs)).n ≠ 0) : tabF (f + 1) xs = tabF f (stepV xs (bestV (idxV xs) (lenI xs))) := by rw [tabF, if_neg h]
end Go.AM.PL
