/- Contracts of the functions that the statement reaches. No condition. -/
import Derived.Test.YtabhoinefficpaaPLo
set_option linter.all false
set_option maxRecDepth 10000
namespace Go.AM.PL
structure Mv where
 i : Int
 j : Int
 r : Bool
 deriving DecidableEq
def encMv (m : Mv) : List GV := [.v (.int .i64 m.i), .v (.int .i64 m.j), .v (.bool m.r)]
def plc (l : List Rn) (i j : Int) : Bool := (decide (i ≥ 0) && decide (j > i)) && decide (j < (l.length : Int))
theorem plc_iff {l : List Rn} {i j : Int} : plc l i j = true ↔ (0 ≤ i ∧ i < j) ∧ j < l.length := by
 unfold plc; rw [Bool.and_eq_true, Bool.and_eq_true, decide_eq_true_eq, decide_eq_true_eq, decide_eq_true_eq]
def blkM (dep : List (List Bool)) (p : Int) (r : Rn) : Bool := (r.p == p) || ((!(p == -1) && !(r.p == -1)) && depV8 dep p r.p)
def midV (l : List Rn) (i j : Nat) : List Rn := (l.take j).drop (i + 1)
def rnD (l : List Rn) (i : Nat) : Rn := l.getD i ⟨0, 0⟩
theorem set_ne10 {l : List Rn} {i j : Nat} {x : Rn} (h : i ≠ j) (hj : j < l.length) : (l.set i x)[j]? = some (rnD l j) := by rw [List.getElem?_set_ne h]; exact gd17 (⟨0, 0⟩ : Rn) hj
def mayN (l : List Rn) (dep : List (List Bool)) (i j : Nat) : Bool := decide ((rnD l i).p = (rnD l j).p) && !(midV l i j).any (blkM dep (rnD l i).p)
def mayV (l : List Rn) (dep : List (List Bool)) (i j : Int) : Bool := plc l i j && mayN l dep i.toNat j.toNat
theorem may_0 {l : List Rn} {dep : List (List Bool)} {i j : Int} (h : ¬ (((0 ≤ i ∧ i < j) ∧ j < l.length) ∧ (rnD l i.toNat).p = (rnD l j.toNat).p)) : mayV l dep i j = false := by
 cases e : mayV l dep i j with
 | false => rfl
 | true =>
   unfold mayV mayN at e
   rw [Bool.and_eq_true, Bool.and_eq_true, decide_eq_true_eq, plc_iff] at e
   exact absurd ⟨e.1, e.2.1⟩ h
theorem may_1 {l : List Rn} {dep : List (List Bool)} {i j : Nat} (h1 : i < j) (h2 : j < l.length) (h3 : (rnD l i).p = (rnD l j).p) : mayV l dep i j = !(midV l i j).any (blkM dep (rnD l i).p) := by
 unfold mayV mayN
 rw [plc_iff.2 (by omega), Int.toNat_natCast, Int.toNat_natCast, decide_eq_true h3]; rfl
theorem may_yes {dep : List (List Bool)} {p : Int} {r : Rn} (h : r.p = p ∨ ((¬ p = -1 ∧ ¬ r.p = -1) ∧ depV8 dep p r.p = true)) : blkM dep p r = true := by
 unfold blkM; rw [Bool.or_eq_true, Bool.and_eq_true, Bool.and_eq_true, beq_iff_eq]
 rcases h with h | h
 ·exact .inl h
 ·exact .inr ⟨⟨by simpa using h.1.1, by simpa using h.1.2⟩, h.2⟩
theorem may_no {dep : List (List Bool)} {p : Int} {r : Rn} (h : ¬ r.p = p ∧ ((p = -1 ∨ r.p = -1) ∨ depV8 dep p r.p = false)) : blkM dep p r = false := by
 unfold blkM; rw [Bool.or_eq_false_iff, Bool.and_eq_false_iff, Bool.and_eq_false_iff, beq_eq_false_iff_ne]
 refine ⟨h.1, ?_⟩
 rcases h.2 with (h | h) | h
 ·exact .inl (.inl (by simpa using h))
 ·exact .inl (.inr (by simpa using h))
 ·exact .inr h
theorem plc_no {l : List Rn} {i j : Int} (h : (i < 0 ∨ j ≤ i) ∨ (l.length : Int) ≤ j) : plc l i j = false := by
 cases e : plc l i j with
 | false => rfl
 | true => have := plc_iff.1 e; omega
def doV (l : List Rn) (i j : Int) (r : Bool) : List Rn := if plc l i j = true then
    (let to := if r = true then j.toNat else i.toNat
     let fr := if r = true then i.toNat else j.toNat
     tidyV ((l.set to ⟨(rnD l to).p, sadd (rnD l to).n (rnD l fr).n⟩).set fr ⟨(rnD l fr).p, 0⟩)) else l
def setM (l : List Rn) (to fr : Nat) : List Rn := (l.set to ⟨(rnD l to).p, sadd (rnD l to).n (rnD l fr).n⟩).set fr ⟨(rnD l fr).p, 0⟩
theorem do_F {l : List Rn} {i j : Nat} (h : i < j ∧ j < l.length) : doV l i j false = tidyV (setM l i j) := by unfold doV; rw [if_pos (plc_iff.2 (by omega))]; rfl
theorem do_T {l : List Rn} {i j : Nat} (h : i < j ∧ j < l.length) : doV l i j true = tidyV (setM l j i) := by unfold doV; rw [if_pos (plc_iff.2 (by omega))]; rfl
theorem do_0 {l : List Rn} {i j : Int} {r : Bool} (h : plc l i j = false) : doV l i j r = l := by unfold doV; rw [if_neg (by rw [h]; decide)]
theorem sadd_i64 {a b : Int} : 0 ≤ sadd a b ∧ sadd a b < 2 ^ 63 := by unfold sadd; (repeat' split) <;> omega
theorem setM_ok {l : List Rn} {to fr : Nat} (h : ∀ r ∈ l, okN r) (hf : fr < l.length) (ht : to < l.length) : ∀ r ∈ setM l to fr, okN r := fun r hr => by
 have k : ∀ i, i < l.length → okN (rnD l i) := fun i hi => h _ (getD_mem hi)
 unfold setM at hr
 rcases List.mem_or_eq_of_mem_set hr with hr | rfl
 ·rcases List.mem_or_eq_of_mem_set hr with hr | rfl
  ·exact h r hr
  ·have := k to ht
   have := sadd_i64 (a := (rnD l to).n) (b := (rnD l fr).n)
   unfold okN i64 at *; dsimp only; omega
 ·have := k fr hf
  unfold okN i64 at *; dsimp only; omega
theorem setM_len {l : List Rn} {to fr : Nat} : (setM l to fr).length = l.length := by unfold setM; rw [List.length_set, List.length_set]
def cellM (l : List Rn) (dep : List (List Bool)) (i j : Nat) : List Mv := if mayV l dep i j = true then [⟨i, j, false⟩, ⟨i, j, true⟩] else []
def rowM (l : List Rn) (dep : List (List Bool)) (i k : Nat) : List Mv := (List.range k).flatMap fun t => cellM l dep i (i + 1 + t)
def allM (l : List Rn) (dep : List (List Bool)) (i : Nat) : List Mv := (List.range i).flatMap fun a => rowM l dep a (l.length - (a + 1))
def allV (l : List Rn) (dep : List (List Bool)) : List Mv := allM l dep l.length
theorem rowM_snoc {l : List Rn} {dep : List (List Bool)} {i k : Nat} : rowM l dep i (k + 1) = rowM l dep i k ++ cellM l dep i (i + 1 + k) := by unfold rowM; rw [List.range_succ, List.flatMap_append]; simp
theorem allM_snoc {l : List Rn} {dep : List (List Bool)} {i : Nat} : allM l dep (i + 1) = allM l dep i ++ rowM l dep i (l.length - (i + 1)) := by unfold allM; rw [List.range_succ, List.flatMap_append]; simp
theorem cellM_len {l : List Rn} {dep : List (List Bool)} {i j : Nat} : (cellM l dep i j).length ≤ 2 := by unfold cellM; split <;> simp
theorem rowM_len {l : List Rn} {dep : List (List Bool)} {i : Nat} : ∀ k, (rowM l dep i k).length ≤ 2 * k
 | 0 => Nat.le_refl _
 | k + 1 => by rw [rowM_snoc, List.length_append]; have := rowM_len (l := l) (dep := dep) (i := i) k; have := cellM_len (l := l) (dep := dep) (i := i) (j := i + 1 + k); omega
theorem allM_len {l : List Rn} {dep : List (List Bool)} : ∀ i, (allM l dep i).length ≤ 2 * l.length * i
 | 0 => Nat.le_refl _
 | i + 1 => by
   rw [allM_snoc, List.length_append]
   have := allM_len (l := l) (dep := dep) i
   have := rowM_len (l := l) (dep := dep) (i := i) (l.length - (i + 1))
   have : 2 * l.length * (i + 1) = 2 * l.length * i + 2 * l.length := by rw [Nat.mul_add, Nat.mul_one]
   omega
def fitV (P : List Pt) (C : List Ch) (l : List Rn) (i j : Int) (r : Bool) : Bool := mayV l (matF P.length (depG P C)) i j && decide (holdV C P (doV l i j r) = 0)
def kl10 : List Rn := [⟨0, 1⟩, ⟨1, 2⟩, ⟨0, 3⟩]
theorem kl10_ok : ∀ r ∈ kl10, okN r ∧ 1 ≤ r.n ∧ r.n ≤ 4096 := by unfold okN i64; decide
def zP2 : List Pt := [zP, zP]
theorem mid_len {l : List Rn} {i j : Nat} (h : j ≤ l.length) : (midV l i j).length = j - (i + 1) := by unfold midV; rw [List.length_drop, List.length_take]; omega
end Go.AM.PL
