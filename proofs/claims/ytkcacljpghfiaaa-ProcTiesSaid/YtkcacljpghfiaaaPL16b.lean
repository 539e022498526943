/- Contracts of the functions that the statement reaches. No condition. -/
import Derived.Test.YtkcacljpghfiaaaPL16
set_option linter.all false
set_option maxRecDepth 10000
namespace Go.AM.PL
def isV (ps : List Pr) (i : Int) : Bool := decide (i ≥ 0) && decide (i < (ps.length : Int))
theorem isV_iff {ps : List Pr} {i : Int} : isV ps i = true ↔ 0 ≤ i ∧ i < ps.length := by unfold isV; rw [Bool.and_eq_true, decide_eq_true_eq, decide_eq_true_eq]
def wakeV (ps : List Pr) (i : Int) : Int := if isV ps i = true then (prD ps i.toNat).wake else 0
def endedV (ps : List Pr) (i : Int) : Bool := !isV ps i || (prD ps i.toNat).ended
def sleepV (ps : List Pr) (i u : Int) : List Pr := if isV ps i = true then ps.set i.toNat { prD ps i.toNat with wake := u } else ps
def endV (ps : List Pr) (i : Int) : List Pr := if isV ps i = true then ps.set i.toNat { prD ps i.toNat with ended := true } else ps
def newP (l : List Sp) : List Pr := l.map fun x => ⟨x.2, 0, false⟩
theorem newP_len (l : List Sp) : (newP l).length = l.length := List.length_map ..
theorem newP_snoc {l : List Sp} {i : Nat} (h : i < l.length) : newP (l.take (i + 1)) = newP (l.take i) ++ [⟨l[i].2, 0, false⟩] := by
 unfold newP; rw [List.take_succ_eq_append_getElem h, List.map_append]; rfl
theorem prD_set {ps : List Pr} {i k : Nat} {p : Pr} (hi : i < ps.length) : prD (ps.set i p) k = if k = i then p else prD ps k := by
 unfold prD
 rw [List.getD_eq_getElem?_getD, List.getD_eq_getElem?_getD, List.getElem?_set]
 by_cases c : i = k
 ·subst c; rw [if_pos rfl, if_pos hi, if_pos rfl]; rfl
 ·rw [if_neg c, if_neg fun e => c e.symm]
theorem sleep_len {ps : List Pr} {i u : Int} : (sleepV ps i u).length = ps.length := by unfold sleepV; split <;> simp
theorem end_len {ps : List Pr} {i : Int} : (endV ps i).length = ps.length := by unfold endV; split <;> simp
theorem pr_ext {ps qs : List Pr} (hl : ps.length = qs.length) (h : ∀ k, k < ps.length → prD ps k = prD qs k) : ps = qs := by
 refine List.ext_getElem? fun k => ?_
 by_cases c : k < ps.length
 ·rw [prD_at c, prD_at (by omega), h k c]
 ·rw [List.getElem?_eq_none (by omega), List.getElem?_eq_none (by omega)]
theorem end_at {ps : List Pr} {i k : Nat} (hi : i < ps.length) : prD (endV ps i) k = if k = i then { prD ps i with ended := true } else prD ps k := by
 unfold endV
 rw [if_pos (isV_iff.2 ⟨by omega, by omega⟩), Int.toNat_natCast, prD_set hi]
theorem newP_at {l : List Sp} {k : Nat} (h : k < l.length) : prD (newP l) k = ⟨(l.getD k (0, 0)).2, 0, false⟩ := by
 unfold prD newP
 rw [List.getD_eq_getElem?_getD, List.getElem?_map, List.getElem?_eq_getElem h, List.getD_eq_getElem?_getD, List.getElem?_eq_getElem h]; rfl
def tieP (k : Nat) (pr : Int) (i : Nat) : List Pr := (List.range k).map fun j => ⟨pr, 0, decide (j < i)⟩
theorem tie_len {k i : Nat} {pr : Int} : (tieP k pr i).length = k := by unfold tieP; simp
theorem tie_at {k i j : Nat} {pr : Int} (h : j < k) : prD (tieP k pr i) j = ⟨pr, 0, decide (j < i)⟩ := by
 unfold prD tieP
 rw [List.getD_eq_getElem?_getD, List.getElem?_map, List.getElem?_range h]; rfl
theorem tie_new {k : Nat} {pr : Int} : newP (List.replicate k (0, pr)) = tieP k pr 0 := by
 refine pr_ext (by rw [newP_len, tie_len, List.length_replicate]) fun j hj => ?_
 rw [newP_len, List.length_replicate] at hj
 rw [newP_at (by rw [List.length_replicate]; exact hj), tie_at hj, List.getD_eq_getElem?_getD, List.getElem?_replicate, if_pos hj]; rfl
theorem tie_end {k i : Nat} {pr : Int} (h : i < k) : endV (tieP k pr i) (i : Int) = tieP k pr (i + 1) := by
 refine pr_ext (by rw [end_len, tie_len, tie_len]) fun j hj => ?_
 rw [end_len, tie_len] at hj
 rw [end_at (by rw [tie_len]; exact h), tie_at hj, tie_at hj, tie_at h]
 by_cases c : j = i
 ·subst c; rw [if_pos rfl, decide_eq_true (show j < j + 1 by omega)]
 ·rw [if_neg c, show decide (j < i) = decide (j < i + 1) from decide_eq_decide.2 (by omega)]
theorem tie_pick {k i : Nat} {pr now : Int} (hn : 0 ≤ now) (h : i ≤ k) : pickV (tieP k pr i) now = if i < k then (i : Int) else -1 := by
 have hp := pickS_ok (ps := tieP k pr i) (now := now) (tieP k pr i).length
 have hr : ∀ j, j < k → rdy now (prD (tieP k pr i) j) = decide (i ≤ j) := fun j hj => by
  rw [tie_at hj]
  unfold rdy
  dsimp only
  rw [decide_eq_true hn, Bool.and_true]
  by_cases c : j < i
  ·rw [decide_eq_true c, decide_eq_false (by omega)]; rfl
  ·rw [decide_eq_false c, decide_eq_true (by omega)]; rfl
 rw [tie_len] at hp
 unfold pickV
 rw [tie_len]
 rcases hp with ⟨e, hp⟩ | ⟨b, e1, e2, e3, e4⟩
 ·rw [e]
  split
  ·rename_i c
   have := hp i c
   rw [hr i c, decide_eq_true (Nat.le_refl i)] at this
   cases this
  ·rfl
 ·rw [e1]
  rw [hr b e2, decide_eq_true_eq] at e3
  rw [if_pos (by omega)]
  have h4 := e4 i (by omega) (by rw [hr i (by omega)]; exact decide_eq_true (Nat.le_refl i))
  rw [less_iff, tie_at (by omega), tie_at e2] at h4
  dsimp only at h4
  omega
theorem next_T {ps : List Pr} {now : Int} {i : Nat} (h : ((prD ps i).ended = false ∧ now < (prD ps i).wake) ∧ ((nextS ps now i).2 = false ∨ (prD ps i).wake < (nextS ps now i).1)) : ((!(prD ps i).ended && decide ((prD ps i).wake > now)) = true) ∧ ((nextS ps now i).2 = false ∨ (prD ps i).wake < (nextS ps now i).1) :=
 ⟨by rw [h.1.1, decide_eq_true (show (prD ps i).wake > now from h.1.2)]; rfl, h.2⟩
theorem next_F {ps : List Pr} {now : Int} {i : Nat} (h : ((prD ps i).ended = true ∨ (prD ps i).wake ≤ now) ∨ ((nextS ps now i).2 = true ∧ (nextS ps now i).1 ≤ (prD ps i).wake)) : ¬ (((!(prD ps i).ended && decide ((prD ps i).wake > now)) = true) ∧ ((nextS ps now i).2 = false ∨ (prD ps i).wake < (nextS ps now i).1)) := fun c => by
 have c1 := c.1
 rw [Bool.and_eq_true, Bool.not_eq_true', decide_eq_true_eq] at c1
 rcases h with (h | h) | h
 ·rw [h] at c1; cases c1.1
 ·omega
 ·rcases c.2 with d | d
  ·rw [h.1] at d; cases d
  ·omega
theorem is_sleep {ps : List Pr} {i u j : Int} : isV (sleepV ps i u) j = isV ps j := by unfold isV; rw [sleep_len]
theorem is_end {ps : List Pr} {i j : Int} : isV (endV ps i) j = isV ps j := by unfold isV; rw [end_len]
end Go.AM.PL
