/- Contracts of the functions that the statement reaches. No condition. -/
import Derived.Test.YtkcacljpghfiaaaPL16
set_option linter.all false
set_option maxRecDepth 10000
namespace Go.AM.PL
def isV (ps : List Pr) (i : Int) : Bool := decide (i ≥ 0) && decide (i < (ps.length : Int))
theorem isV_iff {ps : List Pr} {i : Int} : isV ps i = true ↔ 0 ≤ i ∧ i < ps.length := by unfold isV; rw [Bool.and_eq_true, decide_eq_true_eq, decide_eq_true_eq]
def wakeV (ps : List Pr) (i : Int) : Int := if isV ps i = true then (prD ps i.toNat).wake else 0
def endedV (ps : List Pr) (i : Int) : Bool := !isV ps i || (prD ps i.toNat).ended
def sleepV (ps : List Pr) (i u : Int) : List Pr := if isV ps i = true then ps.set i.toNat { prD ps i.toNat with wake := u } else ps
def endV (ps : List Pr) (i : Int) : List Pr := if isV ps i = true then ps.set i.toNat { prD ps i.toNat with ended := true } else ps
def rstP (p : Pr) : Pr := ⟨p.prio, 0, false⟩
def newP (l : List Sp) : List Pr := l.map fun x => ⟨x.2, 0, false⟩
theorem newP_len (l : List Sp) : (newP l).length = l.length := List.length_map ..
theorem newP_snoc {l : List Sp} {i : Nat} (h : i < l.length) : newP (l.take (i + 1)) = newP (l.take i) ++ [⟨l[i].2, 0, false⟩] := by
 unfold newP; rw [List.take_succ_eq_append_getElem h, List.map_append]; rfl
theorem prD_set {ps : List Pr} {i k : Nat} {p : Pr} (hi : i < ps.length) : prD (ps.set i p) k = if k = i then p else prD ps k := by
 unfold prD
 rw [List.getD_eq_getElem?_getD, List.getD_eq_getElem?_getD, List.getElem?_set]
 by_cases c : i = k
 ·subst c; rw [if_pos rfl, if_pos hi, if_pos rfl]; rfl
 ·rw [if_neg c, if_neg fun e => c e.symm]
theorem sleep_len {ps : List Pr} {i u : Int} : (sleepV ps i u).length = ps.length := by unfold sleepV; split <;> simp
theorem end_len {ps : List Pr} {i : Int} : (endV ps i).length = ps.length := by unfold endV; split <;> simp
theorem pr_ext {ps qs : List Pr} (hl : ps.length = qs.length) (h : ∀ k, k < ps.length → prD ps k = prD qs k) : ps = qs := by
 refine List.ext_getElem? fun k => ?_
 by_cases c : k < ps.length
 ·rw [prD_at c, prD_at (by omega), h k c]
 ·rw [List.getElem?_eq_none (by omega), List.getElem?_eq_none (by omega)]
theorem sleep_at {ps : List Pr} {i k : Nat} {u : Int} (hi : i < ps.length) : prD (sleepV ps i u) k = if k = i then { prD ps i with wake := u } else prD ps k := by
 unfold sleepV
 rw [if_pos (isV_iff.2 ⟨by omega, by omega⟩), Int.toNat_natCast, prD_set hi]
theorem end_at {ps : List Pr} {i k : Nat} (hi : i < ps.length) : prD (endV ps i) k = if k = i then { prD ps i with ended := true } else prD ps k := by
 unfold endV
 rw [if_pos (isV_iff.2 ⟨by omega, by omega⟩), Int.toNat_natCast, prD_set hi]
theorem newP_at {l : List Sp} {k : Nat} (h : k < l.length) : prD (newP l) k = ⟨(l.getD k (0, 0)).2, 0, false⟩ := by
 unfold prD newP
 rw [List.getD_eq_getElem?_getD, List.getElem?_map, List.getElem?_eq_getElem h, List.getD_eq_getElem?_getD, List.getElem?_eq_getElem h]; rfl
theorem rst_new {l : List Sp} {ps : List Pr} (hl : ps.length = l.length) (h : ∀ k, k < l.length → (prD ps k).prio = (l.getD k (0, 0)).2) : ps.map rstP = newP l := by
 refine pr_ext (by rw [List.length_map, newP_len, hl]) fun k hk => ?_
 rw [List.length_map] at hk
 rw [newP_at (by omega), ← h k (by omega)]
 unfold prD
 rw [List.getD_eq_getElem?_getD, List.getElem?_map, List.getElem?_eq_getElem hk, List.getD_eq_getElem?_getD, List.getElem?_eq_getElem hk]; rfl
theorem next_T {ps : List Pr} {now : Int} {i : Nat} (h : ((prD ps i).ended = false ∧ now < (prD ps i).wake) ∧ ((nextS ps now i).2 = false ∨ (prD ps i).wake < (nextS ps now i).1)) : ((!(prD ps i).ended && decide ((prD ps i).wake > now)) = true) ∧ ((nextS ps now i).2 = false ∨ (prD ps i).wake < (nextS ps now i).1) :=
 ⟨by rw [h.1.1, decide_eq_true (show (prD ps i).wake > now from h.1.2)]; rfl, h.2⟩
theorem next_F {ps : List Pr} {now : Int} {i : Nat} (h : ((prD ps i).ended = true ∨ (prD ps i).wake ≤ now) ∨ ((nextS ps now i).2 = true ∧ (nextS ps now i).1 ≤ (prD ps i).wake)) : ¬ (((!(prD ps i).ended && decide ((prD ps i).wake > now)) = true) ∧ ((nextS ps now i).2 = false ∨ (prD ps i).wake < (nextS ps now i).1)) := fun c => by
 have c1 := c.1
 rw [Bool.and_eq_true, Bool.not_eq_true', decide_eq_true_eq] at c1
 rcases h with (h | h) | h
 ·rw [h] at c1; cases c1.1
 ·omega
 ·rcases c.2 with d | d
  ·rw [h.1] at d; cases d
  ·omega
theorem is_sleep {ps : List Pr} {i u j : Int} : isV (sleepV ps i u) j = isV ps j := by unfold isV; rw [sleep_len]
theorem is_end {ps : List Pr} {i j : Int} : isV (endV ps i) j = isV ps j := by unfold isV; rw [end_len]
theorem rst_step {ps qs : List Pr} {i : Nat} (hi : i < qs.length) {n : Nat} (hq : ∀ k, k < n → prD qs k = if k < i then rstP (prD ps k) else prD ps k) {k : Nat} (hk : k < n) : prD (qs.set i { prD qs i with wake := 0, ended := false }) k = if k < i + 1 then rstP (prD ps k) else prD ps k := by
 rw [prD_set hi]
 by_cases c : k = i
 ·subst c
  have h := hq k hk
  rw [if_neg (by omega)] at h
  rw [if_pos rfl, if_pos (by omega), h]; rfl
 ·rw [if_neg c, hq k hk]
  by_cases d : k < i
  ·rw [if_pos d, if_pos (by omega)]
  ·rw [if_neg d, if_neg (by omega)]
theorem rst_all {ps qs : List Pr} (hl : qs.length = ps.length) (h : ∀ k, k < ps.length → prD qs k = rstP (prD ps k)) : qs = ps.map rstP := by
 refine pr_ext (by rw [List.length_map, hl]) fun k hk => ?_
 rw [h k (by omega)]
 unfold prD
 rw [List.getD_eq_getElem?_getD, List.getElem?_eq_getElem (by omega), List.getD_eq_getElem?_getD, List.getElem?_map, List.getElem?_eq_getElem (by omega)]; rfl
theorem wake_at {ps : List Pr} {i : Nat} (hi : i < ps.length) : wakeV ps (i : Int) = (prD ps i).wake := by
 unfold wakeV; rw [if_pos (isV_iff.2 ⟨by omega, by omega⟩), Int.toNat_natCast]
theorem ended_at {ps : List Pr} {i : Nat} (hi : i < ps.length) : endedV ps (i : Int) = (prD ps i).ended := by
 unfold endedV; rw [isV_iff.2 ⟨by omega, by omega⟩, Int.toNat_natCast]; rfl
end Go.AM.PL
