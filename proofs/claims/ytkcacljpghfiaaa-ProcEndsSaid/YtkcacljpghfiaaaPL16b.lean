/- Contracts of the functions that the statement reaches. No condition. -/
import Derived.Test.YtkcacljpghfiaaaPL16
set_option linter.all false
set_option maxRecDepth 10000
namespace Go.AM.PL
def isV (ps : List Pr) (i : Int) : Bool := decide (i ≥ 0) && decide (i < (ps.length : Int))
theorem isV_iff {ps : List Pr} {i : Int} : isV ps i = true ↔ 0 ≤ i ∧ i < ps.length := by unfold isV; rw [Bool.and_eq_true, decide_eq_true_eq, decide_eq_true_eq]
def wakeV (ps : List Pr) (i : Int) : Int := if isV ps i = true then (prD ps i.toNat).wake else 0
def endedV (ps : List Pr) (i : Int) : Bool := !isV ps i || (prD ps i.toNat).ended
def sleepV (ps : List Pr) (i u : Int) : List Pr := if isV ps i = true then ps.set i.toNat { prD ps i.toNat with wake := u } else ps
def endV (ps : List Pr) (i : Int) : List Pr := if isV ps i = true then ps.set i.toNat { prD ps i.toNat with ended := true } else ps
def rstP (p : Pr) : Pr := ⟨p.prio, 0, false⟩
def newP (l : List Sp) : List Pr := l.map fun x => ⟨x.2, 0, false⟩
theorem newP_len (l : List Sp) : (newP l).length = l.length := List.length_map ..
theorem newP_snoc {l : List Sp} {i : Nat} (h : i < l.length) : newP (l.take (i + 1)) = newP (l.take i) ++ [⟨l[i].2, 0, false⟩] := by
 unfold newP; rw [List.take_succ_eq_append_getElem h, List.map_append]; rfl
theorem prD_set {ps : List Pr} {i k : Nat} {p : Pr} (hi : i < ps.length) : prD (ps.set i p) k = if k = i then p else prD ps k := by
 unfold prD
 rw [List.getD_eq_getElem?_getD, List.getD_eq_getElem?_getD, List.getElem?_set]
 by_cases c : i = k
 ·subst c; rw [if_pos rfl, if_pos hi, if_pos rfl]; rfl
 ·rw [if_neg c, if_neg fun e => c e.symm]
theorem sleep_len {ps : List Pr} {i u : Int} : (sleepV ps i u).length = ps.length := by unfold sleepV; split <;> simp
theorem end_len {ps : List Pr} {i : Int} : (endV ps i).length = ps.length := by unfold endV; split <;> simp
theorem pr_ext {ps qs : List Pr} (hl : ps.length = qs.length) (h : ∀ k, k < ps.length → prD ps k = prD qs k) : ps = qs := by
 refine List.ext_getElem? fun k => ?_
 by_cases c : k < ps.length
 ·rw [prD_at c, prD_at (by omega), h k c]
 ·rw [List.getElem?_eq_none (by omega), List.getElem?_eq_none (by omega)]
theorem sleep_at {ps : List Pr} {i k : Nat} {u : Int} (hi : i < ps.length) : prD (sleepV ps i u) k = if k = i then { prD ps i with wake := u } else prD ps k := by
 unfold sleepV
 rw [if_pos (isV_iff.2 ⟨by omega, by omega⟩), Int.toNat_natCast, prD_set hi]
theorem end_at {ps : List Pr} {i k : Nat} (hi : i < ps.length) : prD (endV ps i) k = if k = i then { prD ps i with ended := true } else prD ps k := by
 unfold endV
 rw [if_pos (isV_iff.2 ⟨by omega, by omega⟩), Int.toNat_natCast, prD_set hi]
theorem newP_at {l : List Sp} {k : Nat} (h : k < l.length) : prD (newP l) k = ⟨(l.getD k (0, 0)).2, 0, false⟩ := by
 unfold prD newP
 rw [List.getD_eq_getElem?_getD, List.getElem?_map, List.getElem?_eq_getElem h, List.getD_eq_getElem?_getD, List.getElem?_eq_getElem h]; rfl
theorem nextS_ok {ps : List Pr} {now : Int} : ∀ i, ((nextS ps now i) = (-1, false) ∧ ∀ x, x < i → ((prD ps x).ended = true ∨ (prD ps x).wake ≤ now)) ∨ ((nextS ps now i).2 = true ∧ ∃ b : Nat, b < i ∧ (prD ps b).ended = false ∧ now < (prD ps b).wake ∧ (nextS ps now i).1 = (prD ps b).wake)
 | 0 => .inl ⟨rfl, fun x h => by omega⟩
 | i + 1 => by
   have ih := nextS_ok (ps := ps) (now := now) i
   unfold nextS
   split
   ·rename_i c
    have c1 := c.1
    rw [Bool.and_eq_true, Bool.not_eq_true', decide_eq_true_eq] at c1
    exact .inr ⟨rfl, i, by omega, c1.1, c1.2, rfl⟩
   ·rename_i c
    rcases ih with ⟨e, ih⟩ | ⟨e, b, h1, h2, h3, h4⟩
    ·refine .inl ⟨e, fun x hx => ?_⟩
     by_cases d : x = i
     ·subst d
      cases hE : (prD ps x).ended with
      | true => exact .inl rfl
      | false =>
        refine .inr ?_
        by_cases w : (prD ps x).wake ≤ now
        ·exact w
        ·exact absurd ⟨by rw [hE, decide_eq_true (show (prD ps x).wake > now by omega)]; rfl, .inl (by rw [e])⟩ c
     ·exact ih x (by omega)
    ·exact .inr ⟨e, b, by omega, h2, h3, h4⟩
theorem next_none {ps : List Pr} {now : Int} (h : ∀ x, x < ps.length → (prD ps x).wake ≤ now) : nextP ps now = -1 := by
 rcases nextS_ok (ps := ps) (now := now) ps.length with ⟨e, h2⟩ | ⟨e, b, h2, h3, h4, h5⟩
 ·unfold nextP; rw [e]
 ·have := h b h2; omega
theorem pick_rng {ps : List Pr} {now : Int} : -1 ≤ pickV ps now ∧ pickV ps now < ps.length := by
 rcases pickS_ok (ps := ps) (now := now) ps.length with ⟨e, h⟩ | ⟨b, e, h, _⟩
 ·unfold pickV; omega
 ·unfold pickV; omega
theorem pick_rdy {ps : List Pr} {now : Int} (h : 0 ≤ pickV ps now) : rdy now (prD ps (pickV ps now).toNat) = true := by
 rcases pickS_ok (ps := ps) (now := now) ps.length with ⟨e, _⟩ | ⟨b, e, _, h2, _⟩
 ·unfold pickV at h; omega
 ·unfold pickV; rw [e, Int.toNat_natCast]; exact h2
theorem pick_least {ps : List Pr} {now : Int} {x : Nat} (hx : x < ps.length) (hr : rdy now (prD ps x) = true) : ∃ b : Nat, pickV ps now = b ∧ b < ps.length ∧ ¬ lessV ps x b = true := by
 rcases pickS_ok (ps := ps) (now := now) ps.length with ⟨e, h⟩ | ⟨b, e, h, _, h3⟩
 ·rw [h x hx] at hr; cases hr
 ·exact ⟨b, e, h, h3 x hx hr⟩
theorem rst_new {l : List Sp} {ps : List Pr} (hl : ps.length = l.length) (h : ∀ k, k < l.length → (prD ps k).prio = (l.getD k (0, 0)).2) : ps.map rstP = newP l := by
 refine pr_ext (by rw [List.length_map, newP_len, hl]) fun k hk => ?_
 rw [List.length_map] at hk
 rw [newP_at (by omega), ← h k (by omega)]
 unfold prD
 rw [List.getD_eq_getElem?_getD, List.getElem?_map, List.getElem?_eq_getElem hk, List.getD_eq_getElem?_getD, List.getElem?_eq_getElem hk]; rfl
theorem next_T {ps : List Pr} {now : Int} {i : Nat} (h : ((prD ps i).ended = false ∧ now < (prD ps i).wake) ∧ ((nextS ps now i).2 = false ∨ (prD ps i).wake < (nextS ps now i).1)) : ((!(prD ps i).ended && decide ((prD ps i).wake > now)) = true) ∧ ((nextS ps now i).2 = false ∨ (prD ps i).wake < (nextS ps now i).1) :=
 ⟨by rw [h.1.1, decide_eq_true (show (prD ps i).wake > now from h.1.2)]; rfl, h.2⟩
theorem next_F {ps : List Pr} {now : Int} {i : Nat} (h : ((prD ps i).ended = true ∨ (prD ps i).wake ≤ now) ∨ ((nextS ps now i).2 = true ∧ (nextS ps now i).1 ≤ (prD ps i).wake)) : ¬ (((!(prD ps i).ended && decide ((prD ps i).wake > now)) = true) ∧ ((nextS ps now i).2 = false ∨ (prD ps i).wake < (nextS ps now i).1)) := fun c => by
 have c1 := c.1
 rw [Bool.and_eq_true, Bool.not_eq_true', decide_eq_true_eq] at c1
 rcases h with (h | h) | h
 ·rw [h] at c1; cases c1.1
 ·omega
 ·rcases c.2 with d | d
  ·rw [h.1] at d; cases d
  ·omega
theorem is_sleep {ps : List Pr} {i u j : Int} : isV (sleepV ps i u) j = isV ps j := by unfold isV; rw [sleep_len]
theorem is_end {ps : List Pr} {i j : Int} : isV (endV ps i) j = isV ps j := by unfold isV; rw [end_len]
theorem rst_step {ps qs : List Pr} {i : Nat} (hi : i < qs.length) {n : Nat} (hq : ∀ k, k < n → prD qs k = if k < i then rstP (prD ps k) else prD ps k) {k : Nat} (hk : k < n) : prD (qs.set i { prD qs i with wake := 0, ended := false }) k = if k < i + 1 then rstP (prD ps k) else prD ps k := by
 rw [prD_set hi]
 by_cases c : k = i
 ·subst c
  have h := hq k hk
  rw [if_neg (by omega)] at h
  rw [if_pos rfl, if_pos (by omega), h]; rfl
 ·rw [if_neg c, hq k hk]
  by_cases d : k < i
  ·rw [if_pos d, if_pos (by omega)]
  ·rw [if_neg d, if_neg (by omega)]
theorem rst_all {ps qs : List Pr} (hl : qs.length = ps.length) (h : ∀ k, k < ps.length → prD qs k = rstP (prD ps k)) : qs = ps.map rstP := by
 refine pr_ext (by rw [List.length_map, hl]) fun k hk => ?_
 rw [h k (by omega)]
 unfold prD
 rw [List.getD_eq_getElem?_getD, List.getElem?_eq_getElem (by omega), List.getD_eq_getElem?_getD, List.getElem?_map, List.getElem?_eq_getElem (by omega)]; rfl
def ordL (pr : List Int) (i : Nat) : List Sp := (pr.take i).map fun p => ((0 : Int), andI .i64 p 7)
theorem ordL_snoc {pr : List Int} {i : Nat} (h : i < pr.length) : ordL pr (i + 1) = ordL pr i ++ [((0 : Int), andI .i64 pr[i] 7)] := by
 unfold ordL; rw [List.take_succ_eq_append_getElem h, List.map_append]; rfl
theorem ordL_len {pr : List Int} {i : Nat} : (ordL pr i).length ≤ i := by unfold ordL; rw [List.length_map, List.length_take]; omega
def SameP (L : List Sp) (ps : List Pr) : Prop := ps.length = L.length ∧ ∀ k, k < L.length → (prD ps k).prio = (L.getD k (0, 0)).2
theorem same_new (L : List Sp) : SameP L (newP L) := ⟨newP_len L, fun k h => by rw [newP_at h]⟩
theorem same_sleep {L : List Sp} {ps : List Pr} {i : Nat} {u : Int} (h : SameP L ps) (hi : i < L.length) : SameP L (sleepV ps i u) := by
 refine ⟨by rw [sleep_len]; exact h.1, fun k hk => ?_⟩
 rw [sleep_at (by rw [h.1]; exact hi)]
 split
 ·rename_i c; subst c; exact h.2 k hk
 ·exact h.2 k hk
theorem same_end {L : List Sp} {ps : List Pr} {i : Nat} (h : SameP L ps) (hi : i < L.length) : SameP L (endV ps i) := by
 refine ⟨by rw [end_len]; exact h.1, fun k hk => ?_⟩
 rw [end_at (by rw [h.1]; exact hi)]
 split
 ·rename_i c; subst c; exact h.2 k hk
 ·exact h.2 k hk
theorem wake_at {ps : List Pr} {i : Nat} (hi : i < ps.length) : wakeV ps (i : Int) = (prD ps i).wake := by
 unfold wakeV; rw [if_pos (isV_iff.2 ⟨by omega, by omega⟩), Int.toNat_natCast]
theorem ended_at {ps : List Pr} {i : Nat} (hi : i < ps.length) : endedV ps (i : Int) = (prD ps i).ended := by
 unfold endedV; rw [isV_iff.2 ⟨by omega, by omega⟩, Int.toNat_natCast]; rfl
theorem pick_wake {ps : List Pr} {z now : Int} (hz : pickV ps now = z) (h0 : 0 ≤ z) : wakeV ps z ≤ now ∧ endedV ps z = false := by
 have hr := pick_rng (ps := ps) (now := now)
 have h1 := pick_rdy (ps := ps) (now := now) (by omega)
 rw [hz] at h1 hr
 obtain ⟨b, rfl⟩ : ∃ b : Nat, z = b := ⟨z.toNat, by omega⟩
 rw [Int.toNat_natCast] at h1
 rw [wake_at (by omega), ended_at (by omega)]
 unfold rdy at h1
 rw [Bool.and_eq_true, Bool.not_eq_true', decide_eq_true_eq] at h1
 exact ⟨h1.2, h1.1⟩
theorem pick_new {L : List Sp} (h : 0 < L.length) : 0 ≤ pickV (newP L) 0 := by
 obtain ⟨b, e, _, _⟩ := pick_least (ps := newP L) (now := 0) (x := 0) (by rw [newP_len]; exact h) (by rw [newP_at h]; rfl)
 omega
theorem next_new {L : List Sp} : nextP (newP L) 0 = -1 := next_none fun x hx => by rw [newP_at (by rwa [newP_len] at hx)]; exact Int.le_refl _
theorem wake_new {L : List Sp} {i : Nat} (h : i < L.length) : wakeV (newP L) (i : Int) = 0 ∧ endedV (newP L) (i : Int) = false := by
 rw [wake_at (by rw [newP_len]; exact h), ended_at (by rw [newP_len]; exact h), newP_at h]; exact ⟨rfl, rfl⟩
end Go.AM.PL
