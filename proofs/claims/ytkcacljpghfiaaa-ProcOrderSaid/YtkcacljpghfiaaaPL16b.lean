/- Contracts of the functions that the statement reaches. No condition. -/
import Derived.Test.YtkcacljpghfiaaaPL16
set_option linter.all false
set_option maxRecDepth 10000
namespace Go.AM.PL
def isV (ps : List Pr) (i : Int) : Bool := decide (i ≥ 0) && decide (i < (ps.length : Int))
theorem isV_iff {ps : List Pr} {i : Int} : isV ps i = true ↔ 0 ≤ i ∧ i < ps.length := by unfold isV; rw [Bool.and_eq_true, decide_eq_true_eq, decide_eq_true_eq]
def wakeV (ps : List Pr) (i : Int) : Int := if isV ps i = true then (prD ps i.toNat).wake else 0
def endedV (ps : List Pr) (i : Int) : Bool := !isV ps i || (prD ps i.toNat).ended
def sleepV (ps : List Pr) (i u : Int) : List Pr := if isV ps i = true then ps.set i.toNat { prD ps i.toNat with wake := u } else ps
def endV (ps : List Pr) (i : Int) : List Pr := if isV ps i = true then ps.set i.toNat { prD ps i.toNat with ended := true } else ps
def newP (l : List Sp) : List Pr := l.map fun x => ⟨x.2, 0, false⟩
theorem newP_len (l : List Sp) : (newP l).length = l.length := List.length_map ..
theorem newP_snoc {l : List Sp} {i : Nat} (h : i < l.length) : newP (l.take (i + 1)) = newP (l.take i) ++ [⟨l[i].2, 0, false⟩] := by
 unfold newP; rw [List.take_succ_eq_append_getElem h, List.map_append]; rfl
theorem prD_set {ps : List Pr} {i k : Nat} {p : Pr} (hi : i < ps.length) : prD (ps.set i p) k = if k = i then p else prD ps k := by
 unfold prD
 rw [List.getD_eq_getElem?_getD, List.getD_eq_getElem?_getD, List.getElem?_set]
 by_cases c : i = k
 ·subst c; rw [if_pos rfl, if_pos hi, if_pos rfl]; rfl
 ·rw [if_neg c, if_neg fun e => c e.symm]
theorem sleep_len {ps : List Pr} {i u : Int} : (sleepV ps i u).length = ps.length := by unfold sleepV; split <;> simp
theorem end_len {ps : List Pr} {i : Int} : (endV ps i).length = ps.length := by unfold endV; split <;> simp
theorem sleep_at {ps : List Pr} {i k : Nat} {u : Int} (hi : i < ps.length) : prD (sleepV ps i u) k = if k = i then { prD ps i with wake := u } else prD ps k := by
 unfold sleepV
 rw [if_pos (isV_iff.2 ⟨by omega, by omega⟩), Int.toNat_natCast, prD_set hi]
theorem newP_at {l : List Sp} {k : Nat} (h : k < l.length) : prD (newP l) k = ⟨(l.getD k (0, 0)).2, 0, false⟩ := by
 unfold prD newP
 rw [List.getD_eq_getElem?_getD, List.getElem?_map, List.getElem?_eq_getElem h, List.getD_eq_getElem?_getD, List.getElem?_eq_getElem h]; rfl
theorem nextS_ok {ps : List Pr} {now : Int} : ∀ i, ((nextS ps now i) = (-1, false) ∧ ∀ x, x < i → ((prD ps x).ended = true ∨ (prD ps x).wake ≤ now)) ∨ ((nextS ps now i).2 = true ∧ ∃ b : Nat, b < i ∧ (prD ps b).ended = false ∧ now < (prD ps b).wake ∧ (nextS ps now i).1 = (prD ps b).wake)
 | 0 => .inl ⟨rfl, fun x h => by omega⟩
 | i + 1 => by
   have ih := nextS_ok (ps := ps) (now := now) i
   unfold nextS
   split
   ·rename_i c
    have c1 := c.1
    rw [Bool.and_eq_true, Bool.not_eq_true', decide_eq_true_eq] at c1
    exact .inr ⟨rfl, i, by omega, c1.1, c1.2, rfl⟩
   ·rename_i c
    rcases ih with ⟨e, ih⟩ | ⟨e, b, h1, h2, h3, h4⟩
    ·refine .inl ⟨e, fun x hx => ?_⟩
     by_cases d : x = i
     ·subst d
      cases hE : (prD ps x).ended with
      | true => exact .inl rfl
      | false =>
        refine .inr ?_
        by_cases w : (prD ps x).wake ≤ now
        ·exact w
        ·exact absurd ⟨by rw [hE, decide_eq_true (show (prD ps x).wake > now by omega)]; rfl, .inl (by rw [e])⟩ c
     ·exact ih x (by omega)
    ·exact .inr ⟨e, b, by omega, h2, h3, h4⟩
theorem next_after {ps : List Pr} {now : Int} (hl : 0 < ps.length) (he : ∀ x, x < ps.length → (prD ps x).ended = false) (hp : pickV ps now < 0) : now < nextP ps now ∧ 0 ≤ pickV ps (nextP ps now) := by
 have h1 := pickS_ok (ps := ps) (now := now) ps.length
 have hno : ∀ x, x < ps.length → now < (prD ps x).wake := fun x hx => by
  rcases h1 with ⟨_, h1⟩ | ⟨b, e1, _⟩
  ·have := h1 x hx
   unfold rdy at this
   rw [he x hx] at this
   by_cases w : (prD ps x).wake ≤ now
   ·rw [decide_eq_true w] at this; cases this
   ·omega
  ·unfold pickV at hp; omega
 rcases nextS_ok (ps := ps) (now := now) ps.length with ⟨e, h2⟩ | ⟨e, b, h2, h3, h4, h5⟩
 ·have := h2 0 hl
  have := hno 0 hl
  have := he 0 hl
  rcases h2 0 hl with h | h
  ·rw [he 0 hl] at h; cases h
  ·omega
 ·have e5 : nextP ps now = (prD ps b).wake := h5
  refine ⟨by omega, ?_⟩
  rcases pickS_ok (ps := ps) (now := nextP ps now) ps.length with ⟨e6, h6⟩ | ⟨c, e6, _⟩
  ·have := h6 b h2
   unfold rdy at this
   rw [h3, decide_eq_true (show (prD ps b).wake ≤ nextP ps now by omega)] at this
   cases this
  ·unfold pickV; omega
theorem pick_rng {ps : List Pr} {now : Int} : -1 ≤ pickV ps now ∧ pickV ps now < ps.length := by
 rcases pickS_ok (ps := ps) (now := now) ps.length with ⟨e, h⟩ | ⟨b, e, h, _⟩
 ·unfold pickV; omega
 ·unfold pickV; omega
theorem pick_rdy {ps : List Pr} {now : Int} (h : 0 ≤ pickV ps now) : rdy now (prD ps (pickV ps now).toNat) = true := by
 rcases pickS_ok (ps := ps) (now := now) ps.length with ⟨e, _⟩ | ⟨b, e, _, h2, _⟩
 ·unfold pickV at h; omega
 ·unfold pickV; rw [e, Int.toNat_natCast]; exact h2
theorem pick_least {ps : List Pr} {now : Int} {x : Nat} (hx : x < ps.length) (hr : rdy now (prD ps x) = true) : ∃ b : Nat, pickV ps now = b ∧ b < ps.length ∧ ¬ lessV ps x b = true := by
 rcases pickS_ok (ps := ps) (now := now) ps.length with ⟨e, h⟩ | ⟨b, e, h, _, h3⟩
 ·rw [h x hx] at hr; cases hr
 ·exact ⟨b, e, h, h3 x hx hr⟩
theorem next_T {ps : List Pr} {now : Int} {i : Nat} (h : ((prD ps i).ended = false ∧ now < (prD ps i).wake) ∧ ((nextS ps now i).2 = false ∨ (prD ps i).wake < (nextS ps now i).1)) : ((!(prD ps i).ended && decide ((prD ps i).wake > now)) = true) ∧ ((nextS ps now i).2 = false ∨ (prD ps i).wake < (nextS ps now i).1) :=
 ⟨by rw [h.1.1, decide_eq_true (show (prD ps i).wake > now from h.1.2)]; rfl, h.2⟩
theorem next_F {ps : List Pr} {now : Int} {i : Nat} (h : ((prD ps i).ended = true ∨ (prD ps i).wake ≤ now) ∨ ((nextS ps now i).2 = true ∧ (nextS ps now i).1 ≤ (prD ps i).wake)) : ¬ (((!(prD ps i).ended && decide ((prD ps i).wake > now)) = true) ∧ ((nextS ps now i).2 = false ∨ (prD ps i).wake < (nextS ps now i).1)) := fun c => by
 have c1 := c.1
 rw [Bool.and_eq_true, Bool.not_eq_true', decide_eq_true_eq] at c1
 rcases h with (h | h) | h
 ·rw [h] at c1; cases c1.1
 ·omega
 ·rcases c.2 with d | d
  ·rw [h.1] at d; cases d
  ·omega
theorem is_sleep {ps : List Pr} {i u j : Int} : isV (sleepV ps i u) j = isV ps j := by unfold isV; rw [sleep_len]
theorem is_end {ps : List Pr} {i j : Int} : isV (endV ps i) j = isV ps j := by unfold isV; rw [end_len]
def ordL (pr : List Int) (i : Nat) : List Sp := (pr.take i).map fun p => ((0 : Int), andI .i64 p 7)
theorem ordL_snoc {pr : List Int} {i : Nat} (h : i < pr.length) : ordL pr (i + 1) = ordL pr i ++ [((0 : Int), andI .i64 pr[i] 7)] := by
 unfold ordL; rw [List.take_succ_eq_append_getElem h, List.map_append]; rfl
theorem ordL_len {pr : List Int} {i : Nat} : (ordL pr i).length ≤ i := by unfold ordL; rw [List.length_map, List.length_take]; omega
def SameP (L : List Sp) (ps : List Pr) : Prop := ps.length = L.length ∧ ∀ k, k < L.length → (prD ps k).prio = (L.getD k (0, 0)).2
def Alive (ps : List Pr) : Prop := ∀ k, k < ps.length → (prD ps k).ended = false
theorem same_new (L : List Sp) : SameP L (newP L) := ⟨newP_len L, fun k h => by rw [newP_at h]⟩
theorem alive_new (L : List Sp) : Alive (newP L) := fun k h => by rw [newP_at (by rwa [newP_len] at h)]
theorem same_sleep {L : List Sp} {ps : List Pr} {i : Nat} {u : Int} (h : SameP L ps) (hi : i < L.length) : SameP L (sleepV ps i u) := by
 refine ⟨by rw [sleep_len]; exact h.1, fun k hk => ?_⟩
 rw [sleep_at (by rw [h.1]; exact hi)]
 split
 ·rename_i c; subst c; exact h.2 k hk
 ·exact h.2 k hk
theorem alive_sleep {ps : List Pr} {i : Nat} {u : Int} (h : Alive ps) (hi : i < ps.length) : Alive (sleepV ps i u) := fun k hk => by
 rw [sleep_len] at hk
 rw [sleep_at hi]
 split
 ·exact h i hi
 ·exact h k hk
theorem wake_at {ps : List Pr} {i : Nat} (hi : i < ps.length) : wakeV ps (i : Int) = (prD ps i).wake := by
 unfold wakeV; rw [if_pos (isV_iff.2 ⟨by omega, by omega⟩), Int.toNat_natCast]
theorem ended_at {ps : List Pr} {i : Nat} (hi : i < ps.length) : endedV ps (i : Int) = (prD ps i).ended := by
 unfold endedV; rw [isV_iff.2 ⟨by omega, by omega⟩, Int.toNat_natCast]; rfl
theorem order_no {L : List Sp} {ps : List Pr} (h : SameP L ps) (ha : Alive ps) {i : Nat} {z now : Int} (hi : i < L.length) (hz : pickV ps now = z)
 (hq : wakeV ps (i : Int) ≤ now ∧ ((z < 0 ∨ (L.getD i (0, 0)).2 < (L.getD z.toNat (0, 0)).2) ∨ ((L.getD i (0, 0)).2 = (L.getD z.toNat (0, 0)).2 ∧ (i : Int) < z))) : False := by
 have hip : i < ps.length := by rw [h.1]; exact hi
 rw [wake_at hip] at hq
 obtain ⟨b, e, hb, hl⟩ := pick_least (now := now) hip (rdy_T ⟨ha i hip, hq.1⟩)
 rw [hz] at e
 subst e
 rw [Int.toNat_natCast] at hq
 rw [less_iff, h.2 i hi, h.2 b (by rw [← h.1]; exact hb)] at hl
 omega
theorem pick_wake {ps : List Pr} {z now : Int} (hz : pickV ps now = z) (h0 : 0 ≤ z) : wakeV ps z ≤ now ∧ endedV ps z = false := by
 have hr := pick_rng (ps := ps) (now := now)
 have h1 := pick_rdy (ps := ps) (now := now) (by omega)
 rw [hz] at h1 hr
 obtain ⟨b, rfl⟩ : ∃ b : Nat, z = b := ⟨z.toNat, by omega⟩
 rw [Int.toNat_natCast] at h1
 rw [wake_at (by omega), ended_at (by omega)]
 unfold rdy at h1
 rw [Bool.and_eq_true, Bool.not_eq_true', decide_eq_true_eq] at h1
 exact ⟨h1.2, h1.1⟩
end Go.AM.PL
