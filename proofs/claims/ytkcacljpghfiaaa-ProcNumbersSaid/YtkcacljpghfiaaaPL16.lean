/- Contracts of the functions that the statement reaches. No condition. -/
import Derived.Test.YtkcacljpghfiaaaPLn
import Derived.Test.YtkcacljpghfiaaaPLo
set_option linter.all false
set_option maxRecDepth 10000
namespace Go.AM.PL
structure Pr where
 prio : Int
 wake : Int
 ended : Bool
 deriving DecidableEq
def encPr (p : Pr) : List GV := [.v (.int .i64 p.prio), .v (.int .i64 p.wake), .v (.bool p.ended)]
def prD (ps : List Pr) (i : Nat) : Pr := ps.getD i ⟨0, 0, false⟩
def rdy (now : Int) (p : Pr) : Bool := !p.ended && decide (p.wake ≤ now)
section
variable {ps : List Pr} {now : Int}
def lessV (ps : List Pr) (a b : Nat) : Bool := decide ((prD ps a).prio < (prD ps b).prio ∨ ((prD ps a).prio = (prD ps b).prio ∧ a < b))
theorem less_iff {a b : Nat} : lessV ps a b = true ↔ ((prD ps a).prio < (prD ps b).prio ∨ ((prD ps a).prio = (prD ps b).prio ∧ a < b)) := decide_eq_true_iff
theorem less_tr {a b c : Nat} (h : lessV ps a b = true) (k : lessV ps b c = true) : lessV ps a c = true := by rw [less_iff] at *; omega
theorem less_as {a b : Nat} (h : lessV ps a b = true) : ¬ lessV ps b a = true := by rw [less_iff] at *; omega
theorem less_nt {a b c : Nat} (h : ¬ lessV ps a b = true) (k : ¬ lessV ps b c = true) : ¬ lessV ps a c = true := by rw [less_iff] at *; omega
theorem less_eq {a b : Nat} (h : ¬ lessV ps a b = true) (k : ¬ lessV ps b a = true) : a = b := by rw [less_iff] at *; omega
theorem less_ir (a : Nat) : ¬ lessV ps a a = true := by rw [less_iff]; omega
def nat0 (l : List Nat) (i : Nat) : Nat := l.getD i 0
def swpJ (l : List Nat) (i j : Nat) : List Nat := (l.set i (nat0 l j)).set j (nat0 l i)
theorem swp_len {l : List Nat} {i j : Nat} : (swpJ l i j).length = l.length := by unfold swpJ; rw [List.length_set, List.length_set]
theorem nat0_set {l : List Nat} {i k x : Nat} (hi : i < l.length) : nat0 (l.set i x) k = if k = i then x else nat0 l k := by
 unfold nat0
 rw [List.getD_eq_getElem?_getD, List.getD_eq_getElem?_getD, List.getElem?_set]
 by_cases c : i = k
 ·subst c; rw [if_pos rfl, if_pos hi, if_pos rfl]; rfl
 ·rw [if_neg c, if_neg fun e => c e.symm]
theorem swp_at {l : List Nat} {i j : Nat} (hi : i < l.length) (hj : j < l.length) (k : Nat) : nat0 (swpJ l i j) k = if k = j then nat0 l i else if k = i then nat0 l j else nat0 l k := by
 unfold swpJ
 rw [nat0_set (by rw [List.length_set]; exact hj), nat0_set hi]
theorem mem_nat0 {l : List Nat} {x : Nat} : x ∈ l ↔ ∃ i, i < l.length ∧ nat0 l i = x := by
 rw [List.mem_iff_getElem]
 constructor
 ·rintro ⟨i, h, rfl⟩
  exact ⟨i, h, by unfold nat0; rw [List.getD_eq_getElem?_getD, List.getElem?_eq_getElem h]; rfl⟩
 ·rintro ⟨i, h, rfl⟩
  exact ⟨i, h, by unfold nat0; rw [List.getD_eq_getElem?_getD, List.getElem?_eq_getElem h]; rfl⟩
theorem swp_mem {l : List Nat} {i j : Nat} (hi : i < l.length) (hj : j < l.length) {x : Nat} : x ∈ swpJ l i j ↔ x ∈ l := by
 rw [mem_nat0, mem_nat0, swp_len]
 constructor
 ·rintro ⟨k, hk, e⟩
  rw [swp_at hi hj] at e
  split at e
  ·exact ⟨i, hi, e⟩
  ·split at e
   ·exact ⟨j, hj, e⟩
   ·exact ⟨k, hk, e⟩
 ·rintro ⟨k, hk, e⟩
  by_cases c : k = i
  ·refine ⟨j, hj, ?_⟩
   rw [swp_at hi hj, if_pos rfl, ← c]; exact e
  ·by_cases d : k = j
   ·refine ⟨i, hi, ?_⟩
    rw [swp_at hi hj]
    by_cases f : i = j
    ·rw [if_pos f]; rw [f, ← d]; exact e
    ·rw [if_neg f, if_pos rfl, ← d]; exact e
   ·refine ⟨k, hk, ?_⟩
    rw [swp_at hi hj, if_neg d, if_neg c]; exact e
def par (j : Nat) : Nat := (j - 1) / 2
structure Up (ps : List Pr) (l : List Nat) (j : Nat) : Prop where
 rest : ∀ i, 0 < i → i < l.length → i ≠ j → ¬ lessV ps (nat0 l i) (nat0 l (par i)) = true
 kids : ∀ i, 0 < i → i < l.length → par i = j → 0 < j → ¬ lessV ps (nat0 l i) (nat0 l (par j)) = true
def heapOk (ps : List Pr) (l : List Nat) : Prop := ∀ i, 0 < i → i < l.length → ¬ lessV ps (nat0 l i) (nat0 l (par i)) = true
def upF (ps : List Pr) : Nat → List Nat → Nat → List Nat
 | 0, l, _ => l
 | f + 1, l, j => if par j = j ∨ lessV ps (nat0 l j) (nat0 l (par j)) = false then l else upF ps f (swpJ l (par j) j) (par j)
theorem upF_stop {f : Nat} {l : List Nat} {j : Nat} (h : par j = j ∨ lessV ps (nat0 l j) (nat0 l (par j)) = false) : upF ps f l j = l := by
 cases f with
 | zero => rfl
 | succ f => rw [upF, if_pos h]
theorem upF_go {f : Nat} {l : List Nat} {j : Nat} (h : ¬ (par j = j ∨ lessV ps (nat0 l j) (nat0 l (par j)) = false)) : upF ps (f + 1) l j = upF ps f (swpJ l (par j) j) (par j) := by rw [upF, if_neg h]
theorem par_lt {j : Nat} (h : 0 < j) : par j < j := by unfold par; omega
theorem up_step {l : List Nat} {j : Nat} (hj : j < l.length) (hj0 : 0 < j) (h : Up ps l j) (hl : lessV ps (nat0 l j) (nat0 l (par j)) = true) : Up ps (swpJ l (par j) j) (par j) := by
 have hp := par_lt hj0
 have hpl : par j < l.length := by omega
 have A := swp_at hpl hj
 refine ⟨fun i h0 h1 h2 => ?_, fun i h0 h1 h2 h3 => ?_⟩
 ·rw [swp_len] at h1
  rw [A i, A (par i)]
  have hpi := par_lt h0
  by_cases c : i = j
  ·subst c
   rw [if_pos rfl, if_neg (by omega), if_pos rfl]
   exact less_as hl
  ·rw [if_neg c, if_neg h2]
   by_cases d : par i = j
   ·rw [if_pos d]
    exact h.kids i h0 h1 d hj0
   ·rw [if_neg d]
    by_cases e : par i = par j
    ·rw [if_pos e]
     have h4 := h.rest i h0 h1 c
     rw [e] at h4
     exact fun x => h4 (less_tr x hl)
    ·rw [if_neg e]
     exact h.rest i h0 h1 c
 ·rw [swp_len] at h1
  have hpp := par_lt h3
  have hpi := par_lt h0
  rw [A i, A (par (par j)), if_neg (show par (par j) ≠ j by omega), if_neg (show par (par j) ≠ par j by omega)]
  have h5 := h.rest (par j) h3 hpl (by omega)
  by_cases c : i = j
  ·subst c; rw [if_pos rfl]; exact h5
  ·rw [if_neg c, if_neg (show i ≠ par j by omega)]
   have h4 := h.rest i h0 h1 c
   rw [h2] at h4
   exact less_nt h4 h5
theorem upF_ok : ∀ (f : Nat) {l : List Nat} {j : Nat}, j ≤ f → j < l.length → Up ps l j → heapOk ps (upF ps f l j) ∧ (upF ps f l j).length = l.length ∧ ∀ x, x ∈ upF ps f l j ↔ x ∈ l
 | 0, l, j, hf, hj, h => by
   obtain rfl : j = 0 := by omega
   exact ⟨fun i h0 h1 => h.rest i h0 h1 (by omega), rfl, fun x => Iff.rfl⟩
 | f + 1, l, j, hf, hj, h => by
   by_cases c : par j = j ∨ lessV ps (nat0 l j) (nat0 l (par j)) = false
   ·rw [upF_stop c]
    refine ⟨fun i h0 h1 => ?_, rfl, fun x => Iff.rfl⟩
    by_cases d : i = j
    ·subst d
     rcases c with c | c
     ·have := par_lt h0; omega
     ·rw [c]; decide
    ·exact h.rest i h0 h1 d
   ·rw [upF_go c]
    have hj0 : 0 < j := by
     refine Nat.pos_of_ne_zero fun e => c (.inl ?_)
     subst e; rfl
    have hl : lessV ps (nat0 l j) (nat0 l (par j)) = true := by
     cases e : lessV ps (nat0 l j) (nat0 l (par j)) with
     | true => rfl
     | false => exact absurd (.inr e) c
    have hp := par_lt hj0
    have ih := upF_ok f (l := swpJ l (par j) j) (j := par j) (by omega) (by rw [swp_len]; omega) (up_step hj hj0 h hl)
    exact ⟨ih.1, by rw [ih.2.1, swp_len], fun x => (ih.2.2 x).trans (swp_mem (by omega) hj)⟩
def pushV (ps : List Pr) (l : List Nat) (x : Nat) : List Nat := upF ps l.length (l ++ [x]) l.length
theorem nat0_app {l : List Nat} {x i : Nat} (h : i < l.length) : nat0 (l ++ [x]) i = nat0 l i := by
 unfold nat0
 rw [List.getD_eq_getElem?_getD, List.getD_eq_getElem?_getD, List.getElem?_append_left h]
theorem push_ok {l : List Nat} {x : Nat} (h : heapOk ps l) : heapOk ps (pushV ps l x) ∧ (pushV ps l x).length = l.length + 1 ∧ ∀ y, y ∈ pushV ps l x ↔ y ∈ l ∨ y = x := by
 have := upF_ok (ps := ps) l.length (l := l ++ [x]) (j := l.length) (Nat.le_refl _) (by simp) ⟨fun i h0 h1 h2 => by
  rw [List.length_append, List.length_singleton] at h1
  have hp := par_lt h0
  rw [nat0_app (by omega), nat0_app (by omega)]
  exact h i h0 (by omega), fun i h0 h1 h2 h3 => by
  rw [List.length_append, List.length_singleton] at h1
  have hp := par_lt h0
  omega⟩
 refine ⟨this.1, by unfold pushV; rw [this.2.1]; simp, fun y => ?_⟩
 unfold pushV
 rw [this.2.2 y]
 simp
theorem heap_root {l : List Nat} (h : heapOk ps l) : ∀ i, i < l.length → ¬ lessV ps (nat0 l i) (nat0 l 0) = true := by
 intro i
 induction i using Nat.strongRecOn with
 | _ i ih =>
   intro hi
   by_cases c : i = 0
   ·subst c; exact less_ir _
   ·have hp := par_lt (j := i) (by omega)
    exact less_nt (h i (by omega) hi) (ih (par i) hp (by omega))
def pickS (ps : List Pr) (now : Int) : Nat → Int
 | 0 => -1
 | i + 1 => if rdy now (prD ps i) = true ∧ (pickS ps now i < 0 ∨ (prD ps i).prio < (prD ps (pickS ps now i).toNat).prio) then (i : Int) else pickS ps now i
def pickV (ps : List Pr) (now : Int) : Int := pickS ps now ps.length
theorem pickS_ok : ∀ i, (pickS ps now i = -1 ∧ ∀ x, x < i → rdy now (prD ps x) = false) ∨ ∃ b : Nat, pickS ps now i = b ∧ b < i ∧ rdy now (prD ps b) = true ∧ ∀ x, x < i → rdy now (prD ps x) = true → ¬ lessV ps x b = true
 | 0 => .inl ⟨rfl, fun x h => by omega⟩
 | i + 1 => by
   have ih := pickS_ok i
   unfold pickS
   split
   ·rename_i c
    refine .inr ⟨i, rfl, by omega, c.1, fun x hx hr => ?_⟩
    by_cases e : x = i
    ·subst e; exact less_ir _
    ·rcases ih with ih | ⟨b, e1, e2, e3, e4⟩
     ·rw [ih.2 x (by omega)] at hr; cases hr
     ·have h4 := e4 x (by omega) hr
      rcases c.2 with c2 | c2
      ·rw [e1] at c2; omega
      ·rw [e1, Int.toNat_natCast] at c2
       rw [less_iff] at h4 ⊢
       omega
   ·rename_i c
    rcases ih with ih | ⟨b, e1, e2, e3, e4⟩
    ·refine .inl ⟨ih.1, fun x hx => ?_⟩
     by_cases e : x = i
     ·subst e
      cases d : rdy now (prD ps x) with
      | false => rfl
      | true => exact absurd ⟨d, .inl (by rw [ih.1]; decide)⟩ c
     ·exact ih.2 x (by omega)
    ·refine .inr ⟨b, e1, by omega, e3, fun x hx hr => ?_⟩
     by_cases e : x = i
     ·subst e
      rw [less_iff]
      intro d
      exact c ⟨hr, .inr (by rw [e1, Int.toNat_natCast]; omega)⟩
     ·exact e4 x (by omega) hr
theorem pick_root {l : List Nat} (h : heapOk ps l) (hm : ∀ x, x ∈ l ↔ x < ps.length ∧ rdy now (prD ps x) = true) : (l.length = 0 → pickV ps now = -1) ∧ (0 < l.length → pickV ps now = (nat0 l 0 : Int)) := by
 have hp := pickS_ok (ps := ps) (now := now) ps.length
 refine ⟨fun e => ?_, fun e => ?_⟩
 ·have hl : l = [] := List.length_eq_zero_iff.1 e
  subst hl
  rcases hp with hp | ⟨b, e1, e2, e3, e4⟩
  ·exact hp.1
  ·exact absurd ((hm b).2 ⟨e2, e3⟩) (by simp)
 ·have h0 : nat0 l 0 ∈ l := mem_nat0.2 ⟨0, e, rfl⟩
  have h1 := (hm _).1 h0
  rcases hp with hp | ⟨b, e1, e2, e3, e4⟩
  ·rw [hp.2 _ h1.1] at h1; cases h1.2
  ·have h2 := e4 _ h1.1 h1.2
   obtain ⟨i, hi, hb⟩ := mem_nat0.1 ((hm b).2 ⟨e2, e3⟩)
   have h3 := heap_root h i hi
   rw [hb] at h3
   have := less_eq h2 h3
   unfold pickV
   rw [e1, this]
end
def nextS (ps : List Pr) (now : Int) : Nat → Int × Bool
 | 0 => (-1, false)
 | i + 1 => if ((!(prD ps i).ended && decide ((prD ps i).wake > now)) = true) ∧ ((nextS ps now i).2 = false ∨ (prD ps i).wake < (nextS ps now i).1) then ((prD ps i).wake, true) else nextS ps now i
def nextP (ps : List Pr) (now : Int) : Int := (nextS ps now ps.length).1
def cmpV (x y : Int) : Int := if x < y then -1 else if y < x then 1 else 0
def orV (a b : Int) : Int := if a ≠ 0 then a else b
theorem or_less {ps : List Pr} {a b : Nat} : decide (orV (cmpV (prD ps a).prio (prD ps b).prio) (cmpV (a : Int) (b : Int)) < 0) = lessV ps a b := by
 unfold lessV orV cmpV
 rw [decide_eq_decide]
 (repeat' split) <;> omega
def encJ (k : Nat) : List GV := [.v (.int .i64 (k : Int))]
theorem nat0_at {l : List Nat} {i : Nat} (h : i < l.length) : l[i]? = some (nat0 l i) := by
 unfold nat0; rw [List.getD_eq_getElem?_getD, List.getElem?_eq_getElem h]; rfl
theorem prD_at {ps : List Pr} {i : Nat} (h : i < ps.length) : ps[i]? = some (prD ps i) := by
 unfold prD; rw [List.getD_eq_getElem?_getD, List.getElem?_eq_getElem h]; rfl
theorem nat0_mem {l : List Nat} {i : Nat} (h : i < l.length) : nat0 l i ∈ l := mem_nat0.2 ⟨i, h, rfl⟩
theorem par_div (j : Nat) : ((j : Int) - 1).tdiv 2 = (par j : Int) := by
 unfold par
 cases j with
 | zero => rfl
 | succ j =>
   rw [show ((j + 1 : Nat) : Int) - 1 = (j : Int) by omega, Nat.add_sub_cancel]
   rfl
theorem par_le (j : Nat) : par j ≤ j := by unfold par; omega
theorem swp_set {l : List Nat} {i j : Nat} : (l.set i (nat0 l j)).set j (nat0 l i) = swpJ l i j := rfl
theorem rdy_T {now : Int} {p : Pr} (h : p.ended = false ∧ p.wake ≤ now) : rdy now p = true := by unfold rdy; rw [h.1, decide_eq_true h.2]; rfl
theorem rdy_F {now : Int} {p : Pr} (h : p.ended = true ∨ now < p.wake) : rdy now p = false := by
 unfold rdy
 rcases h with h | h
 ·rw [h]; rfl
 ·rw [decide_eq_false (by omega), Bool.and_false]
theorem rdy_snoc_T {ps : List Pr} {now : Int} {i : Nat} {l l' : List Nat} (hm : ∀ x, x ∈ l ↔ x < i ∧ rdy now (prD ps x) = true) (hr : rdy now (prD ps i) = true) (hp : ∀ y, y ∈ l' ↔ y ∈ l ∨ y = i) : ∀ x, x ∈ l' ↔ x < i + 1 ∧ rdy now (prD ps x) = true := fun x => by
 rw [hp x, hm x]
 constructor
 ·rintro (h | rfl)
  ·exact ⟨by omega, h.2⟩
  ·exact ⟨by omega, hr⟩
 ·rintro ⟨h1, h2⟩
  by_cases c : x = i
  ·exact .inr c
  ·exact .inl ⟨by omega, h2⟩
theorem rdy_snoc_F {ps : List Pr} {now : Int} {i : Nat} {l : List Nat} (hm : ∀ x, x ∈ l ↔ x < i ∧ rdy now (prD ps x) = true) (hr : rdy now (prD ps i) = false) : ∀ x, x ∈ l ↔ x < i + 1 ∧ rdy now (prD ps x) = true := fun x => by
 rw [hm x]
 constructor
 ·rintro ⟨h1, h2⟩; exact ⟨by omega, h2⟩
 ·rintro ⟨h1, h2⟩
  refine ⟨?_, h2⟩
  by_cases c : x = i
  ·subst c; rw [hr] at h2; cases h2
  ·omega
end Go.AM.PL
