/- Contracts of the functions that the statement reaches. No condition. -/
import Derived.Test.YtkcacljpghfiaaaPL16b
set_option linter.all false
set_option maxRecDepth 10000
namespace Go.AM.PL
structure RelP (l : List Sp) (ps : List Pr) (wk : List Int) (en : List Bool) : Prop where
 n1 : ps.length = l.length
 n2 : wk.length = l.length
 n3 : en.length = l.length
 at_ : ∀ k, k < l.length → prD ps k = ⟨(l.getD k (0, 0)).2, wk.getD k 0, en.getD k false⟩
theorem getD_rep {α : Type} {n k : Nat} {x d : α} (h : k < n) : (List.replicate n x).getD k d = x := by
 rw [List.getD_eq_getElem?_getD, List.getElem?_replicate, if_pos h]; rfl
theorem getD_setX {α : Type} {l : List α} {i k : Nat} {x d : α} (hi : i < l.length) : (l.set i x).getD k d = if k = i then x else l.getD k d := by
 rw [List.getD_eq_getElem?_getD, List.getD_eq_getElem?_getD, List.getElem?_set]
 by_cases c : i = k
 ·subst c; rw [if_pos rfl, if_pos hi, if_pos rfl]; rfl
 ·rw [if_neg c, if_neg fun e => c e.symm]
theorem rel_new (l : List Sp) : RelP l (newP l) (List.replicate l.length 0) (List.replicate l.length false) :=
 ⟨newP_len l, List.length_replicate, List.length_replicate, fun k hk => by rw [newP_at hk, getD_rep hk, getD_rep hk]⟩
section
variable {l : List Sp} {ps : List Pr} {wk : List Int} {en : List Bool} {now : Int}
theorem rel_sleep (h : RelP l ps wk en) {i : Nat} (hi : i < l.length) (u : Int) : RelP l (sleepV ps i u) (wk.set i u) en := by
 refine ⟨by rw [sleep_len]; exact h.n1, by rw [List.length_set]; exact h.n2, h.n3, fun k hk => ?_⟩
 rw [sleep_at (by rw [h.n1]; exact hi), getD_setX (by rw [h.n2]; exact hi)]
 by_cases c : k = i
 ·subst c; rw [if_pos rfl, if_pos rfl, h.at_ k hk]
 ·rw [if_neg c, if_neg c, h.at_ k hk]
theorem rel_end (h : RelP l ps wk en) {i : Nat} (hi : i < l.length) : RelP l (endV ps i) wk (en.set i true) := by
 refine ⟨by rw [end_len]; exact h.n1, h.n2, by rw [List.length_set]; exact h.n3, fun k hk => ?_⟩
 rw [end_at (by rw [h.n1]; exact hi), getD_setX (by rw [h.n3]; exact hi)]
 by_cases c : k = i
 ·subst c; rw [if_pos rfl, if_pos rfl, h.at_ k hk]
 ·rw [if_neg c, if_neg c, h.at_ k hk]
theorem rel_rst (h : RelP l ps wk en) : RelP l (ps.map rstP) (List.replicate l.length 0) (List.replicate l.length false) := by
 rw [rst_new h.n1 fun k hk => by rw [h.at_ k hk]]
 exact rel_new l
theorem pickS_rng (i : Nat) : -1 ≤ pickS ps now i ∧ pickS ps now i < (i : Int) := by
 rcases pickS_ok (ps := ps) (now := now) i with ⟨e, _⟩ | ⟨b, e, h, _⟩ <;> omega
theorem pick_T (h : RelP l ps wk en) {i : Nat} (hi : i < l.length) (hq : (en.getD i false = false ∧ wk.getD i 0 ≤ now) ∧ (pickS ps now i < 0 ∨ (l.getD i (0, 0)).2 < (l.getD (pickS ps now i).toNat (0, 0)).2)) : pickS ps now (i + 1) = (i : Int) := by
 have hr := pickS_rng (ps := ps) (now := now) i
 have hi2 := h.at_ i hi
 refine if_pos ⟨rdy_T (by rw [hi2]; exact hq.1), ?_⟩
 by_cases c : pickS ps now i < 0
 ·exact .inl c
 ·refine .inr ?_
  rw [hi2, h.at_ _ (by omega)]
  rcases hq.2 with d | d
  ·exact absurd d c
  ·exact d
theorem pick_F (h : RelP l ps wk en) {i : Nat} (hi : i < l.length) (hq : ¬ ((en.getD i false = false ∧ wk.getD i 0 ≤ now) ∧ (pickS ps now i < 0 ∨ (l.getD i (0, 0)).2 < (l.getD (pickS ps now i).toNat (0, 0)).2))) : pickS ps now (i + 1) = pickS ps now i := by
 have hr := pickS_rng (ps := ps) (now := now) i
 have hi2 := h.at_ i hi
 refine if_neg fun c => hq ⟨?_, ?_⟩
 ·have := c.1
  rw [hi2] at this
  unfold rdy at this
  rw [Bool.and_eq_true, Bool.not_eq_true', decide_eq_true_eq] at this
  exact this
 ·by_cases d : pickS ps now i < 0
  ·exact .inl d
  ·refine .inr ?_
   rcases c.2 with e | e
   ·exact absurd e d
   ·rw [hi2, h.at_ _ (by omega)] at e; exact e
theorem nextR_T (h : RelP l ps wk en) {i : Nat} (hi : i < l.length) (hq : (en.getD i false = false ∧ now < wk.getD i 0) ∧ ((nextS ps now i).2 = false ∨ wk.getD i 0 < (nextS ps now i).1)) : nextS ps now (i + 1) = (wk.getD i 0, true) := by
 have hi2 := h.at_ i hi
 have e : nextS ps now (i + 1) = ((prD ps i).wake, true) := if_pos (next_T (by rw [hi2]; exact hq))
 rw [e, hi2]
theorem nextR_F (h : RelP l ps wk en) {i : Nat} (hi : i < l.length) (hq : (en.getD i false = true ∨ wk.getD i 0 ≤ now) ∨ ((nextS ps now i).2 = true ∧ (nextS ps now i).1 ≤ wk.getD i 0)) : nextS ps now (i + 1) = nextS ps now i := by
 have hi2 := h.at_ i hi
 exact if_neg (next_F (ps := ps) (now := now) (i := i) (by rw [hi2]; exact hq))
theorem rel_wake (h : RelP l ps wk en) {k : Nat} (hk : k < l.length) : wakeV ps (k : Int) = wk.getD k 0 ∧ endedV ps (k : Int) = en.getD k false := by
 rw [wake_at (by rw [h.n1]; exact hk), ended_at (by rw [h.n1]; exact hk), h.at_ k hk]; exact ⟨rfl, rfl⟩
theorem out_wake {i : Int} (h : ¬ (0 ≤ i ∧ i < ps.length)) : wakeV ps i = 0 ∧ endedV ps i = true := by
 have e : isV ps i = false := by
  cases c : isV ps i with
  | false => rfl
  | true => exact absurd (isV_iff.1 c) h
 unfold wakeV endedV
 rw [e]; exact ⟨rfl, rfl⟩
end
structure Ak where
 k : Int
 i : Int
 t : Int
def encAk (a : Ak) : List GV := [.v (.int .i64 a.k), .v (.int .i64 a.i), .v (.int .i64 a.t)]
def psA (ps : List Pr) (a : Ak) : List Pr := if a.k = 3 ∨ a.k = 4 then sleepV ps a.i a.t else if a.k = 5 then endV ps a.i else if a.k = 6 ∧ andI .i64 a.t 3 = 0 then ps.map rstP else ps
def wkA (l : List Sp) (wk : List Int) (a : Ak) : List Int := if (a.k = 3 ∨ a.k = 4) ∧ 0 ≤ a.i ∧ a.i < l.length then wk.set a.i.toNat a.t else if a.k = 6 ∧ andI .i64 a.t 3 = 0 then List.replicate l.length 0 else wk
def enA (l : List Sp) (en : List Bool) (a : Ak) : List Bool := if a.k = 5 ∧ 0 ≤ a.i ∧ a.i < l.length then en.set a.i.toNat true else if a.k = 6 ∧ andI .i64 a.t 3 = 0 then List.replicate l.length false else en
theorem relA {l : List Sp} {ps : List Pr} {wk : List Int} {en : List Bool} (h : RelP l ps wk en) (a : Ak) : RelP l (psA ps a) (wkA l wk a) (enA l en a) := by
 have hn := h.n1
 by_cases c3 : a.k = 3 ∨ a.k = 4
 ·by_cases ci : 0 ≤ a.i ∧ a.i < l.length
  ·have e1 : psA ps a = sleepV ps ((a.i.toNat : Nat) : Int) a.t := by unfold psA; rw [if_pos c3, Int.toNat_of_nonneg ci.1]
   have e2 : wkA l wk a = wk.set a.i.toNat a.t := if_pos ⟨c3, ci⟩
   have e3 : enA l en a = en := by unfold enA; rw [if_neg (by omega), if_neg (by omega)]
   rw [e1, e2, e3]; exact rel_sleep h (by omega) _
  ·have e1 : psA ps a = ps := by
    unfold psA
    rw [if_pos c3]
    exact if_neg fun d => ci (by have := isV_iff.1 d; omega)
   have e2 : wkA l wk a = wk := by unfold wkA; rw [if_neg (fun d => ci d.2), if_neg (by omega)]
   have e3 : enA l en a = en := by unfold enA; rw [if_neg (by omega), if_neg (by omega)]
   rw [e1, e2, e3]; exact h
 ·have e2 : ¬ ((a.k = 3 ∨ a.k = 4) ∧ 0 ≤ a.i ∧ a.i < l.length) := fun d => c3 d.1
  by_cases c5 : a.k = 5
  ·have e1 : psA ps a = endV ps a.i := by unfold psA; rw [if_neg c3, if_pos c5]
   have e4 : wkA l wk a = wk := by unfold wkA; rw [if_neg e2, if_neg (by omega)]
   by_cases ci : 0 ≤ a.i ∧ a.i < l.length
   ·have e3 : enA l en a = en.set a.i.toNat true := if_pos ⟨c5, ci⟩
    rw [e1, e4, e3, show a.i = ((a.i.toNat : Nat) : Int) by omega, Int.toNat_natCast]; exact rel_end h (by omega)
   ·have e3 : enA l en a = en := by unfold enA; rw [if_neg (fun d => ci d.2), if_neg (by omega)]
    have e5 : endV ps a.i = ps := if_neg fun d => ci (by have := isV_iff.1 d; omega)
    rw [e1, e4, e3, e5]; exact h
  ·have e5 : ¬ (a.k = 5 ∧ 0 ≤ a.i ∧ a.i < l.length) := fun d => c5 d.1
   unfold psA wkA enA
   rw [if_neg c3, if_neg c5, if_neg e2, if_neg e5]
   by_cases c6 : a.k = 6 ∧ andI .i64 a.t 3 = 0
   ·rw [if_pos c6, if_pos c6, if_pos c6]; exact rel_rst h
   ·rw [if_neg c6, if_neg c6, if_neg c6]; exact h
theorem rel_wk {l : List Sp} {ps : List Pr} {wk : List Int} {en : List Bool} (h : RelP l ps wk en) {x : Int} (h0 : 0 ≤ x) (h1 : x < l.length) : wakeV ps x = wk.getD x.toNat 0 ∧ endedV ps x = en.getD x.toNat false := by
 have := rel_wake h (k := x.toNat) (by omega)
 rwa [Int.toNat_of_nonneg h0] at this
theorem isV_l {l : List Sp} {ps : List Pr} {x : Int} (h : ps.length = l.length) : (decide (x ≥ 0) && decide (x < (l.length : Int))) = isV ps x := by unfold isV; rw [h]
def aN (k i : Nat) : Ak := ⟨((i : Int) * i + k) % 7, ((i : Int) * 3 + k) % 5 - 1, ((i : Int) * k) % 19 - 2⟩
def aL (k n : Nat) : List Ak := (List.range n).map (aN k)
theorem aL_snoc {k i : Nat} : aL k (i + 1) = aL k i ++ [aN k i] := by unfold aL; rw [List.range_succ, List.map_append]; rfl
theorem aL_len {k n : Nat} : (aL k n).length = n := by unfold aL; simp
def lN (k : Nat) : List Sp := [(0, (k : Int) % 3), (0, 1), (0, (k : Int) % 2)]
end Go.AM.PL
