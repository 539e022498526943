/- Contracts of the functions that the statement reaches. No condition. -/
import Derived.Test.YtomglcfneeelgaaPL9b
set_option linter.all false
set_option maxRecDepth 10000
namespace Go.AM.PL
def budF (a per : Int) (n : Int) (s : Sp) : Int := n + max 0 (min s.2 (a + per) - max s.1 a)
def budW (b : List Sp) (a per : Int) : Int := b.foldl (budF a per) 0
theorem budW_from (a per : Int) (b : List Sp) : ∀ m, b.foldl (budF a per) m = m + budW b a per := by
  induction b with
  | nil => intro m; show m = m + 0; omega
  | cons s b ih => intro m; unfold budW; rw [List.foldl_cons, List.foldl_cons, ih, ih (budF a per 0 s)]; unfold budF; omega
theorem budW_cons (s : Sp) (b : List Sp) (x per : Int) : budW (s :: b) x per = max 0 (min s.2 (x + per) - max s.1 x) + budW b x per := by unfold budW; rw [List.foldl_cons, budW_from]; show 0 + max 0 (min s.2 (x + per) - max s.1 x) + budW b x per = _; unfold budW; omega
def budI (b : List Sp) (per : Int) : Nat → Int
  | 0 => per
  | k + 1 => min (budI b per k) (budW b (per * k) per)
def budV (l : List Rn) (p per : Int) : Int := if per < 1 ∨ wlen l = 0 ∨ wlen l % per ≠ 0 then -1 else budI (spV p 0 l) per (wlen l / per).toNat
theorem cnt_le {l : List Rn} (h : ∀ r ∈ l, 1 ≤ r.n) (p : Int) : 0 ≤ cnt (spV p 0 l) ∧ cnt (spV p 0 l) ≤ wlen l := by
  have := cnt_rng (a := 0) (sp_rising p l 0 h); omega
theorem wlen_pos {l : List Rn} (h : ∀ r ∈ l, 1 ≤ r.n) (hl : 0 < l.length) : 0 < wlen l := by
  cases l with
  | nil => simp at hl
  | cons r l => have := h r (List.mem_cons_self ..); rw [wlen_cons r l (by omega)]; have : 0 ≤ wlen l := by unfold wlen; omega
                omega
theorem late_le {l : List Rn} (h : ∀ r ∈ l, 1 ≤ r.n) (h0 : 0 < wlen l) (p q : Int) : -1 ≤ lateV l p q ∧ lateV l p q ≤ wlen l ∧ (lateV l p q < 0 ↔ 0 < cnt (spV p 0 l) ∧ cnt (spV q 0 l) = 0) := by
  have hp := sp_nil h (p := p)
  have hq := sp_nil h (p := q)
  have cp := cnt_le h p
  by_cases ha : spV p 0 l = []
  · have e : lateV l p q = 0 := by unfold lateV; rw [if_pos ha]
    have := hp.1 ha
    omega
  · have np : ¬ cnt (spV p 0 l) = 0 := fun c => ha (hp.2 c)
    by_cases hb : spV q 0 l = []
    · have e : lateV l p q = -1 := by unfold lateV; rw [if_neg ha, if_pos hb]
      have := hq.1 hb
      omega
    · have := late_is h ha hb
      have nq : ¬ cnt (spV q 0 l) = 0 := fun c => hb (hq.2 c)
      omega
/-! what is asked -/
structure Pt where
  name : ByteArray
  bud : Int
  per : Int
  sched : Bool
  stop : Bool
  h0 : Int
  h1 : Int
  h2 : Int
  h3 : Int
  h4 : Int
def encP (p : Pt) : List GV := [.v (.string p.name), .v (.int .i64 p.bud), .v (.int .i64 p.per), .v (.bool p.sched), .v (.bool p.stop), .any, .v (.int .i64 p.h0), .v (.int .i64 p.h1), .v (.int .i64 p.h2), .v (.int .i64 p.h3), .v (.int .i64 p.h4)]
def lateBad (l : List Rn) (c : Ch) : Bool := decide (c.late > 0) && (decide (lateV l c.fr c.to > c.late) || (lateV l c.fr c.to == -1))
def shortBad (l : List Rn) (k : Nat) (p : Pt) : Bool := decide (p.bud > 0) && decide (budV l (k : Int) p.per < p.bud)
def anyShort (l : List Rn) : Nat → List Pt → Bool
  | _, [] => false
  | k, p :: ps => shortBad l k p || anyShort l (k + 1) ps
def holdV (C : List Ch) (P : List Pt) (l : List Rn) : Int := if C.any (lateBad l) = true then 19 else if anyShort l 0 P = true then 20 else 0
theorem any_take {α : Type} {f : α → Bool} {l : List α} {i : Nat} (h : i < l.length) : (l.take (i + 1)).any f = ((l.take i).any f || f l[i]) := by
  rw [List.take_succ_eq_append_getElem h, List.any_append]; simp
theorem any_at {α : Type} {f : α → Bool} {l : List α} {i : Nat} (h : i < l.length) (k : f l[i] = true) : l.any f = true := List.any_eq_true.2 ⟨l[i], List.getElem_mem h, k⟩
theorem anyShort_no {l : List Rn} : ∀ {P : List Pt} {k : Nat}, anyShort l k P = false ↔ ∀ i (h : i < P.length), shortBad l (k + i) P[i] = false
  | [], k => ⟨fun _ i h => by simp at h, fun _ => rfl⟩
  | p :: P, k => by
    rw [anyShort, Bool.or_eq_false_iff, anyShort_no]
    constructor
    · rintro ⟨h1, h2⟩ i hi
      cases i with
      | zero => exact h1
      | succ i => have := h2 i (by simpa using hi); rw [show k + (i + 1) = k + 1 + i by omega]; exact this
    · intro h
      exact ⟨h 0 (by simp), fun i hi => by have := h (i + 1) (by simpa using hi); rw [show k + 1 + i = k + (i + 1) by omega]; exact this⟩
theorem hold_late {C : List Ch} {P : List Pt} {l : List Rn} {i : Nat} (h : i < C.length) (k : lateBad l C[i] = true) : holdV C P l = 19 := by unfold holdV; rw [if_pos (any_at h k)]
theorem hold_short {C : List Ch} {P : List Pt} {l : List Rn} {i : Nat} (h0 : C.any (lateBad l) = false) (h : i < P.length) (k : shortBad l i P[i] = true) : holdV C P l = 20 := by
  unfold holdV
  rw [if_neg (by rw [h0]; decide), if_pos]
  cases e : anyShort l 0 P with
  | true => rfl
  | false =>
    have := (anyShort_no.1 e) i h
    rw [Nat.zero_add] at this
    rw [this] at k; cases k
theorem hold_ok {C : List Ch} {P : List Pt} {l : List Rn} (h0 : C.any (lateBad l) = false) (h : ∀ i (h : i < P.length), shortBad l i P[i] = false) : holdV C P l = 0 := by
  unfold holdV
  rw [if_neg (by rw [h0]; decide), if_neg]
  rw [anyShort_no.2 (fun i hi => by rw [Nat.zero_add]; exact h i hi)]; decide
end Go.AM.PL
namespace Go.AM.PL
end Go.AM.PL
namespace Go.AM.PL
end Go.AM.PL
namespace Go.AM.PL
def nz (w : Nat) (x : GV) : GV := match x with
  | .v (.slice none 0 0) => .fsl w []
  | x => x
theorem nz_ok {Z : ZM} {om : Om} {w : Nat} {x : GV} {a : AV} (h : VR Z om x a) : VR Z om (nz w x) a := by
  unfold nz
  split
  · obtain rfl := h.v_inv; exact .pure .fnil
  · exact h
theorem cfgNil {A : AProg} {f : Nat} {a b c : GV} {vs : List GV} {P : GHp} {K : GV → GHp → Prop} (hc : WpCallG A f (.agg [nz 11 a, nz 6 b, nz 1 c] :: vs) P K) : WpCallG A f (.agg [a, b, c] :: vs) P K := fun Z om as H hr hv => by
  cases hv with
  | cons h k =>
    obtain ⟨bs, rfl, h1, h2⟩ := h.agg_inv
    refine hc Z om _ H hr (.cons (.agg h1 fun i x y e f => ?_) k)
    match i, e with
    | 0, e => cases e; exact nz_ok (h2 0 a y rfl f)
    | 1, e => cases e; exact nz_ok (h2 1 b y rfl f)
    | 2, e => cases e; exact nz_ok (h2 2 c y rfl f)
end Go.AM.PL
