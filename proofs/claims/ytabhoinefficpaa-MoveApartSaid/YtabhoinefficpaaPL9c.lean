/- Contracts of the functions that the statement reaches. No condition. -/
import Derived.Test.YtabhoinefficpaaPL9b
set_option linter.all false
set_option maxRecDepth 10000
namespace Go.AM.PL
def budF (a per : Int) (n : Int) (s : Sp) : Int := n + max 0 (min s.2 (a + per) - max s.1 a)
def budW (b : List Sp) (a per : Int) : Int := b.foldl (budF a per) 0
theorem budW_from (a per : Int) (b : List Sp) : ∀ m, b.foldl (budF a per) m = m + budW b a per := by
  induction b with
  | nil => intro m; show m = m + 0; omega
  | cons s b ih => intro m; unfold budW; rw [List.foldl_cons, List.foldl_cons, ih, ih (budF a per 0 s)]; unfold budF; omega
theorem budW_app (a b : List Sp) (x per : Int) : budW (a ++ b) x per = budW a x per + budW b x per := by unfold budW; rw [List.foldl_append, budW_from]; rfl
theorem budW_cons (s : Sp) (b : List Sp) (x per : Int) : budW (s :: b) x per = max 0 (min s.2 (x + per) - max s.1 x) + budW b x per := by unfold budW; rw [List.foldl_cons, budW_from]; show 0 + max 0 (min s.2 (x + per) - max s.1 x) + budW b x per = _; unfold budW; omega
theorem budW_in {x per : Int} : ∀ {b : List Sp} {a e : Int}, Rising a e b → x ≤ a → e ≤ x + per → budW b x per = cnt b
  | [], _, _, _, _, _ => rfl
  | s :: b, a, e, h, h1, h2 => by
    have := h.1; have := h.2.1; have := h.2.2.ae
    rw [budW_cons, cnt_cons, budW_in h.2.2 (by omega) h2]; omega
theorem budW_out {x per : Int} : ∀ {b : List Sp} {a e : Int}, Rising a e b → (e ≤ x ∨ x + per ≤ a) → budW b x per = 0
  | [], _, _, _, _ => rfl
  | s :: b, a, e, h, h1 => by
    have := h.1; have := h.2.1; have := h.2.2.ae
    rw [budW_cons, budW_out h.2.2 (by omega)]; omega
theorem budW_rng (b : List Sp) (x per : Int) (hp : 0 ≤ per) : 0 ≤ budW b x per ∧ budW b x per ≤ per * (b.length : Int) := by
  induction b with
  | nil => exact ⟨Int.le_refl _, by show (0 : Int) ≤ per * 0; omega⟩
  | cons s b ih =>
    rw [budW_cons, List.length_cons]
    have : per * ((b.length + 1 : Nat) : Int) = per * (b.length : Int) + per := by rw [Int.natCast_add, Int.mul_add]; show _ + per * 1 = _; omega
    omega
def budI (b : List Sp) (per : Int) : Nat → Int
  | 0 => per
  | k + 1 => min (budI b per k) (budW b (per * k) per)
def budV (l : List Rn) (p per : Int) : Int := if per < 1 ∨ wlen l = 0 ∨ wlen l % per ≠ 0 then -1 else budI (spV p 0 l) per (wlen l / per).toNat
theorem budI_le (b : List Sp) (per : Int) (hp : 0 ≤ per) : ∀ k, 0 ≤ budI b per k ∧ budI b per k ≤ per
  | 0 => ⟨hp, Int.le_refl _⟩
  | k + 1 => by
    have ih := budI_le b per hp k
    have e : budI b per (k + 1) = min (budI b per k) (budW b (per * k) per) := rfl
    have := (budW_rng b (per * k) per hp).1
    omega
theorem cnt_le {l : List Rn} (h : ∀ r ∈ l, 1 ≤ r.n) (p : Int) : 0 ≤ cnt (spV p 0 l) ∧ cnt (spV p 0 l) ≤ wlen l := by
  have := cnt_rng (a := 0) (sp_rising p l 0 h); omega
theorem wlen_pos {l : List Rn} (h : ∀ r ∈ l, 1 ≤ r.n) (hl : 0 < l.length) : 0 < wlen l := by
  cases l with
  | nil => simp at hl
  | cons r l => have := h r (List.mem_cons_self ..); rw [wlen_cons r l (by omega)]; have : 0 ≤ wlen l := by unfold wlen; omega
                omega
theorem bud_one {l : List Rn} (h : ∀ r ∈ l, 1 ≤ r.n) (h0 : 0 < wlen l) (p : Int) : budV l p (wlen l) = cnt (spV p 0 l) := by
  have hc := cnt_le h p
  unfold budV
  rw [if_neg (by rw [Int.emod_self]; omega), Int.ediv_self (by omega)]
  show min (wlen l) (budW _ (wlen l * 0) _) = _
  have hr := sp_rising p l 0 h
  rw [Int.mul_zero, budW_in hr (by omega) (by omega)]; omega
theorem bud_two {l : List Rn} (h : ∀ r ∈ l, 1 ≤ r.n) (h0 : 0 < wlen l) (p : Int) : budV (l ++ l) p (wlen l) = cnt (spV p 0 l) := by
  have hc := cnt_le h p
  have hr := sp_rising p l 0 h
  have hr2 := sp_rising p l (wlen l) h
  have e : spV p 0 (l ++ l) = spV p 0 l ++ spV p (wlen l) l := by rw [spV_app p _ _ _ (fun x hx => by have := h x hx; omega), Int.zero_add]
  have hd : (wlen l + wlen l) / wlen l = 2 := by rw [← Int.two_mul, Int.mul_ediv_cancel _ (by omega)]
  unfold budV
  rw [wlen_app, if_neg (by rw [← Int.two_mul, Int.mul_emod_left]; omega), hd, e]
  show min (min (wlen l) (budW _ (wlen l * 0) _)) (budW _ (wlen l * 1) _) = _
  rw [Int.mul_zero, Int.mul_one, budW_app, budW_app, budW_in hr (by omega) (by omega), budW_out hr2 (by omega), budW_out hr (by omega), budW_in hr2 (by omega) (by omega)]
  have := cnt_shift p l (wlen l) 0
  omega
theorem bud_tick {l : List Rn} (h : ∀ r ∈ l, 1 ≤ r.n) (h0 : 0 < wlen l) (hw : wlen l < 2 ^ 62) (p : Int) : budV l p (wlen l) = tickV l p := by rw [bud_one h h0, tick_cnt h hw]
theorem bud_round {A B : List Rn} (hA : ∀ r ∈ A, 1 ≤ r.n) (hB : ∀ r ∈ B, 1 ≤ r.n) (h0 : 0 < wlen (A ++ B)) (p : Int) : budV (B ++ A) p (wlen (A ++ B)) = budV (A ++ B) p (wlen (A ++ B)) := by
  have h1 : ∀ r ∈ A ++ B, 1 ≤ r.n := fun r hr => (List.mem_append.1 hr).elim (hA r) (hB r)
  have h2 : ∀ r ∈ B ++ A, 1 ≤ r.n := fun r hr => (List.mem_append.1 hr).elim (hB r) (hA r)
  have e : wlen (A ++ B) = wlen (B ++ A) := by rw [wlen_app, wlen_app]; omega
  rw [bud_one h1 h0, e, bud_one h2 (by omega), sp_round hA hB]
theorem gap_round {A B : List Rn} (hA : ∀ r ∈ A, 1 ≤ r.n) (hB : ∀ r ∈ B, 1 ≤ r.n) (p : Int) : gapV (B ++ A) p = gapV (A ++ B) p := by
  have h1 : ∀ r ∈ A ++ B, 1 ≤ r.n := fun r hr => (List.mem_append.1 hr).elim (hA r) (hB r)
  have h2 : ∀ r ∈ B ++ A, 1 ≤ r.n := fun r hr => (List.mem_append.1 hr).elim (hB r) (hA r)
  have hsp : spV p 0 (B ++ A) = [] ↔ spV p 0 (A ++ B) = [] := by rw [sp_nil h2, sp_nil h1, sp_round hA hB]
  by_cases ha : spV p 0 (A ++ B) = []
  · unfold gapV; rw [if_pos ha, if_pos (hsp.2 ha)]
  · have k1 := gap_late h1 ha
    have k2 := gap_late h2 (fun c => ha (hsp.1 c))
    have := late_round hA hB p p
    omega
theorem late_le {l : List Rn} (h : ∀ r ∈ l, 1 ≤ r.n) (h0 : 0 < wlen l) (p q : Int) : -1 ≤ lateV l p q ∧ lateV l p q ≤ wlen l ∧ (lateV l p q < 0 ↔ 0 < cnt (spV p 0 l) ∧ cnt (spV q 0 l) = 0) := by
  have hp := sp_nil h (p := p)
  have hq := sp_nil h (p := q)
  have cp := cnt_le h p
  by_cases ha : spV p 0 l = []
  · have e : lateV l p q = 0 := by unfold lateV; rw [if_pos ha]
    have := hp.1 ha
    omega
  · have np : ¬ cnt (spV p 0 l) = 0 := fun c => ha (hp.2 c)
    by_cases hb : spV q 0 l = []
    · have e : lateV l p q = -1 := by unfold lateV; rw [if_neg ha, if_pos hb]
      have := hq.1 hb
      omega
    · have := late_is h ha hb
      have nq : ¬ cnt (spV q 0 l) = 0 := fun c => hb (hq.2 c)
      omega
theorem gap_lt {l : List Rn} (h : ∀ r ∈ l, 1 ≤ r.n) (h0 : 0 < wlen l) (p : Int) : gapV l p < wlen l := by
  by_cases ha : spV p 0 l = []
  · unfold gapV; rw [if_pos ha]; omega
  · have := gap_late h ha
    have := late_le h h0 p p
    omega
theorem late_bool {l : List Rn} (h : ∀ r ∈ l, 1 ≤ r.n) (h0 : 0 < wlen l) (hw : wlen l < 2 ^ 62) (p q : Int) : (decide (lateV l p q < 0) == (decide (tickV l p > 0) && (tickV l q == 0))) = true := by
  have := (late_le h h0 p q).2.2
  rw [tick_cnt h hw, tick_cnt h hw]
  have e : decide (lateV l p q < 0) = (decide (cnt (spV p 0 l) > 0) && (cnt (spV q 0 l) == 0)) := by
    rw [Bool.eq_iff_iff]
    simp only [decide_eq_true_eq, Bool.and_eq_true, beq_iff_eq]
    exact this
  rw [e, beq_self_eq_true]
/-! what is asked -/
structure Pt where
  name : ByteArray
  bud : Int
  per : Int
  sched : Bool
  stop : Bool
  h0 : Int
  h1 : Int
  h2 : Int
  h3 : Int
  h4 : Int
def encP (p : Pt) : List GV := [.v (.string p.name), .v (.int .i64 p.bud), .v (.int .i64 p.per), .v (.bool p.sched), .v (.bool p.stop), .any, .v (.int .i64 p.h0), .v (.int .i64 p.h1), .v (.int .i64 p.h2), .v (.int .i64 p.h3), .v (.int .i64 p.h4)]
def lateBad (l : List Rn) (c : Ch) : Bool := decide (c.late > 0) && (decide (lateV l c.fr c.to > c.late) || (lateV l c.fr c.to == -1))
def shortBad (l : List Rn) (k : Nat) (p : Pt) : Bool := decide (p.bud > 0) && decide (budV l (k : Int) p.per < p.bud)
def anyShort (l : List Rn) : Nat → List Pt → Bool
  | _, [] => false
  | k, p :: ps => shortBad l k p || anyShort l (k + 1) ps
def holdV (C : List Ch) (P : List Pt) (l : List Rn) : Int := if C.any (lateBad l) = true then 19 else if anyShort l 0 P = true then 20 else 0
theorem any_take {α : Type} {f : α → Bool} {l : List α} {i : Nat} (h : i < l.length) : (l.take (i + 1)).any f = ((l.take i).any f || f l[i]) := by
  rw [List.take_succ_eq_append_getElem h, List.any_append]; simp
theorem any_at {α : Type} {f : α → Bool} {l : List α} {i : Nat} (h : i < l.length) (k : f l[i] = true) : l.any f = true := List.any_eq_true.2 ⟨l[i], List.getElem_mem h, k⟩
theorem anyShort_no {l : List Rn} : ∀ {P : List Pt} {k : Nat}, anyShort l k P = false ↔ ∀ i (h : i < P.length), shortBad l (k + i) P[i] = false
  | [], k => ⟨fun _ i h => by simp at h, fun _ => rfl⟩
  | p :: P, k => by
    rw [anyShort, Bool.or_eq_false_iff, anyShort_no]
    constructor
    · rintro ⟨h1, h2⟩ i hi
      cases i with
      | zero => exact h1
      | succ i => have := h2 i (by simpa using hi); rw [show k + (i + 1) = k + 1 + i by omega]; exact this
    · intro h
      exact ⟨h 0 (by simp), fun i hi => by have := h (i + 1) (by simpa using hi); rw [show k + 1 + i = k + (i + 1) by omega]; exact this⟩
theorem hold_late {C : List Ch} {P : List Pt} {l : List Rn} {i : Nat} (h : i < C.length) (k : lateBad l C[i] = true) : holdV C P l = 19 := by unfold holdV; rw [if_pos (any_at h k)]
theorem hold_short {C : List Ch} {P : List Pt} {l : List Rn} {i : Nat} (h0 : C.any (lateBad l) = false) (h : i < P.length) (k : shortBad l i P[i] = true) : holdV C P l = 20 := by
  unfold holdV
  rw [if_neg (by rw [h0]; decide), if_pos]
  cases e : anyShort l 0 P with
  | true => rfl
  | false =>
    have := (anyShort_no.1 e) i h
    rw [Nat.zero_add] at this
    rw [this] at k; cases k
theorem hold_ok {C : List Ch} {P : List Pt} {l : List Rn} (h0 : C.any (lateBad l) = false) (h : ∀ i (h : i < P.length), shortBad l i P[i] = false) : holdV C P l = 0 := by
  unfold holdV
  rw [if_neg (by rw [h0]; decide), if_neg]
  rw [anyShort_no.2 (fun i hi => by rw [Nat.zero_add]; exact h i hi)]; decide
end Go.AM.PL
namespace Go.AM.PL
theorem sp_len (p : Int) : ∀ (l : List Rn) (a : Int), (spV p a l).length ≤ l.length
  | [], _ => Nat.le_refl _
  | r :: l, a => by
    rw [spV]; have := sp_len p l (a + r.n)
    split
    · simp only [List.length_cons]; omega
    · simp only [List.length_cons]; omega
theorem sp_rng (p : Int) (l : List Rn) (h : ∀ r ∈ l, 1 ≤ r.n) : ∀ s ∈ spV p 0 l, 0 ≤ s.1 ∧ s.1 < s.2 ∧ s.2 ≤ wlen l := fun s hs => by
  have := (sp_rising p l 0 h).mem s hs; omega
theorem per_le {w per : Int} (h0 : 0 < w) (h1 : 1 ≤ per) (h : w % per = 0) : per ≤ w := by
  rcases Int.lt_or_le w per with c | c
  · rw [Int.emod_eq_of_lt (by omega) c] at h; omega
  · exact c
theorem budP_rng (b : List Sp) (a per : Int) (j : Nat) (hp : 0 ≤ per) {w : Int} (hs : ∀ s ∈ b, 0 ≤ s.1 ∧ s.1 < s.2 ∧ s.2 ≤ w) : 0 ≤ (b.take j).foldl (budF a per) 0 ∧ (b.take j).foldl (budF a per) 0 ≤ per * (j : Int) := by
  have h := budW_rng (b.take j) a per hp
  unfold budW at h
  refine ⟨h.1, Int.le_trans h.2 (Int.mul_le_mul_of_nonneg_left ?_ hp)⟩
  rw [List.length_take]; omega
end Go.AM.PL
namespace Go.AM.PL
theorem budW_cnt (x per : Int) : ∀ (b : List Sp), (∀ s ∈ b, s.1 < s.2) → budW b x per ≤ cnt b ∧ 0 ≤ cnt b
  | [], _ => ⟨Int.le_refl _, Int.le_refl _⟩
  | s :: b, h => by
    have ih := budW_cnt x per b (fun y hy => h y (List.mem_cons_of_mem _ hy))
    have := h s (List.mem_cons_self ..)
    rw [budW_cons, cnt_cons]; omega
theorem budP_rng2 {l : List Rn} (h1 : ∀ r ∈ l, 1 ≤ r.n) (p x per : Int) (j : Nat) (hp : 0 ≤ per) : 0 ≤ ((spV p 0 l).take j).foldl (budF x per) 0 ∧ ((spV p 0 l).take j).foldl (budF x per) 0 ≤ wlen l := by
  have hs := sp_rng p l h1
  have h := budW_rng ((spV p 0 l).take j) x per hp
  have h2 := budW_cnt x per ((spV p 0 l).take j) (fun s hs' => (hs s (List.mem_of_mem_take hs')).2.1)
  have h3 := budW_cnt x per ((spV p 0 l).drop j) (fun s hs' => (hs s (List.mem_of_mem_drop hs')).2.1)
  have h4 : cnt (spV p 0 l) = cnt ((spV p 0 l).take j) + cnt ((spV p 0 l).drop j) := by rw [← cnt_app, List.take_append_drop]
  have h5 := cnt_le h1 p
  unfold budW at h h2
  omega
end Go.AM.PL
namespace Go.AM.PL
/-- nothing, as an empty slice -/
def nz (w : Nat) (x : GV) : GV := match x with
  | .v (.slice none 0 0) => .fsl w []
  | x => x
theorem nz_ok {Z : ZM} {om : Om} {w : Nat} {x : GV} {a : AV} (h : VR Z om x a) : VR Z om (nz w x) a := by
  unfold nz
  split
  · obtain rfl := h.v_inv; exact .pure .fnil
  · exact h
theorem cfgNil {A : AProg} {f : Nat} {a b c : GV} {vs : List GV} {P : GHp} {K : GV → GHp → Prop} (hc : WpCallG A f (.agg [nz 11 a, nz 6 b, nz 1 c] :: vs) P K) : WpCallG A f (.agg [a, b, c] :: vs) P K := fun Z om as H hr hv => by
  cases hv with
  | cons h k =>
    obtain ⟨bs, rfl, h1, h2⟩ := h.agg_inv
    refine hc Z om _ H hr (.cons (.agg h1 fun i x y e f => ?_) k)
    match i, e with
    | 0, e => cases e; exact nz_ok (h2 0 a y rfl f)
    | 1, e => cases e; exact nz_ok (h2 1 b y rfl f)
    | 2, e => cases e; exact nz_ok (h2 2 c y rfl f)
end Go.AM.PL
