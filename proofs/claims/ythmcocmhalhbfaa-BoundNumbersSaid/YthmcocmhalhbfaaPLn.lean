/- Contracts of the functions that the statement reaches. No condition. -/
import Derived.Test.YthmcocmhalhbfaaPLm
import Derived.Test.YthmcocmhalhbfaaPLk
import Derived.Test.YthmcocmhalhbfaaGMc
set_option linter.all false
set_option maxRecDepth 10000
namespace Go.AM.PL
end Go.AM.PL
namespace Go.AM.PL
end Go.AM.PL
set_option linter.all false
set_option maxRecDepth 10000
namespace Go.AM.PL
/-! what is turned about step by step -/
end Go.AM.PL
namespace Go.AM.PL
def tapeL (c k n : Nat) : List Int := (List.range n).map fun i : Nat => ((i : Int) * i * 7 + (k : Int) * c + (i : Int) * k) % 211
theorem tapeL_snoc {c k i : Nat} : tapeL c k (i + 1) = tapeL c k i ++ [((i : Int) * i * 7 + (k : Int) * c + (i : Int) * k) % 211] := by unfold tapeL; rw [List.range_succ, List.map_append]; rfl
theorem tapeL_len {c k n : Nat} : (tapeL c k n).length = n := by unfold tapeL; simp
theorem tapeL_i64 {c k n : Nat} : ∀ x ∈ tapeL c k n, i64 x := fun x hx => by
 unfold tapeL at hx
 obtain ⟨i, _, rfl⟩ := List.mem_map.1 hx
 unfold i64; omega
theorem mul_le' {a b : Nat} {m n : Int} (h1 : (a : Int) ≤ m) (h2 : (b : Int) ≤ n) : 0 ≤ (a : Int) * b ∧ (a : Int) * b ≤ m * n := by
 have := Int.mul_le_mul h1 h2 (by omega) (by omega)
 have h3 := Int.mul_nonneg (show 0 ≤ (a : Int) by omega) (show 0 ≤ (b : Int) by omega)
 exact ⟨h3, this⟩
end Go.AM.PL
namespace Go.AM.PL
end Go.AM.PL
namespace Go.AM.PL
end Go.AM.PL
set_option linter.all false
set_option maxRecDepth 10000
namespace Go.AM.PL
structure Ch where
 fr : Int
 to : Int
 q : Bool
 cap : Int
 max : Int
 late : Int
 deriving DecidableEq
def encC (c : Ch) : List GV := [.v (.int .i64 c.fr), .v (.int .i64 c.to), .v (.bool c.q), .v (.int .i64 c.cap), .v (.int .u32 c.max), .v (.int .i64 c.late)]
def encU (n : Int) : List GV := [.v (.int .u32 n)]
theorem gd17 {α : Type} {l : List α} {i : Nat} (d : α) (h : i < l.length) : l[i]? = some (l.getD i d) := by
 rw [List.getD_eq_getElem?_getD, List.getElem?_eq_getElem h]; rfl
def isC (C : List Ch) (i : Int) : Prop := 0 ≤ i ∧ i < (C.length : Int)
instance (C : List Ch) (i : Int) : Decidable (isC C i) := by unfold isC; infer_instance
end Go.AM.PL
namespace Go.AM.PL
section
variable {C : List Ch} {S : List (List Int)} {q : Nat} {n : Int}
end
end Go.AM.PL
namespace Go.AM.PL
end Go.AM.PL
set_option linter.all false
set_option maxRecDepth 10000
namespace Go.AM.PL
/-! two rows of rows, one by one -/
end Go.AM.PL
namespace Go.AM.PL
end Go.AM.PL
set_option linter.all false
set_option maxRecDepth 10000
namespace Go.AM.PL
/-! frames round: whose each tick is -/
abbrev Sp := Int × Int
def spV (part : Int) : Int → List Rn → List Sp
 | _, [] => []
 | a, r :: l => if r.p = part then (a, a + r.n) :: spV part (a + r.n) l else spV part (a + r.n) l
def inS (b : List Sp) (v : Int) : Prop := ∃ s ∈ b, s.1 ≤ v ∧ v < s.2
def wlen (l : List Rn) : Int := ((word l).length : Int)
def PW (l : List Rn) (part : Int) (v : Int) : Prop := (word l)[(v % wlen l).toNat]? = some part
theorem wlen_cons (r : Rn) (l : List Rn) (h : 0 ≤ r.n) : wlen (r :: l) = r.n + wlen l := by
 unfold wlen; rw [word_cons, List.length_append, List.length_replicate]; omega
theorem wlen_app (A B : List Rn) : wlen (A ++ B) = wlen A + wlen B := by unfold wlen; rw [word_app, List.length_append]; omega
theorem sp_mem (part : Int) : ∀ (l : List Rn) (a u : Int), (∀ r ∈ l, 1 ≤ r.n) → (inS (spV part a l) u ↔ ∃ k : Nat, u = a + k ∧ (word l)[k]? = some part)
 | [], a, u, _ => by
   constructor
   ·rintro ⟨s, h, _⟩; cases h
   ·rintro ⟨k, _, h⟩; simp [word] at h
 | r :: l, a, u, hl => by
   have hr := hl r (List.mem_cons_self ..)
   have ih := sp_mem part l (a + r.n) u (fun x hx => hl x (List.mem_cons_of_mem _ hx))
   have hw : ∀ k : Nat, (word (r :: l))[k]? = if k < r.n.toNat then some r.p else (word l)[k - r.n.toNat]? := fun k => by
    rw [word_cons]
    split
    ·rename_i h; rw [List.getElem?_append_left (by rw [List.length_replicate]; exact h), List.getElem?_replicate, if_pos h]
    ·rename_i h; rw [List.getElem?_append_right (by rw [List.length_replicate]; omega), List.length_replicate]
   have tail : (∃ k : Nat, u = a + r.n + k ∧ (word l)[k]? = some part) → ∃ k : Nat, u = a + k ∧ (word (r :: l))[k]? = some part := by
    rintro ⟨k, h1, h2⟩
    refine ⟨r.n.toNat + k, by omega, ?_⟩
    rw [hw, if_neg (by omega), ← h2]; congr 1; omega
   rw [spV]
   constructor
   ·intro h
    split at h
    ·rename_i c
     obtain ⟨s, hs, h1, h2⟩ := h
     rcases List.mem_cons.1 hs with rfl | hs
     ·refine ⟨(u - a).toNat, by simp only at h1; omega, ?_⟩
      rw [hw, if_pos (by simp only at h1 h2; omega), c]
     ·exact tail (ih.1 ⟨s, hs, h1, h2⟩)
    ·exact tail (ih.1 h)
   ·rintro ⟨k, h1, h2⟩
    rw [hw] at h2
    by_cases hk : k < r.n.toNat
    ·rw [if_pos hk] at h2
     rw [if_pos (Option.some.inj h2)]
     exact ⟨_, List.mem_cons_self .., by show a ≤ u; omega, by show u < a + r.n; omega⟩
    ·rw [if_neg hk] at h2
     have h3 := ih.2 ⟨k - r.n.toNat, by omega, h2⟩
     split
     ·obtain ⟨s, hs, h4⟩ := h3; exact ⟨s, List.mem_cons_of_mem _ hs, h4⟩
     ·exact h3
def Rising (a e : Int) : List Sp → Prop
 | [] => a ≤ e
 | s :: b => a ≤ s.1 ∧ s.1 < s.2 ∧ Rising s.2 e b
theorem Rising.le {e : Int} : ∀ {b : List Sp} {a a' : Int}, Rising a e b → a' ≤ a → Rising a' e b
 | [], _, _, h, k => Int.le_trans k h
 | _ :: _, _, _, h, k => ⟨Int.le_trans k h.1, h.2⟩
theorem Rising.ae {e : Int} : ∀ {b : List Sp} {a : Int}, Rising a e b → a ≤ e
 | [], _, h => h
 | s :: b, a, h => by have := Rising.ae h.2.2; have := h.1; have := h.2.1; omega
theorem Rising.mem {e : Int} : ∀ {b : List Sp} {a : Int}, Rising a e b → ∀ s ∈ b, a ≤ s.1 ∧ s.1 < s.2 ∧ s.2 ≤ e
 | [], _, _, _, h => by cases h
 | s :: b, a, h, x, hx => by
   rcases List.mem_cons.1 hx with rfl | hx
   ·exact ⟨h.1, h.2.1, h.2.2.ae⟩
   ·have := Rising.mem h.2.2 x hx; have := h.1; have := h.2.1; omega
theorem sp_rising (part : Int) : ∀ (l : List Rn) (a : Int), (∀ r ∈ l, 1 ≤ r.n) → Rising a (a + wlen l) (spV part a l)
 | [], a, _ => by show a ≤ a + wlen []; unfold wlen word; simp
 | r :: l, a, hl => by
   have hr := hl r (List.mem_cons_self ..)
   have ih := sp_rising part l (a + r.n) (fun x hx => hl x (List.mem_cons_of_mem _ hx))
   rw [wlen_cons r l (by omega), show a + (r.n + wlen l) = a + r.n + wlen l by omega, spV]
   split
   ·exact ⟨Int.le_refl _, by show a < a + r.n; omega, ih⟩
   ·exact ih.le (by omega)
theorem PW_in {l : List Rn} (hl : ∀ r ∈ l, 1 ≤ r.n) (part v : Int) (h0 : 0 < wlen l) : PW l part v ↔ inS (spV part 0 l) (v % wlen l) := by
 rw [sp_mem part l 0 _ hl]
 have := Int.emod_nonneg v (show wlen l ≠ 0 by omega)
 unfold PW
 constructor
 ·intro h; exact ⟨_, by omega, h⟩
 ·rintro ⟨k, h1, h2⟩; rw [show (v % wlen l).toNat = k by omega]; exact h2
/-! the next tick -/
def IsNext (Q : Int → Prop) (t u : Int) : Prop := t < u ∧ Q u ∧ ∀ v, t < v → v < u → ¬ Q v
theorem IsNext.uniq {Q : Int → Prop} {t u u' : Int} (h : IsNext Q t u) (k : IsNext Q t u') : u = u' := by
 rcases Int.lt_trichotomy u u' with c | c | c
 ·exact absurd h.2.1 (k.2.2 u h.1 c)
 ·exact c
 ·exact absurd k.2.1 (h.2.2 u' k.1 c)
def nextV (t len : Int) : List Sp → List Sp → Int
 | b0, [] => len + (b0.headD (0, 0)).1
 | b0, s :: b => if t + 1 < s.2 then max (t + 1) s.1 else nextV t len b0 b
theorem next_found {t len a e : Int} {b0 : List Sp} : ∀ {b : List Sp}, Rising a e b → (nextV t len b0 b = nextV t len b0 [] ∧ ∀ s ∈ b, s.2 ≤ t + 1) ∨ (t < nextV t len b0 b ∧ nextV t len b0 b < e ∧ inS b (nextV t len b0 b) ∧ ∀ v, t < v → v < nextV t len b0 b → ¬ inS b v) := by
 intro b
 induction b generalizing a with
 | nil => intro _; exact .inl ⟨rfl, fun s h => by cases h⟩
 | cons s b ih =>
   intro h
   have en : nextV t len b0 (s :: b) = if t + 1 < s.2 then max (t + 1) s.1 else nextV t len b0 b := rfl
   rw [en]
   by_cases c : t + 1 < s.2
   ·rw [if_pos c]
    have hm := h.mem
    have h1 := hm s (List.mem_cons_self ..)
    refine .inr ⟨by omega, by omega, ⟨s, List.mem_cons_self .., by omega, by omega⟩, fun v hv hu ⟨x, hx, k1, k2⟩ => ?_⟩
    rcases List.mem_cons.1 hx with rfl | hx
    ·omega
    ·have := h.2.2.mem x hx; omega
   ·rw [if_neg c]
    rcases ih h.2.2 with ⟨e1, e2⟩ | ⟨e1, e2, ⟨x, hx, e3⟩, e4⟩
    ·refine .inl ⟨e1, fun x hx => ?_⟩
     rcases List.mem_cons.1 hx with rfl | hx
     ·omega
     ·exact e2 x hx
    ·refine .inr ⟨e1, e2, ⟨x, List.mem_cons_of_mem _ hx, e3⟩, fun v hv hu ⟨y, hy, k⟩ => ?_⟩
     rcases List.mem_cons.1 hy with rfl | hy
     ·omega
     ·exact e4 v hv hu ⟨y, hy, k⟩
theorem next_is {l : List Rn} (hl : ∀ r ∈ l, 1 ≤ r.n) {q t : Int} (ht : 0 ≤ t ∧ t < wlen l) (hb : spV q 0 l ≠ []) :
 IsNext (PW l q) t (nextV t (wlen l) (spV q 0 l) (spV q 0 l)) ∧ nextV t (wlen l) (spV q 0 l) (spV q 0 l) ≤ t + wlen l := by
 have hr := sp_rising q l 0 hl
 have h0 : 0 < wlen l := by omega
 have hin : ∀ v, PW l q v ↔ inS (spV q 0 l) (v % wlen l) := fun v => PW_in hl q v h0
 have hmod : ∀ v, 0 ≤ v → v < wlen l → v % wlen l = v := fun v a b => Int.emod_eq_of_lt a b
 have hmod2 : ∀ v, wlen l ≤ v → v < wlen l + wlen l → v % wlen l = v - wlen l := fun v a b => by
  rw [← Int.emod_eq_of_lt (show 0 ≤ v - wlen l by omega) (show v - wlen l < wlen l by omega), Int.sub_emod_right]
 generalize hB : spV q 0 l = B at *
 rcases next_found (t := t) (len := wlen l) (b0 := B) hr with ⟨e1, e2⟩ | ⟨e1, e2, e3, e4⟩
 ·cases B with
  | nil => exact absurd rfl hb
  | cons s B =>
    have hm := hr.mem
    have hs := hm s (List.mem_cons_self ..)
    have hs2 := e2 s (List.mem_cons_self ..)
    rw [e1]
    have hN : nextV t (wlen l) (s :: B) [] = wlen l + s.1 := rfl
    rw [hN]
    refine ⟨⟨by omega, (hin _).2 ?_, fun v hv hu hq => ?_⟩, by omega⟩
    ·rw [hmod2 _ (by omega) (by omega)]
     exact ⟨s, List.mem_cons_self .., by omega, by omega⟩
    ·have hq := (hin v).1 hq
     by_cases c : v < wlen l
     ·rw [hmod v (by omega) c] at hq
      obtain ⟨x, hx, k1, k2⟩ := hq
      have := e2 x hx; omega
     ·rw [hmod2 v (by omega) (by omega)] at hq
      obtain ⟨x, hx, k1, k2⟩ := hq
      rcases List.mem_cons.1 hx with rfl | hx
      ·omega
      ·have := hr.2.2.mem x hx; omega
 ·refine ⟨⟨e1, (hin _).2 (by rw [hmod _ (by omega) (by omega)]; exact e3), fun v hv hu hq => ?_⟩, by omega⟩
  have hq := (hin v).1 hq
  rw [hmod v (by omega) (by omega)] at hq
  exact e4 v hv hu hq
/-! lateness -/
structure IsLate (P Q : Int → Prop) (v : Int) : Prop where
 up : ∀ t, P t → ∃ d, 1 ≤ d ∧ d ≤ v ∧ Q (t + d)
 at_ : ∃ t, P t ∧ ∀ d, 1 ≤ d → d < v → ¬ Q (t + d)
theorem IsLate.uniq {P Q : Int → Prop} {v v' : Int} (h : IsLate P Q v) (k : IsLate P Q v') : v = v' := by
 obtain ⟨t, h1, h2⟩ := h.at_
 obtain ⟨t', k1, k2⟩ := k.at_
 obtain ⟨d, a1, a2, a3⟩ := h.up t' k1
 obtain ⟨d', b1, b2, b3⟩ := k.up t h1
 have c1 : ¬ d < v' := fun c => k2 d a1 c a3
 have c2 : ¬ d' < v := fun c => h2 d' b1 c b3
 omega
theorem IsLate.shift {P Q P' Q' : Int → Prop} {v c : Int} (h : IsLate P Q v) (hP : ∀ t, P' t ↔ P (t + c)) (hQ : ∀ t, Q' t ↔ Q (t + c)) : IsLate P' Q' v where
 up := fun t ht => by
  obtain ⟨d, a1, a2, a3⟩ := h.up _ ((hP t).1 ht)
  exact ⟨d, a1, a2, (hQ _).2 (by rw [show t + d + c = t + c + d by omega]; exact a3)⟩
 at_ := by
  obtain ⟨t, h1, h2⟩ := h.at_
  exact ⟨t - c, (hP _).2 (by rw [Int.sub_add_cancel]; exact h1), fun d a b k => h2 d a b (by have := (hQ _).1 k; rwa [show t - c + d + c = t + d by omega] at this)⟩
def lateF (b : List Sp) (len : Int) (m : Int) (s : Sp) : Int := max (max m (nextV s.1 len b b - s.1)) (nextV (s.2 - 1) len b b - (s.2 - 1))
def lateV (l : List Rn) (p q : Int) : Int :=
 if spV p 0 l = [] then 0 else if spV q 0 l = [] then -1 else (spV p 0 l).foldl (lateF (spV q 0 l) (wlen l)) 0
theorem lateF_fold (b : List Sp) (len : Int) : ∀ (a : List Sp) (m : Int), (m ≤ a.foldl (lateF b len) m ∧ ∀ s ∈ a, nextV s.1 len b b - s.1 ≤ a.foldl (lateF b len) m ∧ nextV (s.2 - 1) len b b - (s.2 - 1) ≤ a.foldl (lateF b len) m) ∧
 (a.foldl (lateF b len) m = m ∨ ∃ s ∈ a, ∃ t, (t = s.1 ∨ t = s.2 - 1) ∧ a.foldl (lateF b len) m = nextV t len b b - t)
 | [], m => ⟨⟨Int.le_refl _, fun s h => by cases h⟩, .inl rfl⟩
 | s :: a, m => by
   have ih := lateF_fold b len a (lateF b len m s)
   rw [List.foldl_cons]
   have h1 : m ≤ lateF b len m s ∧ nextV s.1 len b b - s.1 ≤ lateF b len m s ∧ nextV (s.2 - 1) len b b - (s.2 - 1) ≤ lateF b len m s := by unfold lateF; omega
   refine ⟨⟨by omega, fun x hx => ?_⟩, ?_⟩
   ·rcases List.mem_cons.1 hx with rfl | hx
    ·omega
    ·exact ih.1.2 x hx
   ·rcases ih.2 with h | ⟨x, hx, t, ht, h⟩
    ·rw [h]
     have : lateF b len m s = m ∨ lateF b len m s = nextV s.1 len b b - s.1 ∨ lateF b len m s = nextV (s.2 - 1) len b b - (s.2 - 1) := by unfold lateF; omega
     rcases this with c | c | c
     ·exact .inl c
     ·exact .inr ⟨s, List.mem_cons_self .., s.1, .inl rfl, c⟩
     ·exact .inr ⟨s, List.mem_cons_self .., s.2 - 1, .inr rfl, c⟩
    ·exact .inr ⟨x, List.mem_cons_of_mem _ hx, t, ht, h⟩
theorem sp_pos {l : List Rn} (hl : ∀ r ∈ l, 1 ≤ r.n) {p : Int} (h : spV p 0 l ≠ []) : 0 < wlen l := by
 have hr := sp_rising p l 0 hl
 cases hB : spV p 0 l with
 | nil => exact absurd hB h
 | cons s B => rw [hB] at hr; have := hr.mem s (List.mem_cons_self ..); omega
theorem late_is {l : List Rn} (hl : ∀ r ∈ l, 1 ≤ r.n) {p q : Int} (ha : spV p 0 l ≠ []) (hb : spV q 0 l ≠ []) : IsLate (PW l p) (PW l q) (lateV l p q) ∧ 1 ≤ lateV l p q ∧ lateV l p q ≤ wlen l := by
 have h0 := sp_pos hl ha
 have hra := sp_rising p l 0 hl
 have hnx : ∀ t, 0 ≤ t → t < wlen l → _ := fun t a b => next_is hl (q := q) ⟨a, b⟩ hb
 have hv : lateV l p q = (spV p 0 l).foldl (lateF (spV q 0 l) (wlen l)) 0 := by unfold lateV; rw [if_neg ha, if_neg hb]
 obtain ⟨⟨f1, f2⟩, f3⟩ := lateF_fold (spV q 0 l) (wlen l) (spV p 0 l) 0
 rw [← hv] at f1 f2 f3
 have hper : ∀ part v, PW l part (v % wlen l) ↔ PW l part v := fun part v => by unfold PW; rw [Int.emod_emod_of_dvd _ (Int.dvd_refl _)]
 have hshift : ∀ part v d, PW l part (v % wlen l + d) ↔ PW l part (v + d) := fun part v d => by unfold PW; rw [Int.emod_add_emod]
 -- a tick of p gives a distance
 obtain ⟨s0, B, hB⟩ : ∃ s B, spV p 0 l = s :: B := by
  cases h : spV p 0 l with
  | nil => exact absurd h ha
  | cons s B => exact ⟨s, B, rfl⟩
 have hs0 : s0 ∈ spV p 0 l := by rw [hB]; exact List.mem_cons_self ..
 have hs0m := hra.mem s0 hs0
 have hpos : 1 ≤ lateV l p q := by
  have := (f2 s0 hs0).1
  have := (hnx s0.1 (by omega) (by omega)).1.1
  omega
 refine ⟨⟨fun t ht => ?_, ?_⟩, hpos, ?_⟩
 ·obtain ⟨s, hs, k1, k2⟩ := (PW_in hl p t h0).1 ht
  have hsm := hra.mem s hs
  generalize ht0 : t % wlen l = t0 at k1 k2
  obtain ⟨n1, _⟩ := hnx t0 (by omega) (by omega)
  obtain ⟨m1, _⟩ := hnx s.1 (by omega) (by omega)
  have hle := f2 s hs
  refine ⟨nextV t0 (wlen l) (spV q 0 l) (spV q 0 l) - t0, by have := n1.1; omega, ?_, ?_⟩
  ·by_cases c : t0 < nextV s.1 (wlen l) (spV q 0 l) (spV q 0 l)
   ·have e : nextV t0 (wlen l) (spV q 0 l) (spV q 0 l) = nextV s.1 (wlen l) (spV q 0 l) (spV q 0 l) := n1.uniq ⟨c, m1.2.1, fun v a b => m1.2.2 v (by omega) b⟩
    rw [e]; omega
   ·-- within the span there is a tick of q: p is q
    generalize hu : nextV s.1 (wlen l) (spV q 0 l) (spV q 0 l) = u at *
    have hq := m1.2.1
    have hm11 := m1.1
    have hp : PW l p u := (PW_in hl p u h0).2 (by rw [Int.emod_eq_of_lt (by omega) (by omega)]; exact ⟨s, hs, by omega, by omega⟩)
    have hpq : p = q := by unfold PW at hq hp; rw [hp] at hq; exact Option.some.inj hq
    by_cases c2 : t0 + 1 < s.2
    ·have hp1 : PW l q (t0 + 1) := by rw [← hpq]; exact (PW_in hl p _ h0).2 (by rw [Int.emod_eq_of_lt (by omega) (by omega)]; exact ⟨s, hs, by omega, by omega⟩)
     have e : nextV t0 (wlen l) (spV q 0 l) (spV q 0 l) = t0 + 1 := n1.uniq ⟨by omega, hp1, fun v a b => by omega⟩
     rw [e]; omega
    ·have e : t0 = s.2 - 1 := by omega
     rw [e]; exact hle.2
  ·have := n1.2.1
   rw [← hshift, ht0, show t0 + (nextV t0 (wlen l) (spV q 0 l) (spV q 0 l) - t0) = nextV t0 (wlen l) (spV q 0 l) (spV q 0 l) by omega]
   exact this
 ·rcases f3 with c | ⟨s, hs, t, ht, c⟩
  ·omega
  ·have hsm := hra.mem s hs
   obtain ⟨n1, _⟩ := hnx t (by omega) (by omega)
   refine ⟨t, (PW_in hl p t h0).2 (by rw [Int.emod_eq_of_lt (by omega) (by omega)]; exact ⟨s, hs, by omega, by omega⟩), fun d a b k => n1.2.2 (t + d) (by omega) (by omega) k⟩
 ·rcases f3 with c | ⟨s, hs, t, ht, c⟩
  ·omega
  ·have hsm := hra.mem s hs
   have := (hnx t (by omega) (by omega)).2
   omega
end Go.AM.PL
set_option linter.all false
set_option maxRecDepth 10000
namespace Go.AM.PL
def encSp (s : Sp) : List GV := [.v (.int .i64 s.1), .v (.int .i64 s.2)]
theorem spV_app (p : Int) : ∀ (A B : List Rn) (a : Int), (∀ r ∈ A, 0 ≤ r.n) → spV p a (A ++ B) = spV p a A ++ spV p (a + wlen A) B
 | [], B, a, _ => by rw [List.nil_append, show wlen [] = 0 from rfl, Int.add_zero]; rfl
 | r :: A, B, a, h => by
   have ih := spV_app p A B (a + r.n) (fun x hx => h x (List.mem_cons_of_mem _ hx))
   rw [List.cons_append, spV, spV, ih, wlen_cons r A (h r (List.mem_cons_self ..)), show a + (r.n + wlen A) = a + r.n + wlen A by omega]
   split <;> rfl
theorem wlen_take {l : List Rn} {i : Nat} (h : i < l.length) (hn : 0 ≤ l[i].n) : wlen (l.take (i + 1)) = wlen (l.take i) + l[i].n := by
 rw [List.take_succ_eq_append_getElem h, wlen_app]
 have : wlen [l[i]] = l[i].n := by rw [wlen_cons _ _ hn]; show _ + wlen [] = _; rw [show wlen [] = 0 from rfl]; omega
 rw [this]
theorem sp_take {p : Int} {l : List Rn} {i : Nat} (h : i < l.length) (hl : ∀ r ∈ l, 1 ≤ r.n) : spV p 0 (l.take (i + 1)) = spV p 0 (l.take i) ++ (if l[i].p = p then [(wlen (l.take i), wlen (l.take i) + l[i].n)] else []) := by
 rw [List.take_succ_eq_append_getElem h, spV_app p _ _ _ (fun r hr => by have := hl r (List.mem_of_mem_take hr); omega), Int.zero_add]
 rfl
theorem wlen_le {l : List Rn} {i : Nat} : 0 ≤ wlen (l.take i) ∧ wlen (l.take i) ≤ wlen l := by
 have e : wlen l = wlen (l.take i) + wlen (l.drop i) := by rw [← wlen_app, List.take_append_drop]
 have : 0 ≤ wlen (l.drop i) := by unfold wlen; omega
 have : 0 ≤ wlen (l.take i) := by unfold wlen; omega
 omega
theorem wlen_tot {l : List Rn} (h : ∀ r ∈ l, 1 ≤ r.n) : wlen l = tot l := by
 induction l with
 | nil => rfl
 | cons r l ih => rw [wlen_cons r l (by have := h r (List.mem_cons_self ..); omega), ih (fun x hx => h x (List.mem_cons_of_mem _ hx))]; rfl
theorem total_wlen {l : List Rn} (h : ∀ r ∈ l, 1 ≤ r.n) (hw : wlen l < 2 ^ 62) : total l = wlen l := by
 rw [wlen_tot h] at hw ⊢
 have := foldl_tot l 0 (Int.le_refl _) (fun r hr => by have := h r hr; omega) (by omega)
 unfold total; rw [this]; omega
theorem late_ne {l : List Rn} {p q : Int} (ha : spV p 0 l ≠ []) (hb : spV q 0 l ≠ []) : lateV l p q = (spV p 0 l).foldl (lateF (spV q 0 l) (wlen l)) 0 := by unfold lateV; rw [if_neg ha, if_neg hb]
/-! ticks -/
def cnt (b : List Sp) : Int := b.foldl (fun n s => n + (s.2 - s.1)) 0
theorem cnt_from (b : List Sp) : ∀ m, b.foldl (fun n s => n + (s.2 - s.1)) m = m + cnt b := by
 induction b with
 | nil => intro m; show m = m + 0; omega
 | cons s b ih => intro m; unfold cnt; rw [List.foldl_cons, List.foldl_cons, ih, ih (0 + _)]; omega
theorem cnt_app (a b : List Sp) : cnt (a ++ b) = cnt a + cnt b := by unfold cnt; rw [List.foldl_append, cnt_from b]; rfl
theorem cnt_cons (s : Sp) (b : List Sp) : cnt (s :: b) = (s.2 - s.1) + cnt b := by unfold cnt; rw [List.foldl_cons, cnt_from]; unfold cnt; omega
theorem cnt_rng {a e : Int} : ∀ {b : List Sp} {a : Int}, Rising a e b → 0 ≤ cnt b ∧ cnt b ≤ e - a ∧ (cnt b = 0 → b = [])
 | [], a, h => ⟨Int.le_refl _, by have : a ≤ e := h; show (0 : Int) ≤ _; omega, fun _ => rfl⟩
 | s :: b, a, h => by
   have ih := cnt_rng (a := a) h.2.2
   have := h.1; have := h.2.1
   rw [cnt_cons]
   exact ⟨by omega, by omega, fun h => by omega⟩
theorem sp_nil {p : Int} {l : List Rn} (h : ∀ r ∈ l, 1 ≤ r.n) : spV p 0 l = [] ↔ cnt (spV p 0 l) = 0 :=
 ⟨fun e => by rw [e]; rfl, (cnt_rng (a := 0) (sp_rising p l 0 h)).2.2⟩
/-! a frame twice; a frame that begins later -/
/-! gaps -/
def spD (b : List Sp) (i : Nat) : Sp := b.getD i (0, 0)
def gapI (b : List Sp) (len : Int) : Nat → Int
 | 0 => (spD b 0).1 + len - (spD b (b.length - 1)).2
 | i + 1 => max (gapI b len i) ((spD b (i + 1)).1 - (spD b i).2)
def gapV (l : List Rn) (p : Int) : Int := if spV p 0 l = [] then -1 else gapI (spV p 0 l) (wlen l) ((spV p 0 l).length - 1)
theorem Rising.spD {e : Int} : ∀ {b : List Sp} {a : Int}, Rising a e b → ∀ i, i + 1 < b.length → (spD b i).2 ≤ (PL.spD b (i + 1)).1
 | [], _, _, i, h => by simp at h
 | [s], _, _, i, h => by simp at h
 | s :: s' :: b, a, h, 0, _ => h.2.2.1
 | s :: s' :: b, a, h, i + 1, hi => Rising.spD h.2.2 i (by simp only [List.length_cons] at hi ⊢; omega)
theorem spD_mem {b : List Sp} {i : Nat} (h : i < b.length) : spD b i ∈ b := by
 unfold spD; rw [List.getD_eq_getElem?_getD, List.getElem?_eq_getElem h]; exact List.getElem_mem h
theorem mem_spD {b : List Sp} {s : Sp} (h : s ∈ b) : ∃ i, i < b.length ∧ spD b i = s := by
 obtain ⟨i, hi, e⟩ := List.getElem_of_mem h
 exact ⟨i, hi, by unfold spD; rw [List.getD_eq_getElem?_getD, List.getElem?_eq_getElem hi, e]; rfl⟩
theorem gapI_ge (b : List Sp) (len : Int) : ∀ k, gapI b len 0 ≤ gapI b len k ∧ ∀ i, i < k → (spD b (i + 1)).1 - (spD b i).2 ≤ gapI b len k
 | 0 => ⟨Int.le_refl _, fun i h => by omega⟩
 | k + 1 => by
   have ih := gapI_ge b len k
   have e : gapI b len (k + 1) = max (gapI b len k) ((spD b (k + 1)).1 - (spD b k).2) := rfl
   refine ⟨by omega, fun i hi => ?_⟩
   by_cases c : i = k
   ·subst c; omega
   ·have := ih.2 i (by omega); omega
theorem gapI_is (b : List Sp) (len : Int) : ∀ k, gapI b len k = gapI b len 0 ∨ ∃ i, i < k ∧ gapI b len k = (spD b (i + 1)).1 - (spD b i).2
 | 0 => .inl rfl
 | k + 1 => by
   have e : gapI b len (k + 1) = max (gapI b len k) ((spD b (k + 1)).1 - (spD b k).2) := rfl
   rcases Int.le_total (gapI b len k) ((spD b (k + 1)).1 - (spD b k).2) with c | c
   ·exact .inr ⟨k, by omega, by omega⟩
   ·have e2 : gapI b len (k + 1) = gapI b len k := by omega
    rw [e2]
    rcases gapI_is b len k with h | ⟨i, hi, h⟩
    ·exact .inl h
    ·exact .inr ⟨i, by omega, h⟩
theorem Rising.mono {e : Int} {b : List Sp} {a : Int} (h : Rising a e b) : ∀ i j, i < j → j < b.length → (PL.spD b i).2 ≤ (PL.spD b j).1 := fun i j hij hj => by
 obtain ⟨d, rfl⟩ : ∃ d, j = i + 1 + d := ⟨j - i - 1, by omega⟩
 clear hij
 induction d with
 | zero => exact h.spD i (by omega)
 | succ d ih =>
   have ih := ih (by omega)
   have h1 := h.spD (i + 1 + d) (by omega)
   have h2 := h.mem (PL.spD b (i + 1 + d)) (spD_mem (by omega))
   rw [show i + 1 + (d + 1) = i + 1 + d + 1 by omega]
   omega
theorem gap_late {l : List Rn} (h : ∀ r ∈ l, 1 ≤ r.n) {p : Int} (ha : spV p 0 l ≠ []) : lateV l p p = gapV l p + 1 := by
 have h0 := sp_pos h ha
 have hr := sp_rising p l 0 h
 rw [Int.zero_add] at hr
 refine (late_is h ha ha).1.uniq ?_
 have hin : ∀ v, PW l p v ↔ inS (spV p 0 l) (v % wlen l) := fun v => PW_in h p v h0
 have hper : ∀ v d, PW l p (v % wlen l + d) ↔ PW l p (v + d) := fun v d => by unfold PW; rw [Int.emod_add_emod]
 have hmod : ∀ v, 0 ≤ v → v < wlen l → v % wlen l = v := fun v a b => Int.emod_eq_of_lt a b
 have hmod2 : ∀ v, wlen l ≤ v → v < wlen l + wlen l → v % wlen l = v - wlen l := fun v a b => by
  rw [← Int.emod_eq_of_lt (show 0 ≤ v - wlen l by omega) (show v - wlen l < wlen l by omega), Int.sub_emod_right]
 unfold gapV
 rw [if_neg ha]
 generalize hB : spV p 0 l = B at *
 have hlen : 0 < B.length := List.length_pos_iff.2 ha
 have hm := hr.mem
 have hge := gapI_ge B (wlen l) (B.length - 1)
 have h00 := hm _ (spD_mem (b := B) (i := 0) hlen)
 have hLL := hm _ (spD_mem (b := B) (i := B.length - 1) (by omega))
 have hg0 : gapI B (wlen l) 0 = (spD B 0).1 + wlen l - (spD B (B.length - 1)).2 := rfl
 generalize hG : gapI B (wlen l) (B.length - 1) = G at *
 refine ⟨fun t ht => ?_, ?_⟩
 ·obtain ⟨s, hs, k1, k2⟩ := (hin t).1 ht
  generalize ht0 : t % wlen l = t0 at *
  have hsm := hm s hs
  suffices hx : ∃ d, 1 ≤ d ∧ d ≤ G + 1 ∧ PW l p (t0 + d) by
   obtain ⟨d, a, b, c⟩ := hx
   exact ⟨d, a, b, by rw [← hper, ht0]; exact c⟩
  by_cases c : t0 + 1 < s.2
  ·exact ⟨1, by omega, by omega, (hin _).2 (by rw [hmod _ (by omega) (by omega)]; exact ⟨s, hs, by omega, by omega⟩)⟩
  ·obtain ⟨i, hi, e⟩ := mem_spD hs
   by_cases ci : i + 1 < B.length
   ·have h1 := hm _ (spD_mem (b := B) (i := i + 1) ci)
    have h2 := hr.spD i ci
    have h3 := hge.2 i (by omega)
    refine ⟨(spD B (i + 1)).1 - t0, by rw [e] at h2; omega, by rw [e] at h3; omega, (hin _).2 ?_⟩
    rw [show t0 + ((spD B (i + 1)).1 - t0) = (spD B (i + 1)).1 by omega, hmod _ (by omega) (by omega)]
    exact ⟨_, spD_mem (b := B) ci, by omega, by omega⟩
   ·have ei : i = B.length - 1 := by omega
    rw [ei] at e
    rw [e] at hg0 hLL
    refine ⟨wlen l + (spD B 0).1 - t0, by omega, by omega, (hin _).2 ?_⟩
    rw [show t0 + (wlen l + (spD B 0).1 - t0) = wlen l + (spD B 0).1 by omega, hmod2 _ (by omega) (by omega)]
    exact ⟨_, spD_mem (b := B) hlen, by omega, by omega⟩
 ·rcases gapI_is B (wlen l) (B.length - 1) with c | ⟨i, hi, c⟩
  ·rw [hG] at c
   refine ⟨(spD B (B.length - 1)).2 - 1, (hin _).2 (by rw [hmod _ (by omega) (by omega)]; exact ⟨_, spD_mem (b := B) (i := B.length - 1) (by omega), by omega, by omega⟩), fun d d1 d2 k => ?_⟩
   have k := (hin _).1 k
   by_cases cv : (spD B (B.length - 1)).2 - 1 + d < wlen l
   ·rw [hmod _ (by omega) cv] at k
    obtain ⟨x, hx, x1, x2⟩ := k
    obtain ⟨j, hj, ej⟩ := mem_spD hx
    by_cases cj : j = B.length - 1
    ·subst cj
     have e1 := congrArg Prod.fst ej
     have e2 := congrArg Prod.snd ej
     omega
    ·have := hr.mono j (B.length - 1) (by omega) (by omega)
     have := hm x hx
     have e1 := congrArg Prod.fst ej
     have e2 := congrArg Prod.snd ej
     omega
   ·rw [hmod2 _ (by omega) (by omega)] at k
    obtain ⟨x, hx, x1, x2⟩ := k
    obtain ⟨j, hj, ej⟩ := mem_spD hx
    have hxm := hm x hx
    by_cases cj : j = 0
    ·subst cj; rw [← ej] at x1; omega
    ·have := hr.mono 0 j (by omega) hj
     rw [ej] at this; omega
  ·rw [hG] at c
   have h1 := hm _ (spD_mem (b := B) (i := i) (by omega))
   have h2 := hm _ (spD_mem (b := B) (i := i + 1) (by omega))
   refine ⟨(spD B i).2 - 1, (hin _).2 (by rw [hmod _ (by omega) (by omega)]; exact ⟨_, spD_mem (b := B) (i := i) (by omega), by omega, by omega⟩), fun d d1 d2 k => ?_⟩
   have k := (hin _).1 k
   rw [hmod _ (by omega) (by omega)] at k
   obtain ⟨x, hx, x1, x2⟩ := k
   obtain ⟨j, hj, ej⟩ := mem_spD hx
   rcases Nat.lt_trichotomy j (i + 1) with cj | cj | cj
   ·by_cases cc : j = i
    ·subst cc; rw [← ej] at x2; omega
    ·have := hr.mono j i (by omega) (by omega)
     have hxm := hm x hx
     rw [ej] at this; omega
   ·subst cj; rw [← ej] at x1; omega
   ·have := hr.mono (i + 1) j cj hj
    rw [ej] at this; omega
end Go.AM.PL
