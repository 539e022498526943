/- Contracts of the functions that the statement reaches. No condition. -/
import Derived.Test.YthmcocmhalhbfaaPLn
import Derived.Test.YthmcocmhalhbfaaPLm
set_option linter.all false
set_option maxRecDepth 10000
namespace Go.AM.PL
def budF (a per : Int) (n : Int) (s : Sp) : Int := n + max 0 (min s.2 (a + per) - max s.1 a)
def budW (b : List Sp) (a per : Int) : Int := b.foldl (budF a per) 0
theorem budW_from (a per : Int) (b : List Sp) : ∀ m, b.foldl (budF a per) m = m + budW b a per := by
 induction b with
 | nil => intro m; show m = m + 0; omega
 | cons s b ih => intro m; unfold budW; rw [List.foldl_cons, List.foldl_cons, ih, ih (budF a per 0 s)]; unfold budF; omega
theorem budW_cons (s : Sp) (b : List Sp) (x per : Int) : budW (s :: b) x per = max 0 (min s.2 (x + per) - max s.1 x) + budW b x per := by unfold budW; rw [List.foldl_cons, budW_from]; show 0 + max 0 (min s.2 (x + per) - max s.1 x) + budW b x per = _; unfold budW; omega
theorem budW_rng (b : List Sp) (x per : Int) (hp : 0 ≤ per) : 0 ≤ budW b x per ∧ budW b x per ≤ per * (b.length : Int) := by
 induction b with
 | nil => exact ⟨Int.le_refl _, by show (0 : Int) ≤ per * 0; omega⟩
 | cons s b ih =>
   rw [budW_cons, List.length_cons]
   have : per * ((b.length + 1 : Nat) : Int) = per * (b.length : Int) + per := by rw [Int.natCast_add, Int.mul_add]; show _ + per * 1 = _; omega
   omega
def budI (b : List Sp) (per : Int) : Nat → Int
 | 0 => per
 | k + 1 => min (budI b per k) (budW b (per * k) per)
def budV (l : List Rn) (p per : Int) : Int := if per < 1 ∨ wlen l = 0 ∨ wlen l % per ≠ 0 then -1 else budI (spV p 0 l) per (wlen l / per).toNat
theorem cnt_le {l : List Rn} (h : ∀ r ∈ l, 1 ≤ r.n) (p : Int) : 0 ≤ cnt (spV p 0 l) ∧ cnt (spV p 0 l) ≤ wlen l := by
 have := cnt_rng (a := 0) (sp_rising p l 0 h); omega
theorem wlen_pos {l : List Rn} (h : ∀ r ∈ l, 1 ≤ r.n) (hl : 0 < l.length) : 0 < wlen l := by
 cases l with
 | nil => simp at hl
 | cons r l => have := h r (List.mem_cons_self ..); rw [wlen_cons r l (by omega)]; have : 0 ≤ wlen l := by unfold wlen; omega
               omega
theorem late_le {l : List Rn} (h : ∀ r ∈ l, 1 ≤ r.n) (h0 : 0 < wlen l) (p q : Int) : -1 ≤ lateV l p q ∧ lateV l p q ≤ wlen l ∧ (lateV l p q < 0 ↔ 0 < cnt (spV p 0 l) ∧ cnt (spV q 0 l) = 0) := by
 have hp := sp_nil h (p := p)
 have hq := sp_nil h (p := q)
 have cp := cnt_le h p
 by_cases ha : spV p 0 l = []
 ·have e : lateV l p q = 0 := by unfold lateV; rw [if_pos ha]
  have := hp.1 ha
  omega
 ·have np : ¬ cnt (spV p 0 l) = 0 := fun c => ha (hp.2 c)
  by_cases hb : spV q 0 l = []
  ·have e : lateV l p q = -1 := by unfold lateV; rw [if_neg ha, if_pos hb]
   have := hq.1 hb
   omega
  ·have := late_is h ha hb
   have nq : ¬ cnt (spV q 0 l) = 0 := fun c => hb (hq.2 c)
   omega
/-! what is asked -/
structure Pt where
 name : ByteArray
 bud : Int
 per : Int
 sched : Bool
 stop : Bool
 h0 : Int
 h1 : Int
 h2 : Int
 h3 : Int
 h4 : Int
def encP (p : Pt) : List GV := [.v (.string p.name), .v (.int .i64 p.bud), .v (.int .i64 p.per), .v (.bool p.sched), .v (.bool p.stop), .any, .v (.int .i64 p.h0), .v (.int .i64 p.h1), .v (.int .i64 p.h2), .v (.int .i64 p.h3), .v (.int .i64 p.h4)]
def lateBad (l : List Rn) (c : Ch) : Bool := decide (c.late > 0) && (decide (lateV l c.fr c.to > c.late) || (lateV l c.fr c.to == -1))
def shortBad (l : List Rn) (k : Nat) (p : Pt) : Bool := decide (p.bud > 0) && decide (budV l (k : Int) p.per < p.bud)
def anyShort (l : List Rn) : Nat → List Pt → Bool
 | _, [] => false
 | k, p :: ps => shortBad l k p || anyShort l (k + 1) ps
def holdV (C : List Ch) (P : List Pt) (l : List Rn) : Int := if C.any (lateBad l) = true then 19 else if anyShort l 0 P = true then 20 else 0
theorem any_take {α : Type} {f : α → Bool} {l : List α} {i : Nat} (h : i < l.length) : (l.take (i + 1)).any f = ((l.take i).any f || f l[i]) := by
 rw [List.take_succ_eq_append_getElem h, List.any_append]; simp
theorem any_at {α : Type} {f : α → Bool} {l : List α} {i : Nat} (h : i < l.length) (k : f l[i] = true) : l.any f = true := List.any_eq_true.2 ⟨l[i], List.getElem_mem h, k⟩
theorem anyShort_no {l : List Rn} : ∀ {P : List Pt} {k : Nat}, anyShort l k P = false ↔ ∀ i (h : i < P.length), shortBad l (k + i) P[i] = false
 | [], k => ⟨fun _ i h => by simp at h, fun _ => rfl⟩
 | p :: P, k => by
   rw [anyShort, Bool.or_eq_false_iff, anyShort_no]
   constructor
   ·rintro ⟨h1, h2⟩ i hi
    cases i with
    | zero => exact h1
    | succ i => have := h2 i (by simpa using hi); rw [show k + (i + 1) = k + 1 + i by omega]; exact this
   ·intro h
    exact ⟨h 0 (by simp), fun i hi => by have := h (i + 1) (by simpa using hi); rw [show k + 1 + i = k + (i + 1) by omega]; exact this⟩
theorem hold_late {C : List Ch} {P : List Pt} {l : List Rn} {i : Nat} (h : i < C.length) (k : lateBad l C[i] = true) : holdV C P l = 19 := by unfold holdV; rw [if_pos (any_at h k)]
theorem hold_short {C : List Ch} {P : List Pt} {l : List Rn} {i : Nat} (h0 : C.any (lateBad l) = false) (h : i < P.length) (k : shortBad l i P[i] = true) : holdV C P l = 20 := by
 unfold holdV
 rw [if_neg (by rw [h0]; decide), if_pos]
 cases e : anyShort l 0 P with
 | true => rfl
 | false =>
   have := (anyShort_no.1 e) i h
   rw [Nat.zero_add] at this
   rw [this] at k; cases k
theorem hold_ok {C : List Ch} {P : List Pt} {l : List Rn} (h0 : C.any (lateBad l) = false) (h : ∀ i (h : i < P.length), shortBad l i P[i] = false) : holdV C P l = 0 := by
 unfold holdV
 rw [if_neg (by rw [h0]; decide), if_neg]
 rw [anyShort_no.2 (fun i hi => by rw [Nat.zero_add]; exact h i hi)]; decide
end Go.AM.PL
namespace Go.AM.PL
theorem sp_len (p : Int) : ∀ (l : List Rn) (a : Int), (spV p a l).length ≤ l.length
 | [], _ => Nat.le_refl _
 | r :: l, a => by
   rw [spV]; have := sp_len p l (a + r.n)
   split
   ·simp only [List.length_cons]; omega
   ·simp only [List.length_cons]; omega
theorem sp_rng (p : Int) (l : List Rn) (h : ∀ r ∈ l, 1 ≤ r.n) : ∀ s ∈ spV p 0 l, 0 ≤ s.1 ∧ s.1 < s.2 ∧ s.2 ≤ wlen l := fun s hs => by
 have := (sp_rising p l 0 h).mem s hs; omega
theorem per_le {w per : Int} (h0 : 0 < w) (h1 : 1 ≤ per) (h : w % per = 0) : per ≤ w := by
 rcases Int.lt_or_le w per with c | c
 ·rw [Int.emod_eq_of_lt (by omega) c] at h; omega
 ·exact c
end Go.AM.PL
namespace Go.AM.PL
theorem budW_cnt (x per : Int) : ∀ (b : List Sp), (∀ s ∈ b, s.1 < s.2) → budW b x per ≤ cnt b ∧ 0 ≤ cnt b
 | [], _ => ⟨Int.le_refl _, Int.le_refl _⟩
 | s :: b, h => by
   have ih := budW_cnt x per b (fun y hy => h y (List.mem_cons_of_mem _ hy))
   have := h s (List.mem_cons_self ..)
   rw [budW_cons, cnt_cons]; omega
theorem budP_rng2 {l : List Rn} (h1 : ∀ r ∈ l, 1 ≤ r.n) (p x per : Int) (j : Nat) (hp : 0 ≤ per) : 0 ≤ ((spV p 0 l).take j).foldl (budF x per) 0 ∧ ((spV p 0 l).take j).foldl (budF x per) 0 ≤ wlen l := by
 have hs := sp_rng p l h1
 have h := budW_rng ((spV p 0 l).take j) x per hp
 have h2 := budW_cnt x per ((spV p 0 l).take j) (fun s hs' => (hs s (List.mem_of_mem_take hs')).2.1)
 have h3 := budW_cnt x per ((spV p 0 l).drop j) (fun s hs' => (hs s (List.mem_of_mem_drop hs')).2.1)
 have h4 : cnt (spV p 0 l) = cnt ((spV p 0 l).take j) + cnt ((spV p 0 l).drop j) := by rw [← cnt_app, List.take_append_drop]
 have h5 := cnt_le h1 p
 unfold budW at h h2
 omega
end Go.AM.PL
namespace Go.AM.PL
def nz (w : Nat) (x : GV) : GV := match x with
 | .v (.slice none 0 0) => .fsl w []
 | x => x
theorem nz_ok {Z : ZM} {om : Om} {w : Nat} {x : GV} {a : AV} (h : VR Z om x a) : VR Z om (nz w x) a := by
 unfold nz
 split
 ·obtain rfl := h.v_inv; exact .pure .fnil
 ·exact h
theorem cfgNil {A : AProg} {f : Nat} {a b c : GV} {vs : List GV} {P : GHp} {K : GV → GHp → Prop} (hc : WpCallG A f (.agg [nz 11 a, nz 6 b, nz 1 c] :: vs) P K) : WpCallG A f (.agg [a, b, c] :: vs) P K := fun Z om as H hr hv => by
 cases hv with
 | cons h k =>
   obtain ⟨bs, rfl, h1, h2⟩ := h.agg_inv
   refine hc Z om _ H hr (.cons (.agg h1 fun i x y e f => ?_) k)
   match i, e with
   | 0, e => cases e; exact nz_ok (h2 0 a y rfl f)
   | 1, e => cases e; exact nz_ok (h2 1 b y rfl f)
   | 2, e => cases e; exact nz_ok (h2 2 c y rfl f)
end Go.AM.PL
set_option linter.all false
set_option maxRecDepth 10000
namespace Go.AM.PL
def kl9 : List Rn := [⟨0, 2⟩, ⟨1, 1⟩, ⟨-1, 3⟩]
theorem kl9_ok : ∀ r ∈ kl9, okN r := ok3 (by unfold okN i64; decide) (by unfold okN i64; decide) (by unfold okN i64; decide)
theorem kl9_1 : ∀ r ∈ kl9, 1 ≤ r.n := by decide
section
variable {l : List Rn} (h : ∀ r ∈ l, 1 ≤ r.n) (k : Nat)
include h
end
section
variable {l : List Rn} {p q v : Int}
end
end Go.AM.PL
set_option linter.all false
set_option maxRecDepth 10000
namespace Go.AM.PL
/-! square tables that are filled row by row -/
/-! who depends, who sways -/
/-! what goes on over others -/
end Go.AM.PL
set_option linter.all false
set_option maxRecDepth 10000
namespace Go.AM.PL
theorem nilO3 {A : AProg} {f w : Nat} (g : Nat) {v u : GV} {vs : List GV} {P : GHp} {K : GV → GHp → Prop} (hg : (lkP P g).isNone = true) (hc : WpCallG A f (v :: u :: .osl g :: vs) ((g, .arr .yes w []) :: P) K) : WpCallG A f (v :: u :: .v (.slice none 0 0) :: vs) P K := fun Z om as H hr hv => by
 have hg' : lkP P g = none := by simpa using hg
 have hr' := hr.nil (full := .yes) (w := w) hg'
 have hle := Om.le_set om g .nil (hr.dom g hg')
 have mv : ∀ {vs : List GV} {as : List AV}, VRs Z om vs as → VRs Z (om.set g .nil) vs as := fun h => by
  induction h with
  | nil => exact .nil
  | cons h _ ih => exact .cons (h.mono (.refl _) hle) ih
 cases hv with
 | cons h1 k => cases k with
   | cons h2 k => cases k with
     | cons h3 k =>
       obtain rfl := h3.v_inv
       refine (hc Z _ _ H hr'.1 (.cons (h1.mono (.refl _) hle) (.cons (h2.mono (.refl _) hle) (.cons (.onil (Om.set_self ..)) (mv k))))).mono ?_
       rintro a H' ⟨Z', om', v, HG', a1, a2, a3, a4, a5⟩
       exact ⟨Z', om', v, HG', a1, a2, hr'.2.trans a3, fun g' b e => a4 g' b (hle g' _ e), a5⟩
namespace Fo
def lwX (x : Nd) (t : Int) : Int := if x.k = 4 then x.n * t else if kidV x = 0 then x.n else t
def lw : Fo → Int
 | nil => 0
 | cons x ks r => lwX x (lw ks) + lw r
theorem lwX_pos {x : Nd} {t : Int} (hk : 0 ≤ kidV x) (ht : 0 ≤ t) (h1 : kidV x ≠ 0 → 1 ≤ t) : 1 ≤ lwX x t := by
 have hn := kidV_pos hk
 unfold lwX
 split
 ·rename_i c
  have := h1 (by rw [k4 c hk]; decide)
  have := Int.mul_le_mul hn this (by omega) (by omega)
  omega
 ·split
  ·exact hn
  ·rename_i c; exact h1 c
theorem lw_pos : ∀ {f : Fo}, f.ok → 0 ≤ f.lw ∧ (f ≠ nil → 1 ≤ f.lw)
 | nil, _ => ⟨Int.le_refl _, fun h => absurd rfl h⟩
 | cons x ks r, h => by
   have h1 := lw_pos h.2.1
   have h2 := lw_pos h.2.2
   have h3 := lwX_pos (x := x) (t := ks.lw) (by rw [h.1]; omega) h1.1 (fun c => h1.2 fun e => by subst e; rw [h.1] at c; exact c rfl)
   simp only [lw]
   exact ⟨by omega, fun _ => by omega⟩
theorem lw_app : ∀ (f g : Fo), lw (app f g) = lw f + lw g
 | nil, g => by simp [app, lw]
 | cons x ks r, g => by simp only [app, lw, lw_app r g]; omega
theorem sat_mul {n t : Int} (hn : 1 ≤ n) (ht : 1 ≤ t) : min 4097 (min 4097 n * min 4097 t) = min 4097 (n * t) := by
 have big : ∀ a b : Int, 1 ≤ b → 4097 ≤ a → 4097 ≤ a * b := fun a b hb ha => by
  have := Int.mul_le_mul ha hb (by omega) (by omega)
  omega
 by_cases c : 4097 ≤ n
 ·have h1 := big n t ht c
  have h2 := big 4097 (min 4097 t) (by omega) (by omega)
  rw [show min 4097 n = 4097 by omega]; omega
 ·by_cases d : 4097 ≤ t
  ·have h1 := big t n hn d
   have h2 := big 4097 n hn (by omega)
   rw [show min 4097 t = 4097 by omega, show min 4097 n = n by omega, Int.mul_comm n 4097, Int.mul_comm n t]; omega
  ·rw [show min 4097 t = t by omega, show min 4097 n = n by omega]
theorem tot_lw : ∀ {f : Fo}, f.ok → f.tot = min 4097 f.lw
 | nil, _ => by simp only [tot, lw]; omega
 | cons x ks r, h => by
   have h1 := tot_lw h.2.1
   have h2 := tot_lw h.2.2
   have p1 := lw_pos h.2.1
   have p2 := lw_pos h.2.2
   have hk0 : 0 ≤ kidV x := by rw [h.1]; omega
   have hn := kidV_pos hk0
   have hX : min 4097 (lenX x ks.tot) = min 4097 (lwX x ks.lw) := by
    unfold lenX lwX
    split
    ·rename_i c
     have q := p1.2 fun e => by subst e; have := h.1; rw [k4 c hk0] at this; exact absurd this (by decide)
     rw [h1, sat_mul hn q]; omega
    ·split
     ·omega
     ·rw [h1]; omega
   have hX0 := lenX_rng (x := x) hk0 (tot_rng h.2.1)
   have hl0 := lwX_pos (x := x) (t := ks.lw) hk0 p1.1 (fun c => p1.2 fun e => by subst e; rw [h.1] at c; exact c rfl)
   simp only [tot, lw]
   omega
theorem lenX_lw {x : Nd} {ks : Fo} (h : (one x ks).ok) : lenX x ks.tot = min 4097 (lwX x ks.lw) := by
 have h1 := tot_lw h
 have h2 := lenX_rng (x := x) (t := ks.tot) (by rw [h.1]; omega) (tot_rng h.2.1)
 have h3 : (one x ks).tot = lenX x ks.tot := tot_one h
 have h4 : (one x ks).lw = lwX x ks.lw := by show lwX x ks.lw + 0 = _; omega
 rw [← h3, h1, h4]
theorem lw_one (x : Nd) (ks : Fo) : (one x ks).lw = lwX x ks.lw := by show lwX x ks.lw + 0 = _; omega
theorem one_kid {ks : Fo} (h : ks.cnt = 1) : ∃ y js, ks = one y js := by
 cases ks with
 | nil => cases h
 | cons y js r =>
   have h0 : (cons y js r).cnt = 1 + r.cnt := rfl
   have := cnt_zero (f := r) (by omega)
   subst this
   exact ⟨y, js, rfl⟩
end Fo
def okG (ls : List Rn) : Prop := ∀ r ∈ ls, okN r ∧ 1 ≤ r.n
theorem okG_app {a b : List Rn} (h : okG a) (k : okG b) : okG (a ++ b) := fun r hr => (List.mem_append.1 hr).elim (h r) (k r)
theorem len_wlen : ∀ {l : List Rn}, (∀ r ∈ l, 1 ≤ r.n) → (l.length : Int) ≤ wlen l
 | [], _ => by unfold wlen; simp
 | r :: l, h => by
   have h1 := h r (List.mem_cons_self ..)
   have := len_wlen fun q hq => h q (List.mem_cons_of_mem _ hq)
   rw [wlen_cons r l (by omega), List.length_cons]; omega
theorem okG_leaf {x : Nd} {p : Int} (hp : -1 ≤ p ∧ p < 6) (h1 : 1 ≤ x.n) (h2 : x.n ≤ 4096) : okG [⟨p, x.n⟩] ∧ wlen [⟨p, x.n⟩] = x.n := by
 refine ⟨fun r hr => ?_, ?_⟩
 ·rw [List.mem_singleton.1 hr]; unfold okN i64; dsimp only; omega
 ·rw [wlen_cons _ _ (by dsimp only; omega)]; unfold wlen; simp [word]
theorem kid_rng {x : Nd} (h : kidV x = 0) : (x.k = 1 ∧ 0 ≤ x.p ∧ x.p < 6) ∨ x.k = 2 := by
 unfold kidV at h
 (repeat' split at h) <;> omega
theorem rightN_ok {l : List Nd} (hl : l.length ≤ 2 ^ 40) (h : rightN l = 0) : l.length ≤ 128 ∧ ∃ x ks, l = Fo.enc (Fo.one x ks) ∧ (Fo.one x ks).ok ∧ Fo.lwX x ks.lw ≤ 4096 := by
 unfold rightN at h
 split at h
 ·cases h
 ·split at h
  ·cases h
  ·rename_i h1 h2
   split at h
   ·cases h
   ·split at h
    ·cases h
    ·rename_i h3 h4
     obtain ⟨x, ks, rfl, hx⟩ := Fo.whole_tree (show wholeV l = true by simpa using h2)
     refine ⟨by omega, x, ks, rfl, hx, ?_⟩
     rw [Fo.len_one hx hl] at h4
     rw [Fo.lenX_lw hx] at h4
     split at h4
     ·omega
     ·exact absurd rfl h4
end Go.AM.PL
set_option linter.all false
set_option maxRecDepth 10000
namespace Go.AM.PL
def goodR (r : List Rn) : Prop := okG r ∧ r.length ≤ 96 ∧ wlen r ≤ 4096
theorem good_nil : goodR [] := ⟨fun r hr => (by cases hr), Nat.zero_le _, by unfold wlen; simp [word]⟩
theorem tidy_good {ls : List Rn} (h : okG ls) (hw : wlen ls ≤ 4096) : goodR (tidyV ls) ∨ 96 < (tidyV ls).length := by
 by_cases c : 96 < (tidyV ls).length
 ·exact .inr c
 ·left
  have hN : ∀ r ∈ ls, okN r := fun r hr => (h r hr).1
  refine ⟨fun r hr => tidyR_ok ls hN r (List.mem_reverse.1 hr), by omega, ?_⟩
  unfold wlen at *
  rw [word_tidy ls hN (by omega)]; exact hw
namespace Fo
def repL : Nat → List Rn → List Rn
 | 0, _ => []
 | n + 1, l => repL n l ++ l
def lvX (x : Nd) (t : List Rn) : List Rn := if x.k = 4 then repL x.n.toNat t else if kidV x = 0 then [⟨if x.k = 1 then x.p else -1, x.n⟩] else t
def lv : Fo → List Rn
 | nil => []
 | cons x ks r => lvX x (lv ks) ++ lv r
theorem lv_one (x : Nd) (ks : Fo) : (one x ks).lv = lvX x ks.lv := by simp [one, lv]
theorem lv_app : ∀ (f g : Fo), lv (app f g) = lv f ++ lv g
 | nil, g => by simp [app, lv]
 | cons x ks r, g => by simp only [app, lv, lv_app r g, List.append_assoc]
theorem rep_ok {l : List Rn} (h : okG l) : ∀ n : Nat, okG (repL n l) ∧ wlen (repL n l) = n * wlen l
 | 0 => ⟨fun r hr => (by cases hr), by show wlen [] = ((0 : Nat) : Int) * _; rw [show ((0 : Nat) : Int) = 0 from rfl, Int.zero_mul]; rfl⟩
 | n + 1 => by
   have ih := rep_ok h n
   refine ⟨okG_app ih.1 h, ?_⟩
   show wlen (repL n l ++ l) = _
   rw [wlen_app, ih.2, show ((n + 1 : Nat) : Int) = (n : Int) + 1 by omega, Int.add_mul, Int.one_mul]
theorem lvX_ok {x : Nd} {ks : Fo} (hx : kidV x = ks.cnt) (ho : ks.ok) (h : okG ks.lv ∧ wlen ks.lv = ks.lw ∨ 4096 < ks.lw) (hw : lwX x ks.lw ≤ 4096) : okG (lvX x ks.lv) ∧ wlen (lvX x ks.lv) = lwX x ks.lw := by
 have hk0 : 0 ≤ kidV x := by rw [hx]; omega
 have hn := kidV_pos hk0
 have hlp := lw_pos ho
 unfold lvX lwX at *
 by_cases c : x.k = 4
 ·rw [if_pos c] at hw ⊢
  rw [if_pos c]
  have hk1 := k4 c hk0
  have hne : ks ≠ nil := fun e => by subst e; rw [hx] at hk1; cases hk1
  have h1 := hlp.2 hne
  have h2 : ks.lw ≤ x.n * ks.lw := by
   have := Int.mul_le_mul hn (Int.le_refl ks.lw) (by omega) (by omega)
   omega
  rcases h with h | h
  ·have := rep_ok h.1 x.n.toNat
   refine ⟨this.1, ?_⟩
   rw [this.2, h.2, show ((x.n.toNat : Nat) : Int) = x.n by omega]
  ·omega
 ·rw [if_neg c] at hw ⊢
  rw [if_neg c]
  by_cases d : kidV x = 0
  ·rw [if_pos d] at hw ⊢
   rw [if_pos d]
   have hr := kid_rng d
   refine okG_leaf (x := x) ?_ hn hw
   split <;> omega
  ·rw [if_neg d] at hw ⊢
   rw [if_neg d]
   rcases h with h | h
   ·exact h
   ·omega
theorem lv_ok : ∀ {f : Fo}, f.ok → f.lw ≤ 4096 → okG f.lv ∧ wlen f.lv = f.lw
 | nil, _, _ => ⟨fun r hr => (by cases hr), rfl⟩
 | cons x ks r, h, hw => by
   have hk := h.2.1
   have hp := lw_pos h.2.1
   have hrp := lw_pos h.2.2
   have hxp := lwX_pos (x := x) (t := ks.lw) (by rw [h.1]; omega) hp.1 (fun c => hp.2 fun e => by subst e; rw [h.1] at c; exact c rfl)
   simp only [lw] at hw
   have h1 : okG ks.lv ∧ wlen ks.lv = ks.lw ∨ 4096 < ks.lw := by
    by_cases c : ks.lw ≤ 4096
    ·exact .inl (lv_ok h.2.1 c)
    ·exact .inr (by omega)
   have h2 := lvX_ok h.1 h.2.1 h1 (by omega)
   have h3 := lv_ok h.2.2 (by omega)
   simp only [lv, lw]
   exact ⟨okG_app h2.1 h3.1, by rw [wlen_app, h2.2, h3.2]⟩
theorem lv1_ok {x : Nd} {ks : Fo} (h : (one x ks).ok) (hw : lwX x ks.lw ≤ 4096) : okG (lvX x ks.lv) ∧ wlen (lvX x ks.lv) = lwX x ks.lw := by
 have := lv_ok h (by rw [lw_one]; exact hw)
 rwa [lv_one, lw_one] at this
theorem enc_inj : ∀ {f g : Fo} {a b : List Nd}, f.ok → g.ok → f.cnt = g.cnt → enc f ++ a = enc g ++ b → f = g ∧ a = b
 | nil, g, a, b, _, _, hc, h => by
   obtain rfl := cnt_zero (f := g) hc.symm
   exact ⟨rfl, h⟩
 | cons x ks r, nil, a, b, _, _, hc, h => by simp only [cnt] at hc; omega
 | cons x ks r, cons x' ks' r', a, b, hf, hg, hc, h => by
   simp only [enc, List.cons_append, List.cons.injEq, List.append_assoc] at h
   obtain ⟨rfl, h⟩ := h
   obtain ⟨rfl, h2⟩ := enc_inj hf.2.1 hg.2.1 (by have h1 := hf.1; have h2 := hg.1; omega) h
   simp only [cnt] at hc
   obtain ⟨rfl, h3⟩ := enc_inj hf.2.2 hg.2.2 (by omega) h2
   exact ⟨rfl, h3⟩
theorem enc_one {x y : Nd} {ks js : Fo} (hx : (one x ks).ok) (hy : (one y js).ok) (h : enc (one x ks) = enc (one y js)) : x = y ∧ ks = js := by
 have := (enc_inj (a := []) (b := []) hx hy rfl (by rw [List.append_nil, List.append_nil]; exact h)).1
 cases this
 exact ⟨rfl, rfl⟩
end Fo
def isTree (l : List Nd) (f : Nd × Fo) : Prop := l = Fo.enc (Fo.one f.1 f.2) ∧ (Fo.one f.1 f.2).ok
open Classical in
noncomputable def lvV (l : List Nd) : List Rn := if h : ∃ f, isTree l f then Fo.lvX (Classical.choose h).1 (Classical.choose h).2.lv else []
theorem lvV_eq {x : Nd} {ks : Fo} (h : (Fo.one x ks).ok) : lvV (Fo.enc (Fo.one x ks)) = Fo.lvX x ks.lv := by
 have he : ∃ f, isTree (Fo.enc (Fo.one x ks)) f := ⟨(x, ks), rfl, h⟩
 unfold lvV
 rw [dif_pos he]
 have hc := Classical.choose_spec he
 obtain ⟨e1, e2⟩ := Fo.enc_one h hc.2 hc.1
 rw [← e1, ← e2]
noncomputable def ofV (l : List Nd) : List Rn := if rightN l = 0 then (if 96 < (tidyV (lvV l)).length then [] else tidyV (lvV l)) else []
noncomputable def ofE (l : List Nd) : Int := if rightN l = 0 then (if 96 < (tidyV (lvV l)).length then 3 else 0) else rightN l
theorem of_good {l : List Nd} (hl : l.length ≤ 2 ^ 40) : goodR (ofV l) := by
 unfold ofV
 split
 ·rename_i h
  obtain ⟨_, x, ks, rfl, hx, hw⟩ := rightN_ok hl h
  rw [lvV_eq hx]
  have h2 := Fo.lv1_ok hx hw
  rcases tidy_good h2.1 (by rw [h2.2]; exact hw) with h3 | h3
  ·split
   ·exact good_nil
   ·exact h3
  ·rw [if_pos h3]; exact good_nil
 ·exact good_nil
end Go.AM.PL
set_option linter.all false
set_option maxRecDepth 10000
namespace Go.AM.PL
theorem modN (t d n : Nat) : ((t : Int) + (d : Int)) % (n : Int) = (((t + d) % n : Nat) : Int) := by
 rw [← Int.natCast_add]; exact (Int.natCast_emod _ _).symm
theorem word_len {l : List Rn} : ((word l).length : Int) = wlen l := rfl
theorem sp_word {l : List Rn} (hl : ∀ r ∈ l, 1 ≤ r.n) (p : Int) : spV p 0 l = [] ↔ ¬ p ∈ word l := by
 have hr := sp_rising p l 0 hl
 constructor
 ·intro h hp
  obtain ⟨k, hk, e⟩ := List.mem_iff_getElem.1 hp
  have := (sp_mem p l 0 (k : Int) hl).2 ⟨k, by omega, by rw [List.getElem?_eq_getElem hk, e]⟩
  obtain ⟨s, hs, _⟩ := this
  rw [h] at hs; cases hs
 ·intro h
  cases e : spV p 0 l with
  | nil => rfl
  | cons s b =>
    exfalso
    have hs := hr.mem s (by rw [e]; exact List.mem_cons_self ..)
    obtain ⟨k, _, hk⟩ := (sp_mem p l 0 s.1 hl).1 ⟨s, by rw [e]; exact List.mem_cons_self .., Int.le_refl _, hs.2.1⟩
    exact h (List.mem_of_getElem? hk)
theorem PW_nat {l : List Rn} {p t : Int} (h0 : 0 < wlen l) : PW l p t ↔ ∃ k : Nat, (k : Int) = t % wlen l ∧ k < (word l).length ∧ (word l).getD k 0 = p := by
 have h1 := Int.emod_nonneg t (b := wlen l) (by omega)
 have h2 := Int.emod_lt_of_pos t h0
 unfold PW
 constructor
 ·intro h
  have hk := (List.getElem?_eq_some_iff.1 h).1
  refine ⟨(t % wlen l).toNat, by omega, hk, ?_⟩
  rw [List.getD_eq_getElem?_getD, h]; rfl
 ·rintro ⟨k, e, hk, hp⟩
  rw [← e, Int.toNat_natCast, List.getElem?_eq_getElem hk]
  rw [List.getD_eq_getElem?_getD, List.getElem?_eq_getElem hk] at hp
  exact congrArg some hp
theorem ref_late {l : List Rn} (hl : ∀ r ∈ l, 1 ≤ r.n) {p q : Int} {v : Nat} (hp : p ∈ word l) (hq : q ∈ word l)
 (hup : ∀ t, t < (word l).length → (word l).getD t 0 = p → ∃ d, 1 ≤ d ∧ d ≤ v ∧ (word l).getD ((t + d) % (word l).length) 0 = q)
 (hat : ∃ t, t < (word l).length ∧ (word l).getD t 0 = p ∧ ∀ d, 1 ≤ d → d < v → (word l).getD ((t + d) % (word l).length) 0 ≠ q) : lateV l p q = (v : Int) := by
 have hs := late_is hl (p := p) (q := q) (fun c => (sp_word hl p).1 c hp) (fun c => (sp_word hl q).1 c hq)
 have h0 : 0 < wlen l := by
  have := List.length_pos_of_mem hp
  unfold wlen; omega
 refine hs.1.uniq ⟨fun t ht => ?_, ?_⟩
 ·obtain ⟨k, e, hk, hkp⟩ := (PW_nat h0).1 ht
  obtain ⟨d, d1, d2, d3⟩ := hup k hk hkp
  refine ⟨(d : Int), by omega, by omega, (PW_nat h0).2 ⟨(k + d) % (word l).length, ?_, Nat.mod_lt _ (by omega), d3⟩⟩
  rw [← modN, e, word_len, Int.emod_add_emod]
 ·obtain ⟨t, ht, hp2, hd⟩ := hat
  refine ⟨(t : Int), (PW_nat h0).2 ⟨t, ?_, ht, hp2⟩, fun d h1 h2 hQ => ?_⟩
  ·rw [Int.emod_eq_of_lt (by omega) (by rw [← word_len]; omega)]
  ·obtain ⟨k, e, hk, hkq⟩ := (PW_nat h0).1 hQ
   obtain ⟨D, rfl⟩ : ∃ D : Nat, d = D := ⟨d.toNat, by omega⟩
   rw [← word_len, modN] at e
   have e2 : k = (t + D) % (word l).length := by omega
   exact hd D (by omega) (by omega) (by rw [← e2]; exact hkq)
theorem some_d {w : List Int} {q : Int} (hq : q ∈ w) (t : Nat) : ∃ D, 1 ≤ D ∧ D ≤ w.length ∧ w.getD ((t + D) % w.length) 0 = q := by
 obtain ⟨u, hu, e⟩ := List.mem_iff_getElem.1 hq
 have h0 : 0 < w.length := by omega
 have ht := Nat.mod_lt t h0
 have key : ∀ D, (t % w.length + D = u ∨ t % w.length + D = u + w.length) → (t + D) % w.length = u := fun D h => by
  rw [Nat.add_mod, ← Nat.add_mod_mod (t % w.length), Nat.mod_mod, ← Nat.add_mod, ← Nat.mod_add_mod]
  rcases h with h | h
  ·rw [h, Nat.mod_eq_of_lt hu]
  ·rw [h, Nat.add_mod_right, Nat.mod_eq_of_lt hu]
 have hg : w.getD u 0 = q := by rw [List.getD_eq_getElem?_getD, List.getElem?_eq_getElem hu]; exact e
 by_cases c : t % w.length < u
 ·exact ⟨u - t % w.length, by omega, by omega, by rw [key _ (by omega)]; exact hg⟩
 ·exact ⟨u + w.length - t % w.length, by omega, by omega, by rw [key _ (by omega)]; exact hg⟩
theorem count_win (A B : List Int) (a b : Nat) : ((A ++ B).drop a).take b = (A.drop a).take b ++ (B.drop (a - A.length)).take (b - (A.length - a)) := by
 rw [List.drop_append, List.take_append, List.length_drop]
theorem bud_count (p : Int) (x per : Nat) : ∀ (l : List Rn) (c : Nat), (∀ r ∈ l, 1 ≤ r.n) → budW (spV p (c : Int) l) (x : Int) (per : Int) = ((((word l).drop (x - c)).take (x + per - max c x)).count p : Nat)
 | [], c, _ => by simp [spV, budW, word]
 | r :: l, c, h => by
   have h1 := h r (List.mem_cons_self ..)
   obtain ⟨n, hn⟩ : ∃ n : Nat, r.n = n := ⟨r.n.toNat, by omega⟩
   have ih := bud_count p x per l (c + n) (fun q hq => h q (List.mem_cons_of_mem _ hq))
   have hw : word (r :: l) = List.replicate n r.p ++ word l := by rw [word_cons, hn, Int.toNat_natCast]
   have e1 : (c : Int) + r.n = ((c + n : Nat) : Int) := by omega
   rw [hw, count_win, List.count_append, List.length_replicate, List.drop_replicate, List.take_replicate, List.count_replicate]
   have e2 : x - c - n = x - (c + n) := by omega
   have e3 : x + per - max c x - (n - (x - c)) = x + per - max (c + n) x := by omega
   rw [e2, e3, Int.natCast_add, ← ih, spV]
   by_cases hp : r.p = p
   ·rw [if_pos hp, budW_cons, e1, if_pos (by simpa using hp)]; dsimp only; omega
   ·rw [if_neg hp, e1, if_neg (by simpa using hp)]; simp
def cntW (l : List Rn) (p : Int) (x per : Nat) : Nat := (((word l).take (x + per)).drop x).count p
theorem cnt_bud {l : List Rn} (hl : ∀ r ∈ l, 1 ≤ r.n) (p : Int) (x per : Nat) : (cntW l p x per : Int) = budW (spV p 0 l) (x : Int) (per : Int) := by
 have := bud_count p x per l 0 hl
 rw [show ((0 : Nat) : Int) = 0 from rfl] at this
 rw [this, Nat.sub_zero, show x + per - max 0 x = per by omega]
 unfold cntW
 rw [List.drop_take, show x + per - x = per by omega]
def budR (l : List Rn) (p : Int) (per : Nat) : Nat → Int
 | 0 => (per : Int) + 1
 | k + 1 => min (budR l p per k) (cntW l p (per * k) per)
theorem cntW_le (l : List Rn) (p : Int) (x per : Nat) : cntW l p x per ≤ per := by
 unfold cntW
 refine Nat.le_trans List.count_le_length ?_
 rw [List.length_drop, List.length_take]; omega
theorem budR_I {l : List Rn} (hl : ∀ r ∈ l, 1 ≤ r.n) (p : Int) (per : Nat) : ∀ k, budR l p per (k + 1) = budI (spV p 0 l) (per : Int) (k + 1)
 | 0 => by
   show min _ _ = min _ _
   have := cntW_le l p (per * 0) per
   have e := cnt_bud hl p (per * 0) per
   rw [show ((per * 0 : Nat) : Int) = (per : Int) * ((0 : Nat) : Int) by simp] at e
   rw [← e]
   rw [show budR l p per 0 = (per : Int) + 1 from rfl]
   have e2 : ∀ c : Int, c ≤ (per : Int) → min ((per : Int) + 1) c = min (per : Int) c := fun c h => by omega
   exact e2 _ (Int.ofNat_le.2 (cntW_le l p (per * 0) per))
 | k + 1 => by
   show min (budR l p per (k + 1)) _ = min (budI _ _ (k + 1)) _
   have e := cnt_bud hl p (per * (k + 1)) per
   rw [Int.natCast_mul] at e
   rw [budR_I hl p per k, e]
theorem budR_rng (l : List Rn) (p : Int) (per : Nat) : ∀ k, 0 ≤ budR l p per k ∧ budR l p per k ≤ per + 1
 | 0 => by have : budR l p per 0 = (per : Int) + 1 := rfl
           omega
 | k + 1 => by
   have := budR_rng l p per k
   show 0 ≤ min _ _ ∧ min _ _ ≤ _
   omega
end Go.AM.PL
set_option linter.all false
set_option maxRecDepth 10000
namespace Go.AM.PL
theorem word_snoc {l : List Rn} {i : Nat} (h : i < l.length) : word (l.take (i + 1)) = word (l.take i) ++ List.replicate l[i].n.toNat l[i].p := by
 rw [List.take_succ_eq_append_getElem h, word_app, word_cons]
 show _ ++ (_ ++ []) = _
 rw [List.append_nil]
theorem word_take_le (l : List Rn) (i : Nat) : (word (l.take i)).length ≤ (word l).length := by
 have e : word l = word (l.take i) ++ word (l.drop i) := by rw [← word_app, List.take_append_drop]
 rw [e, List.length_append]; omega
def LateI (w : List Int) (p q : Int) (t v : Nat) : Prop := (∀ s, s < t → w.getD s 0 = p → ∃ d, 1 ≤ d ∧ d ≤ v ∧ w.getD ((s + d) % w.length) 0 = q) ∧ (v = 0 ∨ ∃ s, s < t ∧ w.getD s 0 = p ∧ ∀ d, 1 ≤ d → d < v → w.getD ((s + d) % w.length) 0 ≠ q) ∧ v ≤ w.length
section
variable {w : List Int} {p q : Int} {t v : Nat}
theorem late_0 : LateI w p q 0 0 := ⟨fun s h => by omega, .inl rfl, Nat.zero_le _⟩
theorem late_skip (h : LateI w p q t v) (k : ¬ w.getD t 0 = p) : LateI w p q (t + 1) v := by
 refine ⟨fun s hs hp => ?_, ?_, h.2.2⟩
 ·by_cases c : s = t
  ·subst c; exact absurd hp k
  ·exact h.1 s (by omega) hp
 ·rcases h.2.1 with e | ⟨s, h1, h2⟩
  ·exact .inl e
  ·exact .inr ⟨s, by omega, h2⟩
theorem late_hit {d : Nat} (h : LateI w p q t v) (k : w.getD t 0 = p) (h1 : 1 ≤ d) (h2 : d ≤ w.length) (h3 : ∀ e, 1 ≤ e → e < d → w.getD ((t + e) % w.length) 0 ≠ q) (h4 : w.getD ((t + d) % w.length) 0 = q) : LateI w p q (t + 1) (max v d) := by
 refine ⟨fun s hs hp => ?_, ?_, by have := h.2.2; omega⟩
 ·by_cases c : s = t
  ·subst c; exact ⟨d, h1, by omega, h4⟩
  ·obtain ⟨e, e1, e2, e3⟩ := h.1 s (by omega) hp
   exact ⟨e, e1, by omega, e3⟩
 ·right
  by_cases c : v ≤ d
  ·exact ⟨t, by omega, k, fun e e1 e2 => h3 e e1 (by omega)⟩
  ·rcases h.2.1 with e | ⟨s, s1, s2, s3⟩
   ·omega
   ·exact ⟨s, by omega, s2, fun e e1 e2 => s3 e e1 (by omega)⟩
theorem any_mem (h : w.any (fun z => decide (z = p)) = true) : p ∈ w := by
 obtain ⟨z, hz, e⟩ := List.any_eq_true.1 h
 rw [← of_decide_eq_true e]; exact hz
theorem any_no (h : w.any (fun z => decide (z = p)) = false) : ¬ p ∈ w := fun hp => by
 have : w.any (fun z => decide (z = p)) = true := List.any_eq_true.2 ⟨p, hp, decide_eq_true rfl⟩
 rw [h] at this; cases this
theorem count_take {S : List Int} {j : Nat} (h : j < S.length) : (S.take (j + 1)).count p = (S.take j).count p + if S[j] = p then 1 else 0 := by
 rw [List.take_succ_eq_append_getElem h, List.count_append]
 congr 1
 by_cases c : S[j] = p
 ·rw [if_pos c, c]; simp
 ·rw [if_neg c]; exact List.count_eq_zero.2 (by simpa using fun e => c e.symm)
end
section
variable {l : List Rn} {p q : Int}
theorem late_no_p (h : ∀ r ∈ l, 1 ≤ r.n) (hp : ¬ p ∈ word l) : lateV l p q = 0 := by unfold lateV; rw [if_pos ((sp_word h p).2 hp)]
theorem late_no_q (h : ∀ r ∈ l, 1 ≤ r.n) (hp : p ∈ word l) (hq : ¬ q ∈ word l) : lateV l p q = -1 := by
 unfold lateV; rw [if_neg (fun c => (sp_word h p).1 c hp), if_pos ((sp_word h q).2 hq)]
theorem late_end {t v : Nat} (h : ∀ r ∈ l, 1 ≤ r.n) (hp : p ∈ word l) (hq : q ∈ word l) (ht : (word l).length ≤ t) (ht2 : t ≤ (word l).length) (hv : LateI (word l) p q t v) : lateV l p q = (v : Int) := by
 refine ref_late h hp hq (fun s hs => hv.1 s (by omega)) ?_
 rcases hv.2.1 with e | ⟨s, s1, s2, s3⟩
 ·exfalso
  obtain ⟨u, hu, e2⟩ := List.mem_iff_getElem.1 hp
  obtain ⟨d, d1, d2, _⟩ := hv.1 u (by omega) (by rw [List.getD_eq_getElem?_getD, List.getElem?_eq_getElem hu]; exact e2)
  omega
 ·exact ⟨s, by omega, s2, s3⟩
theorem late_ge (h : ∀ r ∈ l, 1 ≤ r.n) (p q : Int) : -1 ≤ lateV l p q := by
 cases l with
 | nil => unfold lateV; rw [if_pos (by rfl)]; decide
 | cons r l => exact (late_le h (wlen_pos h (by simp)) p q).1
theorem bud_m {n P : Nat} (h0 : 0 < n) (h1 : 1 ≤ P) (h : (n : Int) % (P : Int) = 0) : ∃ m, n = P * m := by
 have : n % P = 0 := by have := Int.natCast_emod n P; omega
 exact ⟨n / P, by have := Nat.mul_div_cancel' (Nat.dvd_of_mod_eq_zero this); omega⟩
theorem bud_P {n P m : Nat} (h : n = P * m) (h0 : 0 < n) : P ≤ n := by
 rcases Nat.eq_zero_or_pos m with c | c
 ·subst c; omega
 ·rw [h]; exact Nat.le_mul_of_pos_right _ c
theorem bud_lt {P k m : Nat} (h1 : 1 ≤ P) (h : P * k < P * m) : k < m := Nat.lt_of_mul_lt_mul_left h
theorem bud_le {n P k m : Nat} (h : n = P * m) (hk : k < m) : P * k + P ≤ n := by
 rw [h, ← Nat.mul_succ]; exact Nat.mul_le_mul_left _ hk
theorem bud_eq {P k m : Nat} (h1 : 1 ≤ P) (hk : k ≤ m) (h : P * m ≤ P * k) : k = m := by
 have := Nat.le_of_mul_le_mul_left h h1; omega
theorem bud_end {P k m : Nat} (h : ∀ r ∈ l, 1 ≤ r.n) (h1 : 1 ≤ P) (hm : (word l).length = P * m) (h0 : 0 < (word l).length) (hk : k = m) : budV l p (P : Int) = budR l p P k := by
 subst hk
 have hw : wlen l = ((P * k : Nat) : Int) := by unfold wlen; rw [hm]
 have e1 : wlen l % (P : Int) = 0 := by rw [hw, Int.natCast_mul, Int.mul_emod_right]
 have e2 : wlen l / (P : Int) = k := by rw [hw, Int.natCast_mul]; exact Int.mul_ediv_cancel_left _ (by omega)
 unfold budV
 rw [if_neg (by omega), e2, Int.toNat_natCast]
 cases k with
 | zero => omega
 | succ k => exact (budR_I h p P k).symm
end
end Go.AM.PL
