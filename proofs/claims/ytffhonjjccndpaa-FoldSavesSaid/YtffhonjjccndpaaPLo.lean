/- Contracts of the functions that the statement reaches. No condition. -/
import Derived.Test.YtffhonjjccndpaaPLn
import Derived.Test.YtffhonjjccndpaaPLm
set_option linter.all false
set_option maxRecDepth 10000
namespace Go.AM.PL
theorem cnt_le {l : List Rn} (h : ∀ r ∈ l, 1 ≤ r.n) (p : Int) : 0 ≤ cnt (spV p 0 l) ∧ cnt (spV p 0 l) ≤ wlen l := by
 have := cnt_rng (a := 0) (sp_rising p l 0 h); omega
/-! what is asked -/
structure Pt where
 name : ByteArray
 bud : Int
 per : Int
 sched : Bool
 stop : Bool
 h0 : Int
 h1 : Int
 h2 : Int
 h3 : Int
 h4 : Int
end Go.AM.PL
namespace Go.AM.PL
end Go.AM.PL
namespace Go.AM.PL
end Go.AM.PL
namespace Go.AM.PL
end Go.AM.PL
set_option linter.all false
set_option maxRecDepth 10000
namespace Go.AM.PL
section
variable {l : List Rn} (h : ∀ r ∈ l, 1 ≤ r.n) (k : Nat)
include h
end
section
variable {l : List Rn} {p q v : Int}
end
end Go.AM.PL
set_option linter.all false
set_option maxRecDepth 10000
namespace Go.AM.PL
/-! square tables that are filled row by row -/
/-! who depends, who sways -/
/-! what goes on over others -/
end Go.AM.PL
set_option linter.all false
set_option maxRecDepth 10000
namespace Go.AM.PL
theorem nilO3 {A : AProg} {f w : Nat} (g : Nat) {v u : GV} {vs : List GV} {P : GHp} {K : GV → GHp → Prop} (hg : (lkP P g).isNone = true) (hc : WpCallG A f (v :: u :: .osl g :: vs) ((g, .arr .yes w []) :: P) K) : WpCallG A f (v :: u :: .v (.slice none 0 0) :: vs) P K := fun Z om as H hr hv => by
 have hg' : lkP P g = none := by simpa using hg
 have hr' := hr.nil (full := .yes) (w := w) hg'
 have hle := Om.le_set om g .nil (hr.dom g hg')
 have mv : ∀ {vs : List GV} {as : List AV}, VRs Z om vs as → VRs Z (om.set g .nil) vs as := fun h => by
  induction h with
  | nil => exact .nil
  | cons h _ ih => exact .cons (h.mono (.refl _) hle) ih
 cases hv with
 | cons h1 k => cases k with
   | cons h2 k => cases k with
     | cons h3 k =>
       obtain rfl := h3.v_inv
       refine (hc Z _ _ H hr'.1 (.cons (h1.mono (.refl _) hle) (.cons (h2.mono (.refl _) hle) (.cons (.onil (Om.set_self ..)) (mv k))))).mono ?_
       rintro a H' ⟨Z', om', v, HG', a1, a2, a3, a4, a5⟩
       exact ⟨Z', om', v, HG', a1, a2, hr'.2.trans a3, fun g' b e => a4 g' b (hle g' _ e), a5⟩
namespace Fo
def lwX (x : Nd) (t : Int) : Int := if x.k = 4 then x.n * t else if kidV x = 0 then x.n else t
def lw : Fo → Int
 | nil => 0
 | cons x ks r => lwX x (lw ks) + lw r
theorem lwX_pos {x : Nd} {t : Int} (hk : 0 ≤ kidV x) (ht : 0 ≤ t) (h1 : kidV x ≠ 0 → 1 ≤ t) : 1 ≤ lwX x t := by
 have hn := kidV_pos hk
 unfold lwX
 split
 ·rename_i c
  have := h1 (by rw [k4 c hk]; decide)
  have := Int.mul_le_mul hn this (by omega) (by omega)
  omega
 ·split
  ·exact hn
  ·rename_i c; exact h1 c
theorem lw_pos : ∀ {f : Fo}, f.ok → 0 ≤ f.lw ∧ (f ≠ nil → 1 ≤ f.lw)
 | nil, _ => ⟨Int.le_refl _, fun h => absurd rfl h⟩
 | cons x ks r, h => by
   have h1 := lw_pos h.2.1
   have h2 := lw_pos h.2.2
   have h3 := lwX_pos (x := x) (t := ks.lw) (by rw [h.1]; omega) h1.1 (fun c => h1.2 fun e => by subst e; rw [h.1] at c; exact c rfl)
   simp only [lw]
   exact ⟨by omega, fun _ => by omega⟩
theorem lw_app : ∀ (f g : Fo), lw (app f g) = lw f + lw g
 | nil, g => by simp [app, lw]
 | cons x ks r, g => by simp only [app, lw, lw_app r g]; omega
theorem sat_mul {n t : Int} (hn : 1 ≤ n) (ht : 1 ≤ t) : min 4097 (min 4097 n * min 4097 t) = min 4097 (n * t) := by
 have big : ∀ a b : Int, 1 ≤ b → 4097 ≤ a → 4097 ≤ a * b := fun a b hb ha => by
  have := Int.mul_le_mul ha hb (by omega) (by omega)
  omega
 by_cases c : 4097 ≤ n
 ·have h1 := big n t ht c
  have h2 := big 4097 (min 4097 t) (by omega) (by omega)
  rw [show min 4097 n = 4097 by omega]; omega
 ·by_cases d : 4097 ≤ t
  ·have h1 := big t n hn d
   have h2 := big 4097 n hn (by omega)
   rw [show min 4097 t = 4097 by omega, show min 4097 n = n by omega, Int.mul_comm n 4097, Int.mul_comm n t]; omega
  ·rw [show min 4097 t = t by omega, show min 4097 n = n by omega]
theorem tot_lw : ∀ {f : Fo}, f.ok → f.tot = min 4097 f.lw
 | nil, _ => by simp only [tot, lw]; omega
 | cons x ks r, h => by
   have h1 := tot_lw h.2.1
   have h2 := tot_lw h.2.2
   have p1 := lw_pos h.2.1
   have p2 := lw_pos h.2.2
   have hk0 : 0 ≤ kidV x := by rw [h.1]; omega
   have hn := kidV_pos hk0
   have hX : min 4097 (lenX x ks.tot) = min 4097 (lwX x ks.lw) := by
    unfold lenX lwX
    split
    ·rename_i c
     have q := p1.2 fun e => by subst e; have := h.1; rw [k4 c hk0] at this; exact absurd this (by decide)
     rw [h1, sat_mul hn q]; omega
    ·split
     ·omega
     ·rw [h1]; omega
   have hX0 := lenX_rng (x := x) hk0 (tot_rng h.2.1)
   have hl0 := lwX_pos (x := x) (t := ks.lw) hk0 p1.1 (fun c => p1.2 fun e => by subst e; rw [h.1] at c; exact c rfl)
   simp only [tot, lw]
   omega
theorem lenX_lw {x : Nd} {ks : Fo} (h : (one x ks).ok) : lenX x ks.tot = min 4097 (lwX x ks.lw) := by
 have h1 := tot_lw h
 have h2 := lenX_rng (x := x) (t := ks.tot) (by rw [h.1]; omega) (tot_rng h.2.1)
 have h3 : (one x ks).tot = lenX x ks.tot := tot_one h
 have h4 : (one x ks).lw = lwX x ks.lw := by show lwX x ks.lw + 0 = _; omega
 rw [← h3, h1, h4]
theorem lw_one (x : Nd) (ks : Fo) : (one x ks).lw = lwX x ks.lw := by show lwX x ks.lw + 0 = _; omega
theorem one_kid {ks : Fo} (h : ks.cnt = 1) : ∃ y js, ks = one y js := by
 cases ks with
 | nil => cases h
 | cons y js r =>
   have h0 : (cons y js r).cnt = 1 + r.cnt := rfl
   have := cnt_zero (f := r) (by omega)
   subst this
   exact ⟨y, js, rfl⟩
end Fo
def okG (ls : List Rn) : Prop := ∀ r ∈ ls, okN r ∧ 1 ≤ r.n
theorem okG_app {a b : List Rn} (h : okG a) (k : okG b) : okG (a ++ b) := fun r hr => (List.mem_append.1 hr).elim (h r) (k r)
theorem len_wlen : ∀ {l : List Rn}, (∀ r ∈ l, 1 ≤ r.n) → (l.length : Int) ≤ wlen l
 | [], _ => by unfold wlen; simp
 | r :: l, h => by
   have h1 := h r (List.mem_cons_self ..)
   have := len_wlen fun q hq => h q (List.mem_cons_of_mem _ hq)
   rw [wlen_cons r l (by omega), List.length_cons]; omega
theorem okG_leaf {x : Nd} {p : Int} (hp : -1 ≤ p ∧ p < 6) (h1 : 1 ≤ x.n) (h2 : x.n ≤ 4096) : okG [⟨p, x.n⟩] ∧ wlen [⟨p, x.n⟩] = x.n := by
 refine ⟨fun r hr => ?_, ?_⟩
 ·rw [List.mem_singleton.1 hr]; unfold okN i64; dsimp only; omega
 ·rw [wlen_cons _ _ (by dsimp only; omega)]; unfold wlen; simp [word]
theorem kid_rng {x : Nd} (h : kidV x = 0) : (x.k = 1 ∧ 0 ≤ x.p ∧ x.p < 6) ∨ x.k = 2 := by
 unfold kidV at h
 (repeat' split at h) <;> omega
theorem rightN_ok {l : List Nd} (hl : l.length ≤ 2 ^ 40) (h : rightN l = 0) : l.length ≤ 128 ∧ ∃ x ks, l = Fo.enc (Fo.one x ks) ∧ (Fo.one x ks).ok ∧ Fo.lwX x ks.lw ≤ 4096 := by
 unfold rightN at h
 split at h
 ·cases h
 ·split at h
  ·cases h
  ·rename_i h1 h2
   split at h
   ·cases h
   ·split at h
    ·cases h
    ·rename_i h3 h4
     obtain ⟨x, ks, rfl, hx⟩ := Fo.whole_tree (show wholeV l = true by simpa using h2)
     refine ⟨by omega, x, ks, rfl, hx, ?_⟩
     rw [Fo.len_one hx hl] at h4
     rw [Fo.lenX_lw hx] at h4
     split at h4
     ·omega
     ·exact absurd rfl h4
end Go.AM.PL
set_option linter.all false
set_option maxRecDepth 10000
namespace Go.AM.PL
namespace Fo
def repL : Nat → List Rn → List Rn
 | 0, _ => []
 | n + 1, l => repL n l ++ l
def lvX (x : Nd) (t : List Rn) : List Rn := if x.k = 4 then repL x.n.toNat t else if kidV x = 0 then [⟨if x.k = 1 then x.p else -1, x.n⟩] else t
def lv : Fo → List Rn
 | nil => []
 | cons x ks r => lvX x (lv ks) ++ lv r
theorem lv_one (x : Nd) (ks : Fo) : (one x ks).lv = lvX x ks.lv := by simp [one, lv]
theorem lv_app : ∀ (f g : Fo), lv (app f g) = lv f ++ lv g
 | nil, g => by simp [app, lv]
 | cons x ks r, g => by simp only [app, lv, lv_app r g, List.append_assoc]
theorem rep_ok {l : List Rn} (h : okG l) : ∀ n : Nat, okG (repL n l) ∧ wlen (repL n l) = n * wlen l
 | 0 => ⟨fun r hr => (by cases hr), by show wlen [] = ((0 : Nat) : Int) * _; rw [show ((0 : Nat) : Int) = 0 from rfl, Int.zero_mul]; rfl⟩
 | n + 1 => by
   have ih := rep_ok h n
   refine ⟨okG_app ih.1 h, ?_⟩
   show wlen (repL n l ++ l) = _
   rw [wlen_app, ih.2, show ((n + 1 : Nat) : Int) = (n : Int) + 1 by omega, Int.add_mul, Int.one_mul]
theorem lvX_ok {x : Nd} {ks : Fo} (hx : kidV x = ks.cnt) (ho : ks.ok) (h : okG ks.lv ∧ wlen ks.lv = ks.lw ∨ 4096 < ks.lw) (hw : lwX x ks.lw ≤ 4096) : okG (lvX x ks.lv) ∧ wlen (lvX x ks.lv) = lwX x ks.lw := by
 have hk0 : 0 ≤ kidV x := by rw [hx]; omega
 have hn := kidV_pos hk0
 have hlp := lw_pos ho
 unfold lvX lwX at *
 by_cases c : x.k = 4
 ·rw [if_pos c] at hw ⊢
  rw [if_pos c]
  have hk1 := k4 c hk0
  have hne : ks ≠ nil := fun e => by subst e; rw [hx] at hk1; cases hk1
  have h1 := hlp.2 hne
  have h2 : ks.lw ≤ x.n * ks.lw := by
   have := Int.mul_le_mul hn (Int.le_refl ks.lw) (by omega) (by omega)
   omega
  rcases h with h | h
  ·have := rep_ok h.1 x.n.toNat
   refine ⟨this.1, ?_⟩
   rw [this.2, h.2, show ((x.n.toNat : Nat) : Int) = x.n by omega]
  ·omega
 ·rw [if_neg c] at hw ⊢
  rw [if_neg c]
  by_cases d : kidV x = 0
  ·rw [if_pos d] at hw ⊢
   rw [if_pos d]
   have hr := kid_rng d
   refine okG_leaf (x := x) ?_ hn hw
   split <;> omega
  ·rw [if_neg d] at hw ⊢
   rw [if_neg d]
   rcases h with h | h
   ·exact h
   ·omega
theorem lv_ok : ∀ {f : Fo}, f.ok → f.lw ≤ 4096 → okG f.lv ∧ wlen f.lv = f.lw
 | nil, _, _ => ⟨fun r hr => (by cases hr), rfl⟩
 | cons x ks r, h, hw => by
   have hk := h.2.1
   have hp := lw_pos h.2.1
   have hrp := lw_pos h.2.2
   have hxp := lwX_pos (x := x) (t := ks.lw) (by rw [h.1]; omega) hp.1 (fun c => hp.2 fun e => by subst e; rw [h.1] at c; exact c rfl)
   simp only [lw] at hw
   have h1 : okG ks.lv ∧ wlen ks.lv = ks.lw ∨ 4096 < ks.lw := by
    by_cases c : ks.lw ≤ 4096
    ·exact .inl (lv_ok h.2.1 c)
    ·exact .inr (by omega)
   have h2 := lvX_ok h.1 h.2.1 h1 (by omega)
   have h3 := lv_ok h.2.2 (by omega)
   simp only [lv, lw]
   exact ⟨okG_app h2.1 h3.1, by rw [wlen_app, h2.2, h3.2]⟩
theorem lv1_ok {x : Nd} {ks : Fo} (h : (one x ks).ok) (hw : lwX x ks.lw ≤ 4096) : okG (lvX x ks.lv) ∧ wlen (lvX x ks.lv) = lwX x ks.lw := by
 have := lv_ok h (by rw [lw_one]; exact hw)
 rwa [lv_one, lw_one] at this
theorem enc_inj : ∀ {f g : Fo} {a b : List Nd}, f.ok → g.ok → f.cnt = g.cnt → enc f ++ a = enc g ++ b → f = g ∧ a = b
 | nil, g, a, b, _, _, hc, h => by
   obtain rfl := cnt_zero (f := g) hc.symm
   exact ⟨rfl, h⟩
 | cons x ks r, nil, a, b, _, _, hc, h => by simp only [cnt] at hc; omega
 | cons x ks r, cons x' ks' r', a, b, hf, hg, hc, h => by
   simp only [enc, List.cons_append, List.cons.injEq, List.append_assoc] at h
   obtain ⟨rfl, h⟩ := h
   obtain ⟨rfl, h2⟩ := enc_inj hf.2.1 hg.2.1 (by have h1 := hf.1; have h2 := hg.1; omega) h
   simp only [cnt] at hc
   obtain ⟨rfl, h3⟩ := enc_inj hf.2.2 hg.2.2 (by omega) h2
   exact ⟨rfl, h3⟩
theorem enc_one {x y : Nd} {ks js : Fo} (hx : (one x ks).ok) (hy : (one y js).ok) (h : enc (one x ks) = enc (one y js)) : x = y ∧ ks = js := by
 have := (enc_inj (a := []) (b := []) hx hy rfl (by rw [List.append_nil, List.append_nil]; exact h)).1
 cases this
 exact ⟨rfl, rfl⟩
end Fo
def isTree (l : List Nd) (f : Nd × Fo) : Prop := l = Fo.enc (Fo.one f.1 f.2) ∧ (Fo.one f.1 f.2).ok
open Classical in
noncomputable def lvV (l : List Nd) : List Rn := if h : ∃ f, isTree l f then Fo.lvX (Classical.choose h).1 (Classical.choose h).2.lv else []
theorem lvV_eq {x : Nd} {ks : Fo} (h : (Fo.one x ks).ok) : lvV (Fo.enc (Fo.one x ks)) = Fo.lvX x ks.lv := by
 have he : ∃ f, isTree (Fo.enc (Fo.one x ks)) f := ⟨(x, ks), rfl, h⟩
 unfold lvV
 rw [dif_pos he]
 have hc := Classical.choose_spec he
 obtain ⟨e1, e2⟩ := Fo.enc_one h hc.2 hc.1
 rw [← e1, ← e2]
noncomputable def ofV (l : List Nd) : List Rn := if rightN l = 0 then (if 96 < (tidyV (lvV l)).length then [] else tidyV (lvV l)) else []
noncomputable def ofE (l : List Nd) : Int := if rightN l = 0 then (if 96 < (tidyV (lvV l)).length then 3 else 0) else rightN l
end Go.AM.PL
set_option linter.all false
set_option maxRecDepth 10000
namespace Go.AM.PL
end Go.AM.PL
set_option linter.all false
set_option maxRecDepth 10000
namespace Go.AM.PL
section
variable {w : List Int} {p q : Int} {t v : Nat}
end
section
variable {l : List Rn} {p q : Int}
end
end Go.AM.PL
