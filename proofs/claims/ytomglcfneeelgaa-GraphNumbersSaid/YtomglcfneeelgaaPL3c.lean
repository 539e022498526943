/- Contracts of the functions that the statement reaches. No condition. -/
import Derived.Test.YtomglcfneeelgaaPL7
set_option linter.all false
set_option maxRecDepth 10000
namespace Go.AM.PL
theorem nilO3 {A : AProg} {f w : Nat} (g : Nat) {v u : GV} {vs : List GV} {P : GHp} {K : GV → GHp → Prop} (hg : (lkP P g).isNone = true) (hc : WpCallG A f (v :: u :: .osl g :: vs) ((g, .arr .yes w []) :: P) K) : WpCallG A f (v :: u :: .v (.slice none 0 0) :: vs) P K := fun Z om as H hr hv => by
  have hg' : lkP P g = none := by simpa using hg
  have hr' := hr.nil (full := .yes) (w := w) hg'
  have hle := Om.le_set om g .nil (hr.dom g hg')
  have mv : ∀ {vs : List GV} {as : List AV}, VRs Z om vs as → VRs Z (om.set g .nil) vs as := fun h => by
    induction h with
    | nil => exact .nil
    | cons h _ ih => exact .cons (h.mono (.refl _) hle) ih
  cases hv with
  | cons h1 k => cases k with
    | cons h2 k => cases k with
      | cons h3 k =>
        obtain rfl := h3.v_inv
        refine (hc Z _ _ H hr'.1 (.cons (h1.mono (.refl _) hle) (.cons (h2.mono (.refl _) hle) (.cons (.onil (Om.set_self ..)) (mv k))))).mono ?_
        rintro a H' ⟨Z', om', v, HG', a1, a2, a3, a4, a5⟩
        exact ⟨Z', om', v, HG', a1, a2, hr'.2.trans a3, fun g' b e => a4 g' b (hle g' _ e), a5⟩
namespace Fo
def lwX (x : Nd) (t : Int) : Int := if x.k = 4 then x.n * t else if kidV x = 0 then x.n else t
def lw : Fo → Int
  | nil => 0
  | cons x ks r => lwX x (lw ks) + lw r
theorem lwX_pos {x : Nd} {t : Int} (hk : 0 ≤ kidV x) (ht : 0 ≤ t) (h1 : kidV x ≠ 0 → 1 ≤ t) : 1 ≤ lwX x t := by
  have hn := kidV_pos hk
  unfold lwX
  split
  · rename_i c
    have := h1 (by rw [k4 c hk]; decide)
    have := Int.mul_le_mul hn this (by omega) (by omega)
    omega
  · split
    · exact hn
    · rename_i c; exact h1 c
theorem lw_pos : ∀ {f : Fo}, f.ok → 0 ≤ f.lw ∧ (f ≠ nil → 1 ≤ f.lw)
  | nil, _ => ⟨Int.le_refl _, fun h => absurd rfl h⟩
  | cons x ks r, h => by
    have h1 := lw_pos h.2.1
    have h2 := lw_pos h.2.2
    have h3 := lwX_pos (x := x) (t := ks.lw) (by rw [h.1]; omega) h1.1 (fun c => h1.2 fun e => by subst e; rw [h.1] at c; exact c rfl)
    simp only [lw]
    exact ⟨by omega, fun _ => by omega⟩
theorem lw_app : ∀ (f g : Fo), lw (app f g) = lw f + lw g
  | nil, g => by simp [app, lw]
  | cons x ks r, g => by simp only [app, lw, lw_app r g]; omega
theorem sat_mul {n t : Int} (hn : 1 ≤ n) (ht : 1 ≤ t) : min 4097 (min 4097 n * min 4097 t) = min 4097 (n * t) := by
  have big : ∀ a b : Int, 1 ≤ b → 4097 ≤ a → 4097 ≤ a * b := fun a b hb ha => by
    have := Int.mul_le_mul ha hb (by omega) (by omega)
    omega
  by_cases c : 4097 ≤ n
  · have h1 := big n t ht c
    have h2 := big 4097 (min 4097 t) (by omega) (by omega)
    rw [show min 4097 n = 4097 by omega]; omega
  · by_cases d : 4097 ≤ t
    · have h1 := big t n hn d
      have h2 := big 4097 n hn (by omega)
      rw [show min 4097 t = 4097 by omega, show min 4097 n = n by omega, Int.mul_comm n 4097, Int.mul_comm n t]; omega
    · rw [show min 4097 t = t by omega, show min 4097 n = n by omega]
theorem tot_lw : ∀ {f : Fo}, f.ok → f.tot = min 4097 f.lw
  | nil, _ => by simp only [tot, lw]; omega
  | cons x ks r, h => by
    have h1 := tot_lw h.2.1
    have h2 := tot_lw h.2.2
    have p1 := lw_pos h.2.1
    have p2 := lw_pos h.2.2
    have hk0 : 0 ≤ kidV x := by rw [h.1]; omega
    have hn := kidV_pos hk0
    have hX : min 4097 (lenX x ks.tot) = min 4097 (lwX x ks.lw) := by
      unfold lenX lwX
      split
      · rename_i c
        have q := p1.2 fun e => by subst e; have := h.1; rw [k4 c hk0] at this; exact absurd this (by decide)
        rw [h1, sat_mul hn q]; omega
      · split
        · omega
        · rw [h1]; omega
    have hX0 := lenX_rng (x := x) hk0 (tot_rng h.2.1)
    have hl0 := lwX_pos (x := x) (t := ks.lw) hk0 p1.1 (fun c => p1.2 fun e => by subst e; rw [h.1] at c; exact c rfl)
    simp only [tot, lw]
    omega
theorem lenX_lw {x : Nd} {ks : Fo} (h : (one x ks).ok) : lenX x ks.tot = min 4097 (lwX x ks.lw) := by
  have h1 := tot_lw h
  have h2 := lenX_rng (x := x) (t := ks.tot) (by rw [h.1]; omega) (tot_rng h.2.1)
  have h3 : (one x ks).tot = lenX x ks.tot := tot_one h
  have h4 : (one x ks).lw = lwX x ks.lw := by show lwX x ks.lw + 0 = _; omega
  rw [← h3, h1, h4]
theorem lw_one (x : Nd) (ks : Fo) : (one x ks).lw = lwX x ks.lw := by show lwX x ks.lw + 0 = _; omega
theorem one_kid {ks : Fo} (h : ks.cnt = 1) : ∃ y js, ks = one y js := by
  cases ks with
  | nil => cases h
  | cons y js r =>
    have h0 : (cons y js r).cnt = 1 + r.cnt := rfl
    have := cnt_zero (f := r) (by omega)
    subst this
    exact ⟨y, js, rfl⟩
end Fo
def okG (ls : List Rn) : Prop := ∀ r ∈ ls, okN r ∧ 1 ≤ r.n
theorem okG_app {a b : List Rn} (h : okG a) (k : okG b) : okG (a ++ b) := fun r hr => (List.mem_append.1 hr).elim (h r) (k r)
theorem len_wlen : ∀ {l : List Rn}, (∀ r ∈ l, 1 ≤ r.n) → (l.length : Int) ≤ wlen l
  | [], _ => by unfold wlen; simp
  | r :: l, h => by
    have h1 := h r (List.mem_cons_self ..)
    have := len_wlen fun q hq => h q (List.mem_cons_of_mem _ hq)
    rw [wlen_cons r l (by omega), List.length_cons]; omega
theorem okG_leaf {x : Nd} {p : Int} (hp : -1 ≤ p ∧ p < 6) (h1 : 1 ≤ x.n) (h2 : x.n ≤ 4096) : okG [⟨p, x.n⟩] ∧ wlen [⟨p, x.n⟩] = x.n := by
  refine ⟨fun r hr => ?_, ?_⟩
  · rw [List.mem_singleton.1 hr]; unfold okN i64; dsimp only; omega
  · rw [wlen_cons _ _ (by dsimp only; omega)]; unfold wlen; simp [word]
theorem kid_rng {x : Nd} (h : kidV x = 0) : (x.k = 1 ∧ 0 ≤ x.p ∧ x.p < 6) ∨ x.k = 2 := by
  unfold kidV at h
  (repeat' split at h) <;> omega
theorem rightN_ok {l : List Nd} (hl : l.length ≤ 2 ^ 40) (h : rightN l = 0) : l.length ≤ 128 ∧ ∃ x ks, l = Fo.enc (Fo.one x ks) ∧ (Fo.one x ks).ok ∧ Fo.lwX x ks.lw ≤ 4096 := by
  unfold rightN at h
  split at h
  · cases h
  · split at h
    · cases h
    · rename_i h1 h2
      split at h
      · cases h
      · split at h
        · cases h
        · rename_i h3 h4
          obtain ⟨x, ks, rfl, hx⟩ := Fo.whole_tree (show wholeV l = true by simpa using h2)
          refine ⟨by omega, x, ks, rfl, hx, ?_⟩
          rw [Fo.len_one hx hl] at h4
          rw [Fo.lenX_lw hx] at h4
          split at h4
          · omega
          · exact absurd rfl h4
end Go.AM.PL
