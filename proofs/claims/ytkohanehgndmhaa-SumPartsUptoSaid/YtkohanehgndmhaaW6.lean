/- Rules for the machine. No condition. -/
import Derived.Test.YtkohanehgndmhaaW5
set_option linter.all false
namespace Go.AM
section
variable {A : AProg} {L : List (Nat × AV)} {H : Heap} {Q : T AV → Heap → Prop}
/-! ## What runs only if a truth says so: `a || b`, `a && b` -/
/-- the guarded ones at the front, their guards taken off -/
def grd (g : Nat) (w : Bool) : List AOper → List AOper
  | ⟨d, o, some (g', w')⟩ :: r => match Nat.beq g' g && (w' == w) with
    | true => ⟨d, o, none⟩ :: grd g w r
    | false => []
  | _ => []
def rst (g : Nat) (w : Bool) : List AOper → List AOper
  | ⟨d, o, some (g', w')⟩ :: r => match Nat.beq g' g && (w' == w) with
    | true => rst g w r
    | false => ⟨d, o, some (g', w')⟩ :: r
  | l => l
/-- they write nothing that the frame has -/
def newIn (L : List (Nat × AV)) (l : List AOper) : Bool := l.all fun o => match o.dst with | some d => (lk L d).isNone | none => true
theorem mkF_none : ∀ {L : List (Nat × AV)} {k : Nat}, lk L k = none → (mkF L).get k = none
  | [], _, _ => by simp [mkF, T.get]
  | p :: r, k, h => by
    rw [mkF, T.get_set]
    rw [lk] at h
    cases hb : Nat.beq p.1 k with
    | true => rw [hb] at h; cases h
    | false => rw [hb] at h; rw [if_neg (fun c => by subst c; simp at hb)]; exact mkF_none h
theorem FLe.putNew {fr : T AV} {d : Option Nat} {v : AV} (h : FLe (mkF L) fr) (hd : ∀ k, d = some k → lk L k = none) : FLe (mkF L) (putD fr d v) := by
  cases d with
  | none => exact h
  | some k =>
    intro j x e
    simp only [putD, T.get_set]
    split
    · rename_i hj; subst hj; rw [mkF_none (hd _ rfl)] at e; cases e
    · exact h _ _ e
theorem newIn_cons {o : AOper} {l : List AOper} (h : newIn L (o :: l) = true) : (∀ k, o.dst = some k → lk L k = none) ∧ newIn L l = true := by
  simp only [newIn, List.all_cons, Bool.and_eq_true] at h
  refine ⟨fun k hk => ?_, h.2⟩
  have := h.1
  rw [hk] at this
  simpa using this
theorem grd_yes {call : Nat → List AV → Heap → Option (AV × Heap)} {g : Nat} {w : Bool} (hg : lk L g = some (.v (.bool w))) : ∀ {l : List AOper} {fr fr' : T AV} {H H' : Heap}, newIn L (grd g w l) = true → FLe (mkF L) fr →
    evOps call (grd g w l) fr H = some (fr', H') → FLe (mkF L) fr' ∧ evOps call l fr H = evOps call (rst g w l) fr' H'
  | [], fr, fr', H, H', _, hf, e => by
    simp only [grd, evOps, Option.some.injEq, Prod.mk.injEq] at e
    obtain ⟨rfl, rfl⟩ := e
    exact ⟨hf, rfl⟩
  | ⟨d, o, none⟩ :: r, fr, fr', H, H', _, hf, e => by
    simp only [grd, evOps, Option.some.injEq, Prod.mk.injEq] at e
    obtain ⟨rfl, rfl⟩ := e
    exact ⟨hf, rfl⟩
  | ⟨d, o, some (g', w')⟩ :: r, fr, fr', H, H', hn, hf, e => by
    rw [grd] at hn e
    rw [rst]
    cases hb : (Nat.beq g' g && (w' == w)) with
    | false =>
      simp only [hb, evOps, Option.some.injEq, Prod.mk.injEq] at e
      obtain ⟨rfl, rfl⟩ := e
      exact ⟨hf, rfl⟩
    | true =>
      simp only [hb] at hn e ⊢
      simp only [Bool.and_eq_true, beq_iff_eq] at hb
      obtain ⟨h1, rfl⟩ := hb
      obtain rfl := Nat.eq_of_beq_eq_true h1
      obtain ⟨hd, hn⟩ := newIn_cons hn
      rw [evOps] at e
      simp only [] at e
      rw [evOps]
      simp only [hf _ _ (lk_get hg), if_true]
      split at e
      · rename_i v H1 ho
        exact grd_yes hg hn (hf.putNew hd) e
      · cases e
theorem grd_no {call : Nat → List AV → Heap → Option (AV × Heap)} {g : Nat} {w q : Bool} (hg : lk L g = some (.v (.bool q))) (hq : q ≠ w) : ∀ {l : List AOper} {fr : T AV} {H : Heap}, newIn L (grd g w l) = true → FLe (mkF L) fr →
    ∃ fr', FLe (mkF L) fr' ∧ evOps call l fr H = evOps call (rst g w l) fr' H
  | [], fr, H, _, hf => ⟨fr, hf, rfl⟩
  | ⟨d, o, none⟩ :: r, fr, H, _, hf => ⟨fr, hf, rfl⟩
  | ⟨d, o, some (g', w')⟩ :: r, fr, H, hn, hf => by
    rw [grd] at hn
    rw [rst]
    cases hb : (Nat.beq g' g && (w' == w)) with
    | false => exact ⟨fr, hf, rfl⟩
    | true =>
      simp only [hb] at hn ⊢
      simp only [Bool.and_eq_true, beq_iff_eq] at hb
      obtain ⟨h1, rfl⟩ := hb
      obtain rfl := Nat.eq_of_beq_eq_true h1
      obtain ⟨hd, hn⟩ := newIn_cons hn
      rw [evOps]
      simp only [hf _ _ (lk_get hg), if_neg hq]
      exact grd_no hg hq hn (hf.putNew hd)
/-- the end of a side way: nothing is done to the heap, and a truth is at hand -/
def sideP (H : Heap) (r : Nat) (p : Bool) (fr : T AV) (H' : Heap) : Prop := H' = H ∧ fr.get r = some (.v (.bool p))
theorem S.or' {ops l : List AOper} {d g r : Nat} {q p : Bool} (hg : lk L g = some (.v (.bool q))) (hn : newIn L (grd g false ops) = true)
    (hr : rst g false ops = ⟨some d, .pick (.t g) (.c (.v (.bool true))) (.t r), none⟩ :: l)
    (hB : q = false → WpOps A (grd g false ops) (mkF L) H (sideP H r p)) (h : WpOps A l (mkF ((d, .v (.bool (q || p))) :: L)) H Q) : WpOps A ops (mkF L) H Q := by
  cases q with
  | true =>
    obtain ⟨n, f, f0, H', h1, h2, h3⟩ := h
    obtain ⟨fr', k1, k2⟩ := grd_no (call := callA A n) (H := H) hg (w := false) (by decide) hn (FLe.refl _)
    have : FLe (mkF ((d, .v (.bool (true || p))) :: L)) (putD fr' (some d) (.v (.bool true))) := FLe.put k1 (some d) _
    obtain ⟨f2, g1, g2⟩ := evOps_le (callA_le (Nat.le_refl n)) this h1
    refine ⟨n, f2, f0, H', ?_, h2.trans g2, h3⟩
    rw [k2, hr, evOps]
    simp only [evOp, evX, k1 _ _ (lk_get hg), g1]
  | false =>
    obtain ⟨n, f, f0, H', h1, h2, h3⟩ := h
    obtain ⟨m, s, s0, H2, i1, i2, rfl, i4⟩ := hB rfl
    obtain ⟨u, u1, u2⟩ := evOps_le (callA_le (A := A) (Nat.le_max_right n m)) (FLe.refl _) i1
    obtain ⟨k1, k2⟩ := grd_yes (call := callA A (max n m)) hg hn (FLe.refl _) u1
    have : FLe (mkF ((d, .v (.bool (false || p))) :: L)) (putD u (some d) (.v (.bool p))) := FLe.put k1 (some d) _
    obtain ⟨f2, g1, g2⟩ := evOps_le (callA_le (Nat.le_max_left n m)) this h1
    refine ⟨max n m, f2, f0, H', ?_, h2.trans g2, h3⟩
    rw [k2, hr, evOps]
    simp only [evOp, evX, k1 _ _ (lk_get hg), u2 _ _ (i2 _ _ i4), g1]
theorem S.and' {ops l : List AOper} {d g r : Nat} {q p : Bool} (hg : lk L g = some (.v (.bool q))) (hn : newIn L (grd g true ops) = true)
    (hr : rst g true ops = ⟨some d, .pick (.t g) (.t r) (.c (.v (.bool false))), none⟩ :: l)
    (hB : q = true → WpOps A (grd g true ops) (mkF L) H (sideP H r p)) (h : WpOps A l (mkF ((d, .v (.bool (q && p))) :: L)) H Q) : WpOps A ops (mkF L) H Q := by
  cases q with
  | false =>
    obtain ⟨n, f, f0, H', h1, h2, h3⟩ := h
    obtain ⟨fr', k1, k2⟩ := grd_no (call := callA A n) (H := H) hg (w := true) (by decide) hn (FLe.refl _)
    have : FLe (mkF ((d, .v (.bool (false && p))) :: L)) (putD fr' (some d) (.v (.bool false))) := FLe.put k1 (some d) _
    obtain ⟨f2, g1, g2⟩ := evOps_le (callA_le (Nat.le_refl n)) this h1
    refine ⟨n, f2, f0, H', ?_, h2.trans g2, h3⟩
    rw [k2, hr, evOps]
    simp only [evOp, evX, k1 _ _ (lk_get hg), g1]
  | true =>
    obtain ⟨n, f, f0, H', h1, h2, h3⟩ := h
    obtain ⟨m, s, s0, H2, i1, i2, rfl, i4⟩ := hB rfl
    obtain ⟨u, u1, u2⟩ := evOps_le (callA_le (A := A) (Nat.le_max_right n m)) (FLe.refl _) i1
    obtain ⟨k1, k2⟩ := grd_yes (call := callA A (max n m)) hg hn (FLe.refl _) u1
    have : FLe (mkF ((d, .v (.bool (true && p))) :: L)) (putD u (some d) (.v (.bool p))) := FLe.put k1 (some d) _
    obtain ⟨f2, g1, g2⟩ := evOps_le (callA_le (Nat.le_max_left n m)) this h1
    refine ⟨max n m, f2, f0, H', ?_, h2.trans g2, h3⟩
    rw [k2, hr, evOps]
    simp only [evOp, evX, k1 _ _ (lk_get hg), u2 _ _ (i2 _ _ i4), g1]
theorem S.or {d0 : Option Nat} {o0 : AOp} {ops l : List AOper} {d g r : Nat} {q p : Bool} (hg : lk L g = some (.v (.bool q))) (hn : newIn L (grd g false (⟨d0, o0, some (g, false)⟩ :: ops)) = true)
    (hr : rst g false (⟨d0, o0, some (g, false)⟩ :: ops) = ⟨some d, .pick (.t g) (.c (.v (.bool true))) (.t r), none⟩ :: l)
    (hB : q = false → WpOps A (grd g false (⟨d0, o0, some (g, false)⟩ :: ops)) (mkF L) H (sideP H r p)) (h : WpOps A l (mkF ((d, .v (.bool (q || p))) :: L)) H Q) : WpOps A (⟨d0, o0, some (g, false)⟩ :: ops) (mkF L) H Q := S.or' hg hn hr hB h
theorem S.and {d0 : Option Nat} {o0 : AOp} {ops l : List AOper} {d g r : Nat} {q p : Bool} (hg : lk L g = some (.v (.bool q))) (hn : newIn L (grd g true (⟨d0, o0, some (g, true)⟩ :: ops)) = true)
    (hr : rst g true (⟨d0, o0, some (g, true)⟩ :: ops) = ⟨some d, .pick (.t g) (.t r) (.c (.v (.bool false))), none⟩ :: l)
    (hB : q = true → WpOps A (grd g true (⟨d0, o0, some (g, true)⟩ :: ops)) (mkF L) H (sideP H r p)) (h : WpOps A l (mkF ((d, .v (.bool (q && p))) :: L)) H Q) : WpOps A (⟨d0, o0, some (g, true)⟩ :: ops) (mkF L) H Q := S.and' hg hn hr hB h
end
end Go.AM
