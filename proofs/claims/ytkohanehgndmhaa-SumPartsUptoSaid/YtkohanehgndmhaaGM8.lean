/- The machine over plain data: rules for each operation, calls. No condition. -/
import Derived.Test.YtkohanehgndmhaaGM7
set_option linter.all false
namespace Go.AM
section
variable {A : AProg} {L : GFr} {HG : GHp} {l : List AOper} {Q : GFr → GHp → Prop}
/-! ## What runs only if a truth says so -/
theorem G.yes {d : Option Nat} {o : AOp} {g : Nat} {w : Bool} (hg : lkP L g = some (.v (.bool w))) (h : WpOpsG A (⟨d, o, none⟩ :: l) L HG Q) : WpOpsG A (⟨d, o, some (g, w)⟩ :: l) L HG Q := fun Z om fr H hr hf => by
  obtain ⟨n, f, f0, H', h1, h2, h3⟩ := h Z om fr H hr hf
  refine ⟨n, f, f0, H', ?_, h2, h3⟩
  obtain ⟨a, e1, e2⟩ := hf g _ hg
  obtain rfl := e2.v_inv
  rw [evOps] at h1 ⊢
  simp only [e1, if_true]
  exact h1
theorem G.no {d : Option Nat} {o : AOp} {g : Nat} {w b : Bool} (hg : lkP L g = some (.v (.bool b))) (hb : b ≠ w) (h : WpOpsG A l (putP L d (.tup [])) HG Q) : WpOpsG A (⟨d, o, some (g, w)⟩ :: l) L HG Q := fun Z om fr H hr hf => by
  obtain ⟨a, e1, e2⟩ := hf g _ hg
  obtain rfl := e2.v_inv
  obtain ⟨n, f, f0, H', h1, h2, h3⟩ := h Z om (putD fr d (.tup [])) H hr (hf.put (.tup (as := []) rfl (fun i c a h => by cases i <;> cases h)) d)
  refine ⟨n, f, f0, H', ?_, h2, h3⟩
  rw [evOps]
  simp only [e1, if_neg hb]
  exact h1
theorem G.noT {d : Option Nat} {o : AOp} {g : Nat} {w : Bool} {vs : List GV} (hg : lkP L g = some (.tup vs)) (h : WpOpsG A l (putP L d (.tup [])) HG Q) : WpOpsG A (⟨d, o, some (g, w)⟩ :: l) L HG Q := fun Z om fr H hr hf => by
  obtain ⟨a, e1, e2⟩ := hf g _ hg
  obtain ⟨as, rfl, _⟩ := e2.tup_inv
  obtain ⟨n, f, f0, H', h1, h2, h3⟩ := h Z om (putD fr d (.tup [])) H hr (hf.put (.tup (as := []) rfl (fun i c a h => by cases i <;> cases h)) d)
  refine ⟨n, f, f0, H', ?_, h2, h3⟩
  rw [evOps]
  simp only [e1]
  exact h1
def newInG (L : GFr) : List AOper → Bool
  | [] => true
  | o :: l => (match o.dst with | some d => (lkP L d).isNone | none => true) && newInG L l
theorem newInG_cons {o : AOper} {l : List AOper} (h : newInG L (o :: l) = true) : (∀ k, o.dst = some k → lkP L k = none) ∧ newInG L l = true := by
  rw [newInG, Bool.and_eq_true] at h
  refine ⟨fun k hk => ?_, h.2⟩
  have := h.1
  rw [hk] at this
  simpa using this
theorem FR.putNew {Z : ZM} {om : Om} {fr : T AV} {d : Option Nat} {v : AV} (h : FR Z om L fr) (hd : ∀ k, d = some k → lkP L k = none) : FR Z om L (putD fr d v) := by
  cases d with
  | none => exact h
  | some k =>
    intro j x e
    obtain ⟨a, h1, h2⟩ := h j x e
    refine ⟨a, ?_, h2⟩
    simp only [putD, T.get_set]
    rw [if_neg (fun c => by rw [c, hd k rfl] at e; cases e)]
    exact h1
theorem newInG_one {g : Nat} {v : GV} {b : AV} (hg : lkP L g = some v) : ∀ {l : List AOper}, newInG L l = true → newIn [(g, b)] l = true
  | [], _ => rfl
  | o :: l, h => by
    obtain ⟨h1, h2⟩ := newInG_cons h
    have ih := newInG_one (b := b) hg h2
    simp only [newIn, List.all_cons, Bool.and_eq_true] at ih ⊢
    refine ⟨?_, ih⟩
    cases hd : o.dst with
    | none => rfl
    | some d =>
      simp only [lk]
      cases hb : Nat.beq g d with
      | true => have := Nat.eq_of_beq_eq_true hb; subst this; rw [h1 _ hd] at hg; cases hg
      | false => rfl
theorem grd_noG {Z : ZM} {om : Om} {g : Nat} {w q : Bool} (hg : lkP L g = some (.v (.bool q))) (hq : q ≠ w) : ∀ {l : List AOper} {fr : T AV} {H : Heap}, newInG L (grd g w l) = true → FR Z om L fr →
    ∃ fr', FR Z om L fr' ∧ ∀ call, evOps call l fr H = evOps call (rst g w l) fr' H
  | [], fr, H, _, hf => ⟨fr, hf, fun _ => rfl⟩
  | ⟨d, o, none⟩ :: r, fr, H, _, hf => ⟨fr, hf, fun _ => rfl⟩
  | ⟨d, o, some (g', w')⟩ :: r, fr, H, hn, hf => by
    rw [grd] at hn
    rw [rst]
    cases hb : (Nat.beq g' g && (w' == w)) with
    | false => exact ⟨fr, hf, fun _ => rfl⟩
    | true =>
      simp only [hb] at hn ⊢
      simp only [Bool.and_eq_true, beq_iff_eq] at hb
      obtain ⟨h1, rfl⟩ := hb
      obtain rfl := Nat.eq_of_beq_eq_true h1
      obtain ⟨hd, hn⟩ := newInG_cons hn
      obtain ⟨a, e1, e2⟩ := hf g' _ hg
      obtain rfl := e2.v_inv
      obtain ⟨fr3, q1, q2⟩ := grd_noG (H := H) hg hq hn (hf.putNew (v := .tup []) hd)
      refine ⟨fr3, q1, fun call => ?_⟩
      rw [evOps]
      simp only [e1, if_neg hq]
      exact q2 call
theorem LLe.refl (L : GFr) : LLe L L := fun _ _ h => h
theorem LLe.cons {L' : GFr} {k : Nat} {v : GV} (hk : (lkP L k).isNone = true) (h : LLe L L') : LLe L ((k, v) :: L') := fun j x e => by
  rw [lkP_cons]
  rw [if_neg (fun c => by have c' : k = j := c; rw [← c'] at e; rw [e] at hk; cases hk)]
  exact h j x e
theorem HLe.cons {HG' : GHp} {k : Nat} {v : GBlk} (hk : (lkP HG k).isNone = true) (h : HLe HG HG') : HLe HG ((k, v) :: HG') := fun j x e => by
  rw [lkP_cons]
  rw [if_neg (fun c => by have c' : k = j := c; rw [← c'] at e; rw [e] at hk; cases hk)]
  exact h j x e
/-- the end of a side way: what was is still there, and a truth is at hand -/
def sideG (L : GFr) (HG : GHp) (r : Nat) (p : Bool) (L' : GFr) (H' : GHp) : Prop := lkP L' r = some (.v (.bool p)) ∧ LLe L L' ∧ HLe HG H' ∧ pins HG H' = true
theorem G.and {d0 : Option Nat} {o0 : AOp} {ops l : List AOper} {d g r : Nat} {q p : Bool} (hg : lkP L g = some (.v (.bool q))) (hn : newInG L (grd g true (⟨d0, o0, some (g, true)⟩ :: ops)) = true)
    (hr : rst g true (⟨d0, o0, some (g, true)⟩ :: ops) = ⟨some d, .pick (.t g) (.t r) (.c (.v (.bool false))), none⟩ :: l) (hcl : cleanL HG.D L = true) (hch : cleanH HG.D HG = true)
    (hB : q = true → WpOpsG A (grd g true (⟨d0, o0, some (g, true)⟩ :: ops)) L HG (sideG L HG r p)) (h : WpOpsG A l ((d, .v (.bool (q && p))) :: L) HG Q) : WpOpsG A (⟨d0, o0, some (g, true)⟩ :: ops) L HG Q := fun Z om fr H hrel hf => by
  obtain ⟨a, e1, e2⟩ := hf g _ hg
  obtain rfl := e2.v_inv
  generalize (⟨d0, o0, some (g, true)⟩ :: ops : List AOper) = os at hn hr hB
  cases q with
  | false =>
    obtain ⟨fr3, i1, i2⟩ := grd_noG (H := H) hg (w := true) (by decide) hn hf
    obtain ⟨n, f, f0, H', h1, h2, h3⟩ := h Z om (putD fr3 (some d) (.v (.bool false))) H hrel (i1.put (.pure (.v _)) (some d))
    refine ⟨n, f, f0, H', ?_, h2, h3⟩
    obtain ⟨a', e1', e2'⟩ := i1 g _ hg
    obtain rfl := e2'.v_inv
    rw [i2 (callA A n), hr, evOps]
    simp only [evOp, evX, e1', h1]
  | true =>
    obtain ⟨m, s, s0, H2, i1, i2, Z1, om1, L1, HG1, r1, r2, r3, r4, r5, r6, r7⟩ := hB rfl Z om fr H hrel hf
    have hmk : FLe (mkF [(g, .v (.bool true))]) fr := fun k v e => by
      rw [mkF, T.get_set] at e
      split at e
      · rename_i c; cases e; rw [c]; exact e1
      · simp [mkF, T.get] at e
    have hn1 := newInG_one (b := .v (.bool true)) hg hn
    have hF : FR Z1 (om1.cut HG.D) L s := (((r2.less r5).cut hcl).le i2)
    obtain ⟨a, e3, e4⟩ := r2 r _ r4
    obtain rfl := e4.v_inv
    have hsr := i2 _ _ e3
    obtain ⟨n, f, f0, H', h1, h2, h3⟩ := h Z1 (om1.cut HG.D) (putD s (some d) (.v (.bool (true && p)))) H2 (r1.less r6 hch) (hF.put (.pure (.v _)) (some d))
    obtain ⟨u, u1, u2⟩ := evOps_le (callA_le (A := A) (Nat.le_max_right n m)) (FLe.refl _) i1
    obtain ⟨k1, k2⟩ := grd_yes (call := callA A (max n m)) (L := [(g, .v (.bool true))]) (w := true) (by simp [lk]) hn1 hmk u1
    obtain ⟨f2, g1, g2⟩ := evOps_le (callA_le (A := A) (Nat.le_max_left n m)) (FLe.put u2 (some d) _) h1
    obtain ⟨Z2, om2, L2, HG2, a2, b2, c2, d2⟩ := h3
    refine ⟨max n m, f2, f0, H', ?_, h2.trans g2, Z2, om2, L2, HG2, a2, b2, r3.trans ((Ext.less r1 r6 r7).trans c2), d2⟩
    rw [k2, hr, evOps]
    have hug : u.get g = some (.v (.bool true)) := k1 _ _ (by rw [mkF, T.get_set, if_pos rfl])
    simp only [evOp, evX, hug, u2 _ _ hsr]
    exact g1
theorem G.or {d0 : Option Nat} {o0 : AOp} {ops l : List AOper} {d g r : Nat} {q p : Bool} (hg : lkP L g = some (.v (.bool q))) (hn : newInG L (grd g false (⟨d0, o0, some (g, false)⟩ :: ops)) = true)
    (hr : rst g false (⟨d0, o0, some (g, false)⟩ :: ops) = ⟨some d, .pick (.t g) (.c (.v (.bool true))) (.t r), none⟩ :: l) (hcl : cleanL HG.D L = true) (hch : cleanH HG.D HG = true)
    (hB : q = false → WpOpsG A (grd g false (⟨d0, o0, some (g, false)⟩ :: ops)) L HG (sideG L HG r p)) (h : WpOpsG A l ((d, .v (.bool (q || p))) :: L) HG Q) : WpOpsG A (⟨d0, o0, some (g, false)⟩ :: ops) L HG Q := fun Z om fr H hrel hf => by
  obtain ⟨a, e1, e2⟩ := hf g _ hg
  obtain rfl := e2.v_inv
  generalize (⟨d0, o0, some (g, false)⟩ :: ops : List AOper) = os at hn hr hB
  cases q with
  | false =>
    obtain ⟨m, s, s0, H2, i1, i2, Z1, om1, L1, HG1, r1, r2, r3, r4, r5, r6, r7⟩ := hB rfl Z om fr H hrel hf
    have hmk : FLe (mkF [(g, .v (.bool false))]) fr := fun k v e => by
      rw [mkF, T.get_set] at e
      split at e
      · rename_i c; cases e; rw [c]; exact e1
      · simp [mkF, T.get] at e
    have hn1 := newInG_one (b := .v (.bool false)) hg hn
    have hF : FR Z1 (om1.cut HG.D) L s := (((r2.less r5).cut hcl).le i2)
    obtain ⟨a, e3, e4⟩ := r2 r _ r4
    obtain rfl := e4.v_inv
    have hsr := i2 _ _ e3
    obtain ⟨n, f, f0, H', h1, h2, h3⟩ := h Z1 (om1.cut HG.D) (putD s (some d) (.v (.bool (false || p)))) H2 (r1.less r6 hch) (hF.put (.pure (.v _)) (some d))
    obtain ⟨u, u1, u2⟩ := evOps_le (callA_le (A := A) (Nat.le_max_right n m)) (FLe.refl _) i1
    obtain ⟨k1, k2⟩ := grd_yes (call := callA A (max n m)) (L := [(g, .v (.bool false))]) (w := false) (by simp [lk]) hn1 hmk u1
    obtain ⟨f2, g1, g2⟩ := evOps_le (callA_le (A := A) (Nat.le_max_left n m)) (FLe.put u2 (some d) _) h1
    obtain ⟨Z2, om2, L2, HG2, a2, b2, c2, d2⟩ := h3
    refine ⟨max n m, f2, f0, H', ?_, h2.trans g2, Z2, om2, L2, HG2, a2, b2, r3.trans ((Ext.less r1 r6 r7).trans c2), d2⟩
    rw [k2, hr, evOps]
    have hug : u.get g = some (.v (.bool false)) := k1 _ _ (by rw [mkF, T.get_set, if_pos rfl])
    simp only [evOp, evX, hug, u2 _ _ hsr]
    exact g1
  | true =>
    obtain ⟨fr3, i1, i2⟩ := grd_noG (H := H) hg (w := false) (by decide) hn hf
    obtain ⟨n, f, f0, H', h1, h2, h3⟩ := h Z om (putD fr3 (some d) (.v (.bool true))) H hrel (i1.put (.pure (.v _)) (some d))
    refine ⟨n, f, f0, H', ?_, h2, h3⟩
    obtain ⟨a', e1', e2'⟩ := i1 g _ hg
    obtain rfl := e2'.v_inv
    rw [i2 (callA A n), hr, evOps]
    simp only [evOp, evX, e1', h1]
end
end Go.AM

namespace Go.AM
/-! ## Other names -/
def sw1 (a b x : Nat) : Nat := match Nat.beq x a with
  | true => b
  | false => match Nat.beq x b with | true => a | false => x
theorem sw1_sw1 (a b x : Nat) : sw1 a b (sw1 a b x) = x := by
  have h : ∀ x, sw1 a b x = if x = a then b else if x = b then a else x := fun x => by
    unfold sw1
    cases h1 : Nat.beq x a with
    | true => rw [if_pos (Nat.eq_of_beq_eq_true h1)]
    | false =>
      rw [if_neg (fun c => by rw [c] at h1; simp at h1)]
      cases h2 : Nat.beq x b with
      | true => rw [if_pos (Nat.eq_of_beq_eq_true h2)]
      | false => rw [if_neg (fun c => by rw [c] at h2; simp at h2)]
  rw [h, h]
  split <;> split <;> try (split <;> omega)
  all_goals omega
def swp : List (Nat × Nat) → Nat → Nat
  | [], x => x
  | p :: r, x => swp r (sw1 p.1 p.2 x)
def swI : List (Nat × Nat) → Nat → Nat
  | [], x => x
  | p :: r, x => sw1 p.1 p.2 (swI r x)
theorem swI_swp : ∀ (r : List (Nat × Nat)) (x : Nat), swI r (swp r x) = x
  | [], _ => rfl
  | p :: r, x => by rw [swp, swI, swI_swp r, sw1_sw1]
theorem swp_swI : ∀ (r : List (Nat × Nat)) (x : Nat), swp r (swI r x) = x
  | [], _ => rfl
  | p :: r, x => by rw [swI, swp, sw1_sw1, swp_swI r]
mutual
def GV.rn (f : Nat → Nat) : GV → GV
  | .agg cs => .agg (GV.rnL f cs)
  | .tup cs => .tup (GV.rnL f cs)
  | .fn k cs => .fn k (GV.rnL f cs)
  | .ifc t x => .ifc t (GV.rn f x)
  | .osl g => .osl (f g)
  | .bptr g o => .bptr (f g) o
  | .eptr g i o => .eptr (f g) i o
  | x => x
def GV.rnL (f : Nat → Nat) : List GV → List GV
  | [] => []
  | c :: cs => GV.rn f c :: GV.rnL f cs
end
theorem GV.rnL_len {f : Nat → Nat} : ∀ {cs : List GV}, (GV.rnL f cs).length = cs.length
  | [] => rfl
  | c :: r => by simp [GV.rnL, GV.rnL_len]
theorem GV.rnL_at {f : Nat → Nat} : ∀ {cs : List GV} {i : Nat}, (GV.rnL f cs)[i]? = (cs[i]?).map (GV.rn f)
  | [], i => by simp [GV.rnL]
  | c :: r, 0 => by simp [GV.rnL]
  | c :: r, i + 1 => by simp [GV.rnL, GV.rnL_at]
def GBlk.rn (f : Nat → Nat) : GBlk → GBlk
  | .box cs => .box (GV.rnL f cs)
  | .arr a w cs => .arr a w cs
def rnH (f : Nat → Nat) : GHp → GHp
  | [] => []
  | p :: r => (f p.1, p.2.rn f) :: rnH f r
theorem lkP_rnH {f h : Nat → Nat} (hf : ∀ x, h (f x) = x) (hh : ∀ x, f (h x) = x) : ∀ {P : GHp} {k : Nat}, lkP (rnH f P) k = (lkP P (h k)).map (GBlk.rn f)
  | [], _ => rfl
  | p :: r, k => by
    rw [rnH, lkP_cons, lkP_cons, lkP_rnH hf hh]
    by_cases c : f p.1 = k
    · rw [if_pos c, if_pos (by rw [← c, hf])]; rfl
    · rw [if_neg c, if_neg (fun x => c (by rw [x, hh]))]
/-- names there, names here -/
theorem VR.back {Z : ZM} {om om0 : Om} {f : Nat → Nat} (ho : ∀ k, om0 k = om (f k)) {u : GV} {a : AV} (h : VR Z om u a) : ∀ {v : GV}, u = GV.rn f v → VR Z om0 v a := by
  have pure : ∀ {u : GV} {a : AV}, PR Z u a → ∀ {v : GV}, u = GV.rn f v → VR Z om0 v a := by
    intro u a h
    induction h with
    | v x => intro v e; cases v <;> cases e; exact .pure (.v x)
    | @agg cs as h _ ih =>
      intro v e; cases v <;> cases e
      refine .agg (by rw [← h, GV.rnL_len]) fun i c a e1 e2 => ih i (GV.rn f c) a (by rw [GV.rnL_at, e1]; rfl) e2 rfl
    | @tup cs as h _ ih =>
      intro v e; cases v <;> cases e
      refine .tup (by rw [← h, GV.rnL_len]) fun i c a e1 e2 => ih i (GV.rn f c) a (by rw [GV.rnL_at, e1]; rfl) e2 rfl
    | @fn f0 cs as h _ ih =>
      intro v e; cases v <;> cases e
      refine .fn (by rw [← h, GV.rnL_len]) fun i c a e1 e2 => ih i (GV.rn f c) a (by rw [GV.rnL_at, e1]; rfl) e2 rfl
    | ifc _ ih => intro v e; cases v <;> cases e; exact .ifc (ih rfl)
    | fsl p h1 h2 h3 h4 h5 h6 h7 _ => intro v e; cases v <;> cases e; exact .pure (.fsl p h1 h2 h3 h4 h5 h6 h7)
    | fnil => intro v e; cases v <;> cases e; exact .pure .fnil
    | fptr p h1 h2 h3 _ => intro v e; cases v <;> cases e; exact .pure (.fptr p h1 h2 h3)
    | any => intro v e; cases v <;> cases e; exact .any
  induction h with
  | pure h => intro v e; exact pure h e
  | @agg cs as h _ ih =>
    intro v e; cases v <;> cases e
    exact .agg (by rw [← h, GV.rnL_len]) fun i c a e1 e2 => ih i (GV.rn f c) a (by rw [GV.rnL_at, e1]; rfl) e2 rfl
  | @tup cs as h _ ih =>
    intro v e; cases v <;> cases e
    exact .tup (by rw [← h, GV.rnL_len]) fun i c a e1 e2 => ih i (GV.rn f c) a (by rw [GV.rnL_at, e1]; rfl) e2 rfl
  | @fn f0 cs as h _ ih =>
    intro v e; cases v <;> cases e
    exact .fn (by rw [← h, GV.rnL_len]) fun i c a e1 e2 => ih i (GV.rn f c) a (by rw [GV.rnL_at, e1]; rfl) e2 rfl
  | ifc _ ih => intro v e; cases v <;> cases e; exact .ifc (ih rfl)
  | osl h => intro v e; cases v <;> cases e; exact .osl (by rw [ho]; exact h)
  | onil h => intro v e; cases v <;> cases e; exact .onil (by rw [ho]; exact h)
  | bptr h => intro v e; cases v <;> cases e; exact .bptr (by rw [ho]; exact h)
  | eptr h => intro v e; cases v <;> cases e; exact .eptr (by rw [ho]; exact h)
  | any => intro v e; cases v <;> cases e; exact .any
theorem VR.forth {Z : ZM} {om om0 : Om} {f : Nat → Nat} (ho : ∀ k, om0 k = om (f k)) {v : GV} {a : AV} (h : VR Z om0 v a) : VR Z om (GV.rn f v) a := by
  have pure : ∀ {v : GV} {a : AV}, PR Z v a → VR Z om (GV.rn f v) a := by
    intro v a h
    induction h with
    | v x => exact .pure (.v x)
    | @agg cs as h _ ih =>
      refine .agg (by rw [GV.rnL_len, h]) fun i c a e1 e2 => ?_
      rw [GV.rnL_at] at e1
      cases hx : cs[i]? with
      | none => rw [hx] at e1; cases e1
      | some y => rw [hx] at e1; cases e1; exact ih i y a hx e2
    | @tup cs as h _ ih =>
      refine .tup (by rw [GV.rnL_len, h]) fun i c a e1 e2 => ?_
      rw [GV.rnL_at] at e1
      cases hx : cs[i]? with
      | none => rw [hx] at e1; cases e1
      | some y => rw [hx] at e1; cases e1; exact ih i y a hx e2
    | @fn f0 cs as h _ ih =>
      refine .fn (by rw [GV.rnL_len, h]) fun i c a e1 e2 => ?_
      rw [GV.rnL_at] at e1
      cases hx : cs[i]? with
      | none => rw [hx] at e1; cases e1
      | some y => rw [hx] at e1; cases e1; exact ih i y a hx e2
    | ifc _ ih => exact .ifc ih
    | fsl p h1 h2 h3 h4 h5 h6 h7 _ => exact .pure (.fsl p h1 h2 h3 h4 h5 h6 h7)
    | fnil => exact .pure .fnil
    | fptr p h1 h2 h3 _ => exact .pure (.fptr p h1 h2 h3)
    | any => exact .any
  induction h with
  | pure h => exact pure h
  | @agg cs as h _ ih =>
    refine .agg (by rw [GV.rnL_len, h]) fun i c a e1 e2 => ?_
    rw [GV.rnL_at] at e1
    cases hx : cs[i]? with
    | none => rw [hx] at e1; cases e1
    | some y => rw [hx] at e1; cases e1; exact ih i y a hx e2
  | @tup cs as h _ ih =>
    refine .tup (by rw [GV.rnL_len, h]) fun i c a e1 e2 => ?_
    rw [GV.rnL_at] at e1
    cases hx : cs[i]? with
    | none => rw [hx] at e1; cases e1
    | some y => rw [hx] at e1; cases e1; exact ih i y a hx e2
  | @fn f0 cs as h _ ih =>
    refine .fn (by rw [GV.rnL_len, h]) fun i c a e1 e2 => ?_
    rw [GV.rnL_at] at e1
    cases hx : cs[i]? with
    | none => rw [hx] at e1; cases e1
    | some y => rw [hx] at e1; cases e1; exact ih i y a hx e2
  | ifc _ ih => exact .ifc ih
  | osl h => exact .osl (by rw [← ho]; exact h)
  | onil h => exact .onil (by rw [← ho]; exact h)
  | bptr h => exact .bptr (by rw [← ho]; exact h)
  | eptr h => exact .eptr (by rw [← ho]; exact h)
  | any => exact .any
theorem VRs.back {Z : ZM} {om om0 : Om} {f : Nat → Nat} (ho : ∀ k, om0 k = om (f k)) : ∀ {vs : List GV} {as : List AV}, VRs Z om (GV.rnL f vs) as → VRs Z om0 vs as
  | [], _, h => by cases h; exact .nil
  | v :: vs, _, h => by
    rw [GV.rnL] at h
    cases h with
    | cons h k => exact .cons (h.back ho rfl) (VRs.back ho k)
theorem BR.back {Z : ZM} {om om0 : Om} {f : Nat → Nat} (ho : ∀ k, om0 k = om (f k)) {H : Heap} {g : Nat} {b : GBlk} (h : BR Z om H (f g) (b.rn f)) : BR Z om0 H g b := by
  cases b with
  | box cs =>
    cases h with
    | box h1 h2 h3 h4 h5 => exact .box (by rw [ho]; exact h1) h2 h3 (by rw [← h4, GV.rnL_len]) fun i c a e1 e2 => (h5 i (GV.rn f c) a (by rw [GV.rnL_at, e1]; rfl) e2).back ho rfl
  | arr fl w cs =>
    cases h with
    | nil h1 hq => exact .nil (by rw [ho]; exact h1) hq
    | arr h1 h2 h3 h4 h5 h6 h7 h8 => exact .arr (by rw [ho]; exact h1) h2 h3 h4 h5 h6 h7 h8
theorem BR.forth {Z : ZM} {om om0 : Om} {f : Nat → Nat} (ho : ∀ k, om0 k = om (f k)) {H : Heap} {g : Nat} {b : GBlk} (h : BR Z om0 H g b) : BR Z om H (f g) (b.rn f) := by
  cases h with
  | @box cs _ _ h1 h2 h3 h4 h5 =>
    refine .box (by rw [← ho]; exact h1) h2 h3 (by rw [GV.rnL_len]; exact h4) fun i c a e1 e2 => ?_
    rw [GV.rnL_at] at e1
    cases hx : cs[i]? with
    | none => rw [hx] at e1; cases e1
    | some y => rw [hx] at e1; cases e1; exact (h5 i y a hx e2).forth ho
  | nil h1 hq => exact .nil (by rw [← ho]; exact h1) hq
  | arr h1 h2 h3 h4 h5 h6 h7 h8 => exact .arr (by rw [← ho]; exact h1) h2 h3 h4 h5 h6 h7 h8
section
variable {Z : ZM} {om om0 : Om} {f h : Nat → Nat} {H : Heap} {P : GHp}
theorem rn_some (hf : ∀ x, h (f x) = x) (hh : ∀ x, f (h x) = x) {k : Nat} : (lkP (rnH f P) k).isSome = (lkP P (h k)).isSome := by rw [lkP_rnH hf hh]; cases lkP P (h k) <;> rfl
theorem rn_some' (hf : ∀ x, h (f x) = x) (hh : ∀ x, f (h x) = x) {k : Nat} : (lkP (rnH f P) (f k)).isSome = (lkP P k).isSome := by rw [rn_some hf hh, hf]
theorem idOf_rn (ho : ∀ k, om0 k = om (f k)) (k : Nat) : idOf om0 k = idOf om (f k) := by unfold idOf; rw [ho]
theorem GRel.back (hf : ∀ x, h (f x) = x) (hh : ∀ x, f (h x) = x) (ho : ∀ k, om0 k = om (f k)) (hr : GRel Z om (rnH f P) H) : GRel Z om0 P H where
  dom := fun g e => by rw [ho]; exact hr.dom _ (by rw [lkP_rnH hf hh, hf, e]; rfl)
  zok := hr.zok
  own := fun g b e => (hr.own (f g) (b.rn f) (by rw [lkP_rnH hf hh, hf, e]; rfl)).back ho
  sep := fun g g' b n e e' i i' => hr.sep (f g) (f g') b (fun c => n (by rw [← hf g, c, hf])) (by rw [rn_some' hf hh]; exact e) (by rw [rn_some' hf hh]; exact e') (by rw [← idOf_rn ho]; exact i) (by rw [← idOf_rn ho]; exact i')
  zsep := fun g b e i => hr.zsep (f g) b (by rw [rn_some' hf hh]; exact e) (by rw [← idOf_rn ho]; exact i)
  mate := fun g b blk m e i hb hm =>
    let ⟨a1, a2, a3⟩ := hr.mate (f g) b blk m (by rw [rn_some' hf hh]; exact e) (by rw [← idOf_rn ho]; exact i) hb hm
    ⟨a1, a2, fun g' e' i' => a3 (f g') (by rw [rn_some' hf hh]; exact e') (by rw [← idOf_rn ho]; exact i')⟩
theorem GRel.forth (hf : ∀ x, h (f x) = x) (hh : ∀ x, f (h x) = x) (ho : ∀ k, om0 k = om (f k)) (hr : GRel Z om0 P H) : GRel Z om (rnH f P) H := by
  have id' : ∀ k, idOf om k = idOf om0 (h k) := fun k => by rw [idOf_rn ho, hh]
  refine ⟨fun g e => ?_, hr.zok, fun g b e => ?_, fun g g' b n e e' i i' => ?_, fun g b e i => ?_, fun g b blk m e i hb hm => ?_⟩
  · rw [← hh g, ← ho]
    refine hr.dom _ ?_
    rw [lkP_rnH hf hh] at e
    cases hx : lkP P (h g) with
    | none => rfl
    | some _ => rw [hx] at e; cases e
  · rw [lkP_rnH hf hh] at e
    cases hx : lkP P (h g) with
    | none => rw [hx] at e; cases e
    | some y => rw [hx] at e; cases e; have := (hr.own (h g) y hx).forth ho; rwa [hh] at this
  · exact hr.sep (h g) (h g') b (fun c => n (by rw [← hh g, c, hh])) (by rw [← rn_some hf hh]; exact e) (by rw [← rn_some hf hh]; exact e') (by rw [← id']; exact i) (by rw [← id']; exact i')
  · exact hr.zsep (h g) b (by rw [← rn_some hf hh]; exact e) (by rw [← id']; exact i)
  · obtain ⟨a1, a2, a3⟩ := hr.mate (h g) b blk m (by rw [← rn_some hf hh]; exact e) (by rw [← id']; exact i) hb hm
    exact ⟨a1, a2, fun g' e' i' => a3 (h g') (by rw [← rn_some hf hh]; exact e') (by rw [← id']; exact i')⟩
theorem Foot.back (hf : ∀ x, h (f x) = x) (hh : ∀ x, f (h x) = x) (ho : ∀ k, om0 k = om (f k)) {b : Nat} (k : Foot om (rnH f P) H b) : Foot om0 P H b := by
  obtain ⟨g, e, q⟩ := k
  have id' : ∀ k, idOf om k = idOf om0 (h k) := fun k => by rw [idOf_rn ho, hh]
  exact ⟨h g, by rw [← rn_some hf hh]; exact e, by rw [← id']; exact q⟩
theorem Foot.forth (hf : ∀ x, h (f x) = x) (hh : ∀ x, f (h x) = x) (ho : ∀ k, om0 k = om (f k)) {b : Nat} (k : Foot om0 P H b) : Foot om (rnH f P) H b := by
  obtain ⟨g, e, q⟩ := k
  exact ⟨f g, by rw [rn_some' hf hh]; exact e, by rw [← idOf_rn ho]; exact q⟩
theorem Own.back (hf : ∀ x, h (f x) = x) (hh : ∀ x, f (h x) = x) (ho : ∀ k, om0 k = om (f k)) {b : Nat} (k : Own om (rnH f P) b) : Own om0 P b := by
  obtain ⟨g, e, q⟩ := k
  have id' : ∀ k, idOf om k = idOf om0 (h k) := fun k => by rw [idOf_rn ho, hh]
  exact ⟨h g, by rw [← rn_some hf hh]; exact e, by rw [← id']; exact q⟩
theorem Own.forth (hf : ∀ x, h (f x) = x) (hh : ∀ x, f (h x) = x) (ho : ∀ k, om0 k = om (f k)) {b : Nat} (k : Own om0 P b) : Own om (rnH f P) b := by
  obtain ⟨g, e, q⟩ := k
  exact ⟨f g, by rw [rn_some' hf hh]; exact e, by rw [← idOf_rn ho]; exact q⟩
end
/-- a contract holds under other names -/
theorem WpCallG.ren {A : AProg} {k : Nat} {vs : List GV} {P : GHp} {Q : GV → GHp → Prop} (s : List (Nat × Nat)) (hc : WpCallG A k vs P Q) :
    WpCallG A k (GV.rnL (swp s) vs) (rnH (swp s) P) (fun v H => ∃ v0 H0, Q v0 H0 ∧ v = GV.rn (swp s) v0 ∧ H = rnH (swp s) H0) := fun Z om as H hr hv => by
  have hf := swI_swp s
  have hh := swp_swI s
  have ho : ∀ k, (fun k => om (swp s k)) k = om (swp s k) := fun _ => rfl
  refine (hc Z (fun k => om (swp s k)) as H (hr.back hf hh ho) (hv.back ho)).mono ?_
  rintro a H' ⟨Z', om1, v, H1, r1, r2, r3, r4, r5⟩
  have ho1 : ∀ k, om1 k = (fun k => om1 (swI s k)) (swp s k) := fun k => by show om1 k = om1 (swI s (swp s k)); rw [hf]
  refine ⟨Z', fun k => om1 (swI s k), _, _, r1.forth hf hh ho1, VR.forth (om := fun k => om1 (swI s k)) (f := swp s) ho1 r2, ⟨r3.next, r3.zle, fun b hb hn => r3.old b hb fun c => hn (c.forth hf hh ho), fun b hb hn => (r3.foot b hb (hn.back hf hh ho1)).forth hf hh ho, fun g b hg e => ?_, fun b hb e => (r3.ownb b hb (e.back hf hh ho1)).forth hf hh ho, fun b hb e1 e2 => (r3.zown b hb e1 e2).forth hf hh ho⟩, fun g b e => ?_, v, H1, r5, rfl, rfl⟩
  · exact r4 (swI s g) b (by show om (swp s (swI s g)) = _; rw [hh]; exact e)
  · exact r4 (swI s g) b (by show om (swp s (swI s g)) = _; rw [hh]; exact e)
end Go.AM
