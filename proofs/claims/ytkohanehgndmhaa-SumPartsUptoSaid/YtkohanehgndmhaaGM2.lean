/- The machine over plain data: rules for each operation, calls. No condition. -/
import Derived.Test.YtkohanehgndmhaaGM1
set_option linter.all false
namespace Go.AM
/-- what is known of the room behind a slice's end -/
inductive Fl where
  | no
  | yes
  | rm (r : Nat)
def FlOk : Fl → Bool → Nat → Nat → Prop
  | .no, _, _, _ => True
  | .yes, ex, len, cap => ex = true ∨ len = cap
  | .rm r, _, len, cap => cap = len + r
def Fl.app : Fl → Nat → Fl
  | .no, _ => .no
  | .yes, _ => .yes
  | .rm r, n => .rm (r - n)
def Fl.can : Fl → Nat → Prop
  | .no, n => n ≤ 1
  | .yes, _ => True
  | .rm r, n => n ≤ r
theorem FlOk.in {full : Fl} {ex : Bool} {len cap n : Nat} (h : FlOk full ex len cap) (k : len + n ≤ cap) (hc : full.can n) : FlOk (full.app n) ex (len + n) cap := by
  cases full with
  | no => trivial
  | yes => rcases h with h | h
           · exact .inl h
           · exact .inr (by omega)
  | rm r =>
    have h' : cap = len + r := h
    have hc' : n ≤ r := hc
    show cap = len + n + (r - n)
    omega
theorem FlOk.out {full : Fl} {ex : Bool} {len cap n : Nat} (h : FlOk full ex len cap) (k : ¬ len + n ≤ cap) (hc : full.can n) : (∀ ex m, FlOk (full.app n) ex m m) ∧ (ex = true ∨ len = cap ∨ n ≤ 1) := by
  cases full with
  | no => exact ⟨fun _ _ => trivial, .inr (.inr hc)⟩
  | yes => exact ⟨fun _ _ => .inr rfl, h.elim .inl (fun c => .inr (.inl c))⟩
  | rm r =>
    have h' : cap = len + r := h
    have hc' : n ≤ r := hc
    omega
def Fl.cut (full full' : Fl) (len hi : Nat) : Prop := match full' with
  | .no => True
  | .yes => full = .yes ∧ hi = len
  | .rm r => ∃ r0, full = .rm r0 ∧ len + r0 = hi + r
theorem Fl.cut.ok {full full' : Fl} {len hi lo cap : Nat} {ex : Bool} (h : full.cut full' len hi) (k : FlOk full ex len cap) (hc : len ≤ cap) (hl : lo ≤ hi) (hh : hi ≤ len) : FlOk full' ex (hi - lo) (cap - lo) := by
  cases full' with
  | no => trivial
  | yes =>
    obtain ⟨rfl, rfl⟩ := h
    rcases k with k | k
    · exact .inl k
    · exact .inr (by omega)
  | rm r =>
    obtain ⟨r0, rfl, e⟩ := h
    have k' : cap = len + r0 := k
    show cap - lo = hi - lo + r
    omega
theorem Fl.cut.nil {full full' : Fl} (h : full.cut full' 0 0) (k : FlOk full true 0 0) : FlOk full' true 0 0 := h.ok (lo := 0) k (Nat.le_refl _) (Nat.le_refl _) (Nat.le_refl _)
inductive GBlk where
  | box (cells : List GV)
  | arr (full : Fl) (w : Nat) (cs : List (List GV))
abbrev GHp := List (Nat × GBlk)

/-- a row of things, `w` cells each, from a cell on -/
def ArrAt (Z : ZM) (cells : List AV) (o w : Nat) (cs : List (List GV)) : Prop :=
  ∀ (i : Nat) (c : List GV), cs[i]? = some c → c.length = w ∧ ∀ (k : Nat) (x : GV), c[k]? = some x → ∃ a, cells[o + i * w + k]? = some a ∧ PR Z x a
theorem ArrAt.mono {Z Z' : ZM} (hz : ZLe Z Z') {cells : List AV} {o w : Nat} {cs : List (List GV)} (h : ArrAt Z cells o w cs) : ArrAt Z' cells o w cs := fun i c e =>
  ⟨(h i c e).1, fun k x e' => let ⟨a, h1, h2⟩ := (h i c e).2 k x e'; ⟨a, h1, h2.mono hz⟩⟩
theorem PR.sl_inv {Z : ZM} {w b off len cap : Nat} {ex : Bool} {cs : List (List GV)} (h : PR Z (.fsl w cs) (.sl b off len cap ex)) : len = cs.length ∧ len ≤ cap ∧ ∃ zb, Z b = some zb ∧ zb.es = w ∧ ArrAt Z zb.cells off w cs := by
  cases h with
  | fsl f h1 h2 h3 h4 h5 h6 h7 =>
    exact ⟨h3, h4, _, h1, h2, fun i c e => ⟨h5 c (List.mem_of_getElem? e), fun k x e' => ⟨f i k, h6 i k c x e e', h7 i k c x e e'⟩⟩⟩
theorem PR.sl {Z : ZM} {w b off len cap : Nat} {ex : Bool} {cs : List (List GV)} {zb : ZB} (h1 : Z b = some zb) (h2 : zb.es = w) (h3 : len = cs.length) (h4 : len ≤ cap) (h5 : ArrAt Z zb.cells off w cs) : PR Z (.fsl w cs) (.sl b off len cap ex) :=
  .fsl (fun i k => zb.cells.getD (off + i * w + k) (.tup [])) h1 h2 h3 h4 (fun c hc => by obtain ⟨i, hi⟩ := List.getElem?_of_mem hc; exact (h5 i c hi).1)
    (fun i k c x e e' => by obtain ⟨a, ha, _⟩ := (h5 i c e).2 k x e'; rw [ha, List.getD_eq_getElem?_getD, ha]; rfl)
    (fun i k c x e e' => by obtain ⟨a, ha, hp⟩ := (h5 i c e).2 k x e'; rw [List.getD_eq_getElem?_getD, ha]; exact hp)

inductive BR (Z : ZM) (om : Om) (H : Heap) (g : Nat) : GBlk → Prop where
  | box {cells : List GV} {b : Nat} {blk : Blk} (h : om g = some (.box b)) (hb : H.blks.get b = some blk) (hw : blk.wr = true) (hl : cells.length = blk.cells.length)
      (hv : ∀ (i : Nat) (c : GV) (a : AV), cells[i]? = some c → blk.cells[i]? = some a → VR Z om c a) : BR Z om H g (.box cells)
  | nil {full : Fl} {w : Nat} (h : om g = some .nil) (hf : FlOk full true 0 0) : BR Z om H g (.arr full w [])
  | arr {full : Fl} {w b o cap : Nat} {ex : Bool} {cs : List (List GV)} {blk : Blk} (h : om g = some (.sl b o cs.length cap ex w)) (hb : H.blks.get b = some blk) (hw : blk.wr = true) (hes : blk.es = w)
      (hcap : cs.length ≤ cap) (hsz : blk.cells.length = o + cap * w) (hf : FlOk full ex cs.length cap) (ha : ArrAt Z blk.cells o w cs) : BR Z om H g (.arr full w cs)

def idOf (om : Om) (g : Nat) : Option Nat := (om g).bind OL.id
structure GRel (Z : ZM) (om : Om) (HG : GHp) (H : Heap) : Prop where
  dom : ∀ g, lkP HG g = none → om g = none
  zok : ∀ b zb, Z b = some zb → b < H.next ∧ ∃ blk, H.blks.get b = some blk ∧ blk.cells = zb.cells ∧ blk.es = zb.es
  own : ∀ g blk, lkP HG g = some blk → BR Z om H g blk
  sep : ∀ g g' b, g ≠ g' → (lkP HG g).isSome = true → (lkP HG g').isSome = true → idOf om g = some b → idOf om g' ≠ some b
  zsep : ∀ g b, (lkP HG g).isSome = true → idOf om g = some b → Z b = none ∧ b < H.next
  mate : ∀ g b blk m, (lkP HG g).isSome = true → idOf om g = some b → H.blks.get b = some blk → blk.mate = some m → m < H.next ∧ Z m = none ∧ ∀ g', (lkP HG g').isSome = true → idOf om g' ≠ some m

/-- what one may write, and what dies of it -/
def Foot (om : Om) (HG : GHp) (H : Heap) (b : Nat) : Prop := ∃ g, (lkP HG g).isSome = true ∧ (idOf om g = some b ∨ ∃ b' blk, idOf om g = some b' ∧ H.blks.get b' = some blk ∧ blk.mate = some b)
def Own (om : Om) (HG : GHp) (b : Nat) : Prop := ∃ g, (lkP HG g).isSome = true ∧ idOf om g = some b
structure Ext (Z : ZM) (om : Om) (HG : GHp) (H : Heap) (Z' : ZM) (om' : Om) (HG' : GHp) (H' : Heap) : Prop where
  next : H.next ≤ H'.next
  zle : ZLe Z Z'
  old : ∀ b, b < H.next → ¬ Foot om HG H b → H'.blks.get b = H.blks.get b ∧ Z' b = Z b
  foot : ∀ b, b < H.next → Foot om' HG' H' b → Foot om HG H b
  stab : ∀ g b, g < 10 → om g = some (.box b) → om' g = some (.box b)
  ownb : ∀ b, b < H.next → Own om' HG' b → Own om HG b
  zown : ∀ b, b < H.next → Z b = none → Z' b ≠ none → Own om HG b
theorem Ext.refl (Z : ZM) (om : Om) (HG : GHp) (H : Heap) : Ext Z om HG H Z om HG H := ⟨Nat.le_refl _, .refl _, fun _ _ _ => ⟨rfl, rfl⟩, fun _ _ h => h, fun _ _ _ h => h, fun _ _ h => h, fun _ _ h k => absurd h k⟩
theorem Ext.trans {Z Z1 Z2 : ZM} {om om1 om2 : Om} {HG HG1 HG2 : GHp} {H H1 H2 : Heap} (h : Ext Z om HG H Z1 om1 HG1 H1) (k : Ext Z1 om1 HG1 H1 Z2 om2 HG2 H2) : Ext Z om HG H Z2 om2 HG2 H2 where
  next := Nat.le_trans h.next k.next
  zle := h.zle.trans k.zle
  old := fun b hb hf => by
    obtain ⟨a1, a2⟩ := h.old b hb hf
    obtain ⟨b1, b2⟩ := k.old b (Nat.lt_of_lt_of_le hb h.next) (fun c => hf (h.foot b hb c))
    exact ⟨b1.trans a1, b2.trans a2⟩
  foot := fun b hb hf => h.foot b hb (k.foot b (Nat.lt_of_lt_of_le hb h.next) hf)
  stab := fun g b hg e => k.stab g b hg (h.stab g b hg e)
  ownb := fun b hb e => h.ownb b hb (k.ownb b (Nat.lt_of_lt_of_le hb h.next) e)
  zown := fun b hb e1 e2 => by
    by_cases c : Z1 b = none
    · exact h.ownb b hb (k.zown b (Nat.lt_of_lt_of_le hb h.next) c e2)
    · exact h.zown b hb e1 c

/-- fewer names -/
def HLe (HG HG' : GHp) : Prop := ∀ g b, lkP HG g = some b → lkP HG' g = some b
theorem HLe.refl (HG : GHp) : HLe HG HG := fun _ _ h => h
theorem HLe.isSome {HG HG' : GHp} (h : HLe HG HG') {g : Nat} (e : (lkP HG g).isSome = true) : (lkP HG' g).isSome = true := by
  cases hx : lkP HG g with
  | none => rw [hx] at e; cases e
  | some b => rw [h _ _ hx]; rfl
mutual
/-- names that a value holds are all among these -/
def GV.ok (D : Nat → Bool) : GV → Bool
  | .agg cs => GV.okL D cs
  | .tup cs => GV.okL D cs
  | .fn _ cs => GV.okL D cs
  | .ifc _ x => GV.ok D x
  | .osl g => D g
  | .bptr g _ => D g
  | .eptr g _ _ => D g
  | _ => true
def GV.okL (D : Nat → Bool) : List GV → Bool
  | [] => true
  | c :: cs => GV.ok D c && GV.okL D cs
end
theorem GV.okL_at {D : Nat → Bool} : ∀ {cs : List GV} {i : Nat} {c : GV}, GV.okL D cs = true → cs[i]? = some c → c.ok D = true
  | [], i, c, _, h => by cases i <;> cases h
  | x :: cs, i, c, h, e => by
    rw [GV.okL, Bool.and_eq_true] at h
    cases i with
    | zero => cases e; exact h.1
    | succ i => exact GV.okL_at h.2 (by simpa using e)
def Om.cut (om : Om) (D : Nat → Bool) : Om := fun g => if D g = true then om g else none
theorem VR.cut {Z : ZM} {om : Om} {D : Nat → Bool} {g : GV} {a : AV} (h : VR Z om g a) (k : g.ok D = true) : VR Z (om.cut D) g a := by
  induction h with
  | pure h => exact .pure h
  | agg h _ ih => exact .agg h fun i c a e f => ih i c a e f (GV.okL_at (by rwa [GV.ok] at k) e)
  | tup h _ ih => exact .tup h fun i c a e f => ih i c a e f (GV.okL_at (by rwa [GV.ok] at k) e)
  | fn h _ ih => exact .fn h fun i c a e f => ih i c a e f (GV.okL_at (by rwa [GV.ok] at k) e)
  | ifc _ ih => exact .ifc (ih (by rwa [GV.ok] at k))
  | osl h => exact .osl (by rw [GV.ok] at k; rw [Om.cut, if_pos k]; exact h)
  | onil h => exact .onil (by rw [GV.ok] at k; rw [Om.cut, if_pos k]; exact h)
  | bptr h => exact .bptr (by rw [GV.ok] at k; rw [Om.cut, if_pos k]; exact h)
  | eptr h => exact .eptr (by rw [GV.ok] at k; rw [Om.cut, if_pos k]; exact h)
  | any => exact .any
def GHp.D (HG : GHp) : Nat → Bool := fun g => (lkP HG g).isSome
/-- the frame and the boxes hold no name that is not here -/
def cleanL (D : Nat → Bool) : GFr → Bool
  | [] => true
  | p :: r => p.2.ok D && cleanL D r
def cleanH (D : Nat → Bool) : GHp → Bool
  | [] => true
  | p :: r => (match p.2 with | .box cs => GV.okL D cs | .arr _ _ _ => true) && cleanH D r
theorem cleanL_at {D : Nat → Bool} : ∀ {L : GFr} {k : Nat} {v : GV}, cleanL D L = true → lkP L k = some v → v.ok D = true
  | [], _, _, _, h => by cases h
  | p :: r, k, v, h, e => by
    rw [cleanL, Bool.and_eq_true] at h
    rw [lkP_cons] at e
    split at e
    · cases e; exact h.1
    · exact cleanL_at h.2 e
theorem cleanH_at {D : Nat → Bool} : ∀ {HG : GHp} {k : Nat} {cs : List GV}, cleanH D HG = true → lkP HG k = some (.box cs) → GV.okL D cs = true
  | [], _, _, _, h => by cases h
  | p :: r, k, cs, h, e => by
    rw [cleanH, Bool.and_eq_true] at h
    rw [lkP_cons] at e
    split at e
    · have := h.1
      rw [Option.some.inj e] at this
      exact this
    · exact cleanH_at h.2 e
theorem idOf_cut {om : Om} {D : Nat → Bool} {g b : Nat} (h : idOf (om.cut D) g = some b) : idOf om g = some b := by
  unfold idOf Om.cut at h
  split at h
  · exact h
  · cases h
theorem idOf_cut' {om : Om} {D : Nat → Bool} {g : Nat} (h : D g = true) : idOf (om.cut D) g = idOf om g := by
  unfold idOf Om.cut
  rw [if_pos h]
theorem GRel.less {Z : ZM} {om : Om} {HG HG' : GHp} {H : Heap} (h : GRel Z om HG' H) (k : HLe HG HG') (hc : cleanH HG.D HG = true) : GRel Z (om.cut HG.D) HG H where
  dom := fun g e => by unfold Om.cut GHp.D; rw [e]; rfl
  zok := h.zok
  own := fun g b e => by
    have hD : HG.D g = true := by unfold GHp.D; rw [e]; rfl
    have hcut : om.cut HG.D g = om g := by unfold Om.cut; rw [if_pos hD]
    cases h.own g b (k g b e) with
    | box h1 h2 h3 h4 h5 => exact .box (by rw [hcut]; exact h1) h2 h3 h4 fun i c a e1 e2 => (h5 i c a e1 e2).cut (GV.okL_at (cleanH_at hc e) e1)
    | nil h1 hq => exact .nil (by rw [hcut]; exact h1) hq
    | arr h1 h2 h3 h4 h5 h6 h7 h8 => exact .arr (by rw [hcut]; exact h1) h2 h3 h4 h5 h6 h7 h8
  sep := fun g g' b n e e' i i' => h.sep g g' b n (k.isSome e) (k.isSome e') (idOf_cut i) (idOf_cut i')
  zsep := fun g b e i => h.zsep g b (k.isSome e) (idOf_cut i)
  mate := fun g b blk m e e1 e2 e3 =>
    let ⟨a, b, c⟩ := h.mate g b blk m (k.isSome e) (idOf_cut e1) e2 e3
    ⟨a, b, fun g' e' i => c g' (k.isSome e') (idOf_cut i)⟩
theorem FR.cut {Z : ZM} {om : Om} {L : GFr} {fr : T AV} {D : Nat → Bool} (h : FR Z om L fr) (hc : cleanL D L = true) : FR Z (om.cut D) L fr := fun k v e =>
  let ⟨a, h1, h2⟩ := h k v e
  ⟨a, h1, h2.cut (cleanL_at hc e)⟩
/-- names below 10 are those that came in: they stay -/
def pins (HG' : GHp) : GHp → Bool
  | [] => true
  | p :: r => (Nat.ble 10 p.1 || (lkP HG' p.1).isSome) && pins HG' r
theorem pins_at {HG' : GHp} : ∀ {HG : GHp}, pins HG' HG = true → ∀ g, g < 10 → (lkP HG g).isSome = true → (lkP HG' g).isSome = true
  | [], _, g, _, h => by cases h
  | p :: r, h, g, hg, e => by
    rw [pins, Bool.and_eq_true, Bool.or_eq_true] at h
    rw [lkP_cons] at e
    split at e
    · rename_i c
      rcases h.1 with h1 | h1
      · have := Nat.le_of_ble_eq_true h1; omega
      · rw [← c]; exact h1
    · exact pins_at h.2 g hg e
theorem Ext.less {Z : ZM} {om : Om} {HG HG' : GHp} {H : Heap} (hr : GRel Z om HG' H) (k : HLe HG HG') (hp : pins HG HG' = true) : Ext Z om HG' H Z (om.cut HG.D) HG H := ⟨Nat.le_refl _, .refl _, fun _ _ _ => ⟨rfl, rfl⟩, fun b _ h => by
  obtain ⟨g, e, f⟩ := h
  refine ⟨g, k.isSome e, ?_⟩
  rcases f with f | ⟨b', blk, f1, f2⟩
  · exact .inl (idOf_cut f)
  · exact .inr ⟨b', blk, idOf_cut f1, f2⟩, fun g b hg e => by
  have hs : (lkP HG' g).isSome = true := by
    cases hx : lkP HG' g with
    | none => rw [hr.dom g hx] at e; cases e
    | some _ => rfl
  unfold Om.cut GHp.D
  rw [if_pos (pins_at hp g hg hs)]
  exact e, fun b _ h => let ⟨g, e, f⟩ := h; ⟨g, k.isSome e, idOf_cut f⟩, fun _ _ h k => absurd h k⟩
def LLe (L L' : GFr) : Prop := ∀ k v, lkP L k = some v → lkP L' k = some v
theorem FR.less {Z : ZM} {om : Om} {L L' : GFr} {fr : T AV} (h : FR Z om L' fr) (k : LLe L L') : FR Z om L fr := fun i v e => h i v (k i v e)

section
variable (A : AProg)
def WpG (c : AC) (L : GFr) (HG : GHp) (Q : AE → GFr → GHp → Prop) : Prop :=
  ∀ Z om fr H, GRel Z om HG H → FR Z om L fr → Wp A c fr H fun e fr' H' => ∃ Z' om' L' HG', GRel Z' om' HG' H' ∧ FR Z' om' L' fr' ∧ Ext Z om HG H Z' om' HG' H' ∧ Q e L' HG'
def WpOpsG (l : List AOper) (L : GFr) (HG : GHp) (Q : GFr → GHp → Prop) : Prop :=
  ∀ Z om fr H, GRel Z om HG H → FR Z om L fr → WpOps A l fr H fun fr' H' => ∃ Z' om' L' HG', GRel Z' om' HG' H' ∧ FR Z' om' L' fr' ∧ Ext Z om HG H Z' om' HG' H' ∧ Q L' HG'
def WpCallG (f : Nat) (vs : List GV) (HG : GHp) (Q : GV → GHp → Prop) : Prop :=
  ∀ Z om as H, GRel Z om HG H → VRs Z om vs as → WpCall A f as H fun a H' => ∃ Z' om' v HG', GRel Z' om' HG' H' ∧ VR Z' om' v a ∧ Ext Z om HG H Z' om' HG' H' ∧ (∀ g b, om g = some (.box b) → om' g = some (.box b)) ∧ Q v HG'
end
section
variable {A : AProg} {L : GFr} {HG : GHp}
theorem WpG.mono {c : AC} {Q Q' : AE → GFr → GHp → Prop} (h : WpG A c L HG Q) (k : ∀ e L H, Q e L H → Q' e L H) : WpG A c L HG Q' := fun Z om fr H hr hf =>
  (h Z om fr H hr hf).mono fun _ _ _ ⟨Z', om', L', HG', a, b, c, d⟩ => ⟨Z', om', L', HG', a, b, c, k _ _ _ d⟩
theorem WpOpsG.mono {l : List AOper} {Q Q' : GFr → GHp → Prop} (h : WpOpsG A l L HG Q) (k : ∀ L H, Q L H → Q' L H) : WpOpsG A l L HG Q' := fun Z om fr H hr hf =>
  (h Z om fr H hr hf).mono fun _ _ ⟨Z', om', L', HG', a, b, c, d⟩ => ⟨Z', om', L', HG', a, b, c, k _ _ d⟩
theorem WpCallG.mono {f : Nat} {vs : List GV} {Q Q' : GV → GHp → Prop} (h : WpCallG A f vs HG Q) (k : ∀ v H, Q v H → Q' v H) : WpCallG A f vs HG Q' := fun Z om fr H hr hf =>
  (h Z om fr H hr hf).mono fun _ _ ⟨Z', om', L', HG', a, b, c, e, d⟩ => ⟨Z', om', L', HG', a, b, c, e, k _ _ d⟩
/-- names that nobody needs any more go -/
theorem WpG.less {c : AC} {L' : GFr} {HG' : GHp} {Q : AE → GFr → GHp → Prop} (hl : LLe L' L) (hh : HLe HG' HG) (h1 : cleanL HG'.D L' = true) (h2 : cleanH HG'.D HG' = true) (h3 : pins HG' HG = true) (h : WpG A c L' HG' Q) : WpG A c L HG Q := fun Z om fr H hr hf =>
  (h Z _ fr H (hr.less hh h2) ((hf.less hl).cut h1)).mono fun _ _ _ ⟨Z', om', L', HG', a, b, c, d⟩ => ⟨Z', om', L', HG', a, b, (Ext.less hr hh h3).trans c, d⟩
theorem WpOpsG.less {l : List AOper} {L' : GFr} {HG' : GHp} {Q : GFr → GHp → Prop} (hl : LLe L' L) (hh : HLe HG' HG) (h1 : cleanL HG'.D L' = true) (h2 : cleanH HG'.D HG' = true) (h3 : pins HG' HG = true) (h : WpOpsG A l L' HG' Q) : WpOpsG A l L HG Q := fun Z om fr H hr hf =>
  (h Z _ fr H (hr.less hh h2) ((hf.less hl).cut h1)).mono fun _ _ ⟨Z', om', L', HG', a, b, c, d⟩ => ⟨Z', om', L', HG', a, b, (Ext.less hr hh h3).trans c, d⟩
theorem WpG.skip {Q : AE → GFr → GHp → Prop} (h : Q .nm L HG) : WpG A .skip L HG Q := fun Z om _ H hr hf => Wp.skip ⟨Z, om, L, HG, hr, hf, .refl _ _ _ _, h⟩
theorem WpG.exit {id : Nat} {Q : AE → GFr → GHp → Prop} (h : Q (.ex id) L HG) : WpG A (.exit id) L HG Q := fun Z om _ H hr hf => Wp.exit ⟨Z, om, L, HG, hr, hf, .refl _ _ _ _, h⟩
theorem WpG.ret {Q : AE → GFr → GHp → Prop} (h : Q .rt L HG) : WpG A .ret L HG Q := fun Z om _ H hr hf => Wp.ret ⟨Z, om, L, HG, hr, hf, .refl _ _ _ _, h⟩
theorem WpG.reg {id : Nat} {l : List AOper} {Q : AE → GFr → GHp → Prop} (h : WpOpsG A l L HG (Q .nm)) : WpG A (.reg id false l) L HG Q := fun Z om fr H hr hf =>
  Wp.reg (h Z om fr H hr hf)
def thenG (A : AProg) (b : AC) (Q : AE → GFr → GHp → Prop) : AE → GFr → GHp → Prop
  | .nm, L, HG => WpG A b L HG Q
  | e, L, HG => Q e L HG
theorem WpG.seq {a b : AC} {Q : AE → GFr → GHp → Prop} (h : WpG A a L HG (thenG A b Q)) : WpG A (.seq a b) L HG Q := fun Z om fr H hr hf => by
  refine Wp.seq ((h Z om fr H hr hf).mono ?_)
  rintro e fr' H' ⟨Z', om', L', HG', a, b, c, d⟩
  cases e with
  | nm =>
    refine Wp.mono ((show WpG A _ L' HG' Q from d) Z' om' fr' H' a b) ?_
    rintro e fr2 H2 ⟨Z2, om2, L2, HG2, a2, b2, c2, d2⟩
    exact ⟨Z2, om2, L2, HG2, a2, b2, c.trans c2, d2⟩
  | ex i => exact ⟨Z', om', L', HG', a, b, c, d⟩
  | rt => exact ⟨Z', om', L', HG', a, b, c, d⟩
theorem WpG.cond {x : AX} {a b : AC} {Q : AE → GFr → GHp → Prop} {q : Bool} (hx : lkGX L x = some (.v (.bool q))) (ha : q = true → WpG A a L HG Q) (hb : q = false → WpG A b L HG Q) : WpG A (.cond x a b) L HG Q := fun Z om fr H hr hf => by
  obtain ⟨v, h1, h2⟩ := hf.x hx
  obtain rfl := h2.v_inv
  exact Wp.cond h1 (fun e => ha e Z om fr H hr hf) (fun e => hb e Z om fr H hr hf)
def blockG (id : Nat) (Q : AE → GFr → GHp → Prop) : AE → GFr → GHp → Prop
  | .ex i, L, H => if i = id then Q .nm L H else Q (.ex i) L H
  | e, L, H => Q e L H
theorem WpG.block {id : Nat} {c : AC} {Q : AE → GFr → GHp → Prop} (h : WpG A c L HG (blockG id Q)) : WpG A (.block id c) L HG Q := fun Z om fr H hr hf => by
  refine Wp.block ((h Z om fr H hr hf).mono ?_)
  rintro e fr' H' ⟨Z', om', L', HG', a, b, c, d⟩
  cases e with
  | nm => exact ⟨Z', om', L', HG', a, b, c, d⟩
  | rt => exact ⟨Z', om', L', HG', a, b, c, d⟩
  | ex i =>
    show if i = id then _ else _
    by_cases hi : i = id
    · rw [if_pos hi]; exact ⟨Z', om', L', HG', a, b, c, by have d' : (if i = id then Q .nm L' HG' else Q (.ex i) L' HG') := d; rwa [if_pos hi] at d'⟩
    · rw [if_neg hi]; exact ⟨Z', om', L', HG', a, b, c, by have d' : (if i = id then Q .nm L' HG' else Q (.ex i) L' HG') := d; rwa [if_neg hi] at d'⟩
/-- what is written out is there -/
def hasP {β : Type} (X : List (Nat × β)) : List (Nat × β) → Prop
  | [] => True
  | p :: r => lkP X p.1 = some p.2 ∧ hasP X r
theorem hasP_le {β : Type} {X : List (Nat × β)} : ∀ {l : List (Nat × β)}, hasP X l → ∀ k v, lkP l k = some v → lkP X k = some v
  | [], _, k, v, e => by cases e
  | p :: r, h, k, v, e => by
    rw [lkP_cons] at e
    split at e
    · rename_i hk; subst hk; cases e; exact h.1
    · exact hasP_le h.2 k v e
def loopG (next : GFr → GHp → Prop) (Q : AE → GFr → GHp → Prop) : AE → GFr → GHp → Prop
  | .nm, L, H => next L H
  | e, L, H => Q e L H
theorem WpG.loop {S : Type} {c : AC} {Q : AE → GFr → GHp → Prop} (F : S → GFr) (G : S → GHp) (I : S → Prop) (m : S → Nat)
    (hcl : ∀ s, cleanL (G s).D (F s) = true ∧ cleanH (G s).D (G s) = true)
    (hstep : ∀ s, I s → WpG A c (F s) (G s) (loopG (fun L' H' => ∃ s', m s' < m s ∧ I s' ∧ hasP L' (F s') ∧ hasP H' (G s') ∧ pins (G s') H' = true) Q))
    (s : S) (h0 : I s) (hfr : hasP L (F s)) (hh : hasP HG (G s)) (hpin : pins (G s) HG = true) : WpG A (.loop c) L HG Q := by
  refine WpG.less (L' := F s) (HG' := G s) (hasP_le hfr) (hasP_le hh) (hcl s).1 (hcl s).2 hpin ?_
  clear hfr hh hpin
  suffices H0 : ∀ (k : Nat) (s : S), m s < k → I s → WpG A (.loop c) (F s) (G s) Q from H0 _ s (Nat.lt_succ_self _) h0
  intro k
  induction k with
  | zero => intro s h; omega
  | succ k ih =>
    intro s hk hI Z om fr H hr hf
    have hs := hstep s hI Z om fr H hr hf
    obtain ⟨n, e, f, f0, H', h1, h2, h3⟩ := hs
    obtain ⟨Z', om', L', HG', a, b, c', d⟩ := h3
    cases e with
    | nm =>
      obtain ⟨s', g1, g2, g3, g4, g5⟩ := d
      have hw := ih s' (by omega) g2 Z' _ f H' (a.less (hasP_le g4) (hcl s').2) (((b.less (hasP_le g3)).cut (hcl s').1).le h2)
      obtain ⟨n', e, g, g0, H2, k1, k2, Z2, om2, L2, HG2, a2, b2, c2, d2⟩ := hw
      obtain ⟨f', r1, r2⟩ := exec_le (A := A) (Nat.le_max_left n n') _ _ _ _ _ _ _ (FLe.refl _) h1
      obtain ⟨g', s1, s2⟩ := exec_le (A := A) (Nat.le_max_right n n') _ _ _ _ _ _ _ r2 k1
      refine ⟨max n n' + 1, e, g', g0, H2, ?_, k2.trans s2, Z2, om2, L2, HG2, a2, b2, c'.trans ((Ext.less a (hasP_le g4) g5).trans c2), d2⟩
      show execB A (exec A (max n n')) _ _ H = _
      simp only [execB, r1, s1]
    | ex i =>
      refine ⟨n + 1, .ex i, f, f0, H', ?_, h2, Z', om', L', HG', a, b, c', d⟩
      show execB A (exec A n) _ _ H = _
      simp only [execB, h1]
    | rt =>
      refine ⟨n + 1, .rt, f, f0, H', ?_, h2, Z', om', L', HG', a, b, c', d⟩
      show execB A (exec A n) _ _ H = _
      simp only [execB, h1]
theorem WpOpsG.nil {Q : GFr → GHp → Prop} (h : Q L HG) : WpOpsG A [] L HG Q := fun Z om _ _ hr hf => WpOps.nil ⟨Z, om, L, HG, hr, hf, .refl _ _ _ _, h⟩
/-- one operation, and what is behind it -/
theorem WpOpsG.step {d : Option Nat} {o : AOp} {l : List AOper} {L1 : GFr} {HG1 : GHp} {v : GV} {Q : GFr → GHp → Prop}
    (h : ∀ Z om fr H, GRel Z om HG H → FR Z om L fr → WpOp A o fr H fun a H' => ∃ Z' om', GRel Z' om' HG1 H' ∧ FR Z' om' L1 fr ∧ VR Z' om' v a ∧ Ext Z om HG H Z' om' HG1 H')
    (k : WpOpsG A l (putP L1 d v) HG1 Q) : WpOpsG A (⟨d, o, none⟩ :: l) L HG Q := fun Z om fr H hr hf => by
  refine WpOps.cons rfl ((h Z om fr H hr hf).mono ?_)
  rintro a H' ⟨Z', om', h1, h2, h3, h4⟩
  refine (k Z' om' _ H' h1 (h2.put h3 d)).mono ?_
  rintro fr' H2 ⟨Z2, om2, L2, HG2, a2, b2, c2, d2⟩
  exact ⟨Z2, om2, L2, HG2, a2, b2, h4.trans c2, d2⟩
/-- one that does nothing to the heap -/
theorem WpOpsG.pure {d : Option Nat} {o : AOp} {l : List AOper} {v : GV} {Q : GFr → GHp → Prop}
    (h : ∀ Z om fr H, GRel Z om HG H → FR Z om L fr → ∃ a, evOp (fun _ _ _ => none) o fr H = some (a, H) ∧ VR Z om v a)
    (k : WpOpsG A l (putP L d v) HG Q) : WpOpsG A (⟨d, o, none⟩ :: l) L HG Q :=
  WpOpsG.step (fun Z om fr H hr hf => let ⟨_, h1, h2⟩ := h Z om fr H hr hf; WpOp.eval h1 ⟨Z, om, hr, hf, h2, .refl _ _ _ _⟩) k
end
end Go.AM
