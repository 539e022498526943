/- The machine over plain data: rules for each operation, calls. No condition. -/
import Derived.Test.YtkohanehgndmhaaGM3
set_option linter.all false
namespace Go.AM
/-! ## What one makes and writes -/
def Om.set (om : Om) (g : Nat) (l : OL) : Om := fun h => if h = g then some l else om h
theorem Om.set_self (om : Om) (g : Nat) (l : OL) : om.set g l g = some l := if_pos rfl
theorem Om.set_ne {om : Om} {g h : Nat} {l : OL} (n : h ≠ g) : om.set g l h = om h := if_neg n
theorem BR.keep {Z Z' : ZM} {om om' : Om} {H H' : Heap} {g : Nat} {blk : GBlk} (h : BR Z om H g blk) (ho : om' g = om g) (hb : ∀ b, idOf om g = some b → H'.blks.get b = H.blks.get b) (hv : ∀ v a, VR Z om v a → VR Z' om' v a) (hz : ZLe Z Z') : BR Z' om' H' g blk := by
  have hid : ∀ l b, om g = some l → l.id = some b → H'.blks.get b = H.blks.get b := fun l b e e' => hb b (by unfold idOf; rw [e]; exact e')
  cases h with
  | box h1 h2 h3 h4 h5 => exact .box (by rw [ho]; exact h1) (by rw [hid _ _ h1 rfl]; exact h2) h3 h4 fun i c a e f => hv _ _ (h5 i c a e f)
  | nil h1 hq => exact .nil (by rw [ho]; exact h1) hq
  | arr h1 h2 h3 h4 h5 h6 h7 h8 => exact .arr (by rw [ho]; exact h1) (by rw [hid _ _ h1 rfl]; exact h2) h3 h4 h5 h6 h7 (h8.mono hz)
theorem isSome_cons {β : Type} {g h : Nat} {x : β} {r : List (Nat × β)} (e : (lkP ((g, x) :: r) h).isSome = true) : h = g ∨ (lkP r h).isSome = true := by
  rw [lkP_cons] at e
  split at e
  · rename_i hg; exact .inl hg.symm
  · exact .inr e
theorem isSome_cons_of {β : Type} {g h : Nat} {x : β} {r : List (Nat × β)} (e : (lkP r h).isSome = true) : (lkP ((g, x) :: r) h).isSome = true := by
  rw [lkP_cons]; split
  · rfl
  · exact e
theorem idOf_set {om : Om} {g : Nat} {l : OL} : idOf (om.set g l) g = l.id := by unfold idOf; rw [Om.set_self]; rfl
theorem idOf_set_ne {om : Om} {g h : Nat} {l : OL} (n : h ≠ g) : idOf (om.set g l) h = idOf om h := by unfold idOf; rw [Om.set_ne n]
section
variable {Z : ZM} {om : Om} {HG : GHp} {H : Heap}
theorem GRel.old (h : GRel Z om HG H) {g b : Nat} (e : (lkP HG g).isSome = true) (i : idOf om g = some b) : b < H.next := (h.zsep g b e i).2
theorem GRel.fresh_om (h : GRel Z om HG H) {g : Nat} (e : lkP HG g = none) : om g = none := h.dom g e
theorem Om.le_set (om : Om) (g : Nat) (l : OL) (e : om g = none) : ∀ h x, om h = some x → om.set g l h = some x := fun h x k => by
  unfold Om.set
  split
  · rename_i c; subst c; rw [e] at k; cases k
  · exact k
/-- a new block of one's own -/
theorem GRel.alloc (h : GRel Z om HG H) {g : Nat} (e : lkP HG g = none) {es : Nat} {cs : List AV} {l : OL} {nb : GBlk} (hl : l.id = some H.next ∨ l.id = none)
    (hn : BR Z (om.set g l) (H.alloc es cs) g nb) : GRel Z (om.set g l) ((g, nb) :: HG) (H.alloc es cs) ∧ Ext Z om HG H Z (om.set g l) ((g, nb) :: HG) (H.alloc es cs) := by
  have hg : ∀ h', (lkP HG h').isSome = true → h' ≠ g := fun h' i c => by subst c; rw [e] at i; cases i
  have hne : ∀ b, b < H.next → (H.alloc es cs).blks.get b = H.blks.get b := fun b hb => Heap.alloc_ne (by omega)
  have hnew : (H.alloc es cs).blks.get H.next = some ⟨cs, true, none, es⟩ := Heap.alloc_self rfl
  have hnx : (H.alloc es cs).next = H.next + 1 := rfl
  refine ⟨⟨fun g' e' => ?_, fun b zb hz => ?_, fun g' blk e' => ?_, fun g1 g2 b n e1 e2 i1 i2 => ?_, fun g' b e' i => ?_, fun g' b blk m e' i hb hm => ?_⟩, ⟨by omega, .refl _, fun b hb _ => ⟨hne b hb, rfl⟩, fun b hb hf => ?_, fun h' b _ k => Om.le_set _ _ _ (h.dom g e) _ _ k, fun b hb ho => ?_, fun _ _ h k => absurd h k⟩⟩
  · rw [lkP_cons] at e'
    split at e'
    · cases e'
    · rename_i c; rw [Om.set_ne (fun x => c x.symm)]; exact h.dom g' e'
  · obtain ⟨a1, blk, a2, a3⟩ := h.zok b zb hz
    exact ⟨by omega, blk, by rw [hne b a1]; exact a2, a3⟩
  · rw [lkP_cons] at e'
    split at e'
    · rename_i c; cases e'; subst c; exact hn
    · rename_i c
      refine (h.own g' blk e').keep (Om.set_ne (fun x => c x.symm)) (fun b hb => hne b (h.old (by rw [e']; rfl) hb)) (fun v a hv => hv.mono (.refl _) (Om.le_set _ _ _ (h.dom g e))) (.refl _)
  · rcases isSome_cons e1 with rfl | f1
    · rcases isSome_cons e2 with rfl | f2
      · exact n rfl
      · rw [idOf_set] at i1
        rw [idOf_set_ne (fun c => n c.symm)] at i2
        rcases hl with hl | hl
        · rw [hl] at i1; cases i1; have := h.old f2 i2; omega
        · rw [hl] at i1; cases i1
    · have e1 := f1
      rw [idOf_set_ne (hg _ e1)] at i1
      rcases isSome_cons e2 with rfl | e2
      · rw [idOf_set] at i2
        rcases hl with hl | hl
        · rw [hl] at i2; cases i2; have := h.old f1 i1; omega
        · rw [hl] at i2; cases i2
      · rw [idOf_set_ne (hg _ e2)] at i2
        exact h.sep g1 g2 b n e1 e2 i1 i2
  · rcases isSome_cons e' with rfl | e'
    · rw [idOf_set] at i
      rcases hl with hl | hl
      · rw [hl] at i; cases i
        refine ⟨?_, by omega⟩
        cases hz : Z H.next with
        | none => rfl
        | some zb => have := (h.zok _ _ hz).1; omega
      · rw [hl] at i; cases i
    · rw [idOf_set_ne (hg _ e')] at i
      have := h.zsep g' b e' i
      exact ⟨this.1, by omega⟩
  · rcases isSome_cons e' with rfl | e'
    · rw [idOf_set] at i
      rcases hl with hl | hl
      · rw [hl] at i; cases i
        rw [hnew] at hb; cases hb; cases hm
      · rw [hl] at i; cases i
    · rw [idOf_set_ne (hg _ e')] at i
      rw [hne b (h.old e' i)] at hb
      obtain ⟨a1, a2, a3⟩ := h.mate g' b blk m e' i hb hm
      refine ⟨by omega, a2, fun g2 e2 i2 => ?_⟩
      rcases isSome_cons e2 with rfl | e2
      · rw [idOf_set] at i2
        rcases hl with hl | hl
        · rw [hl] at i2; cases i2; omega
        · rw [hl] at i2; cases i2
      · rw [idOf_set_ne (hg _ e2)] at i2
        exact a3 g2 e2 i2
  · obtain ⟨g', e', hf⟩ := hf
    rcases isSome_cons e' with rfl | e'
    · rw [idOf_set] at hf
      rcases hl with hl | hl
      · rw [hl] at hf
        rcases hf with hf | ⟨b', blk, hf, hf2, hf3⟩
        · cases hf; omega
        · cases hf; rw [hnew] at hf2; cases hf2; cases hf3
      · rw [hl] at hf
        rcases hf with hf | ⟨b', blk, hf, _⟩ <;> cases hf
    · rw [idOf_set_ne (hg _ e')] at hf
      refine ⟨g', e', ?_⟩
      rcases hf with hf | ⟨b', blk, hf, hf2, hf3⟩
      · exact .inl hf
      · exact .inr ⟨b', blk, hf, by rw [← hne b' (h.old e' hf)]; exact hf2, hf3⟩
  · obtain ⟨g', e', hf⟩ := ho
    rcases isSome_cons e' with rfl | e'
    · rw [idOf_set] at hf
      rcases hl with hl | hl
      · rw [hl] at hf; cases hf; omega
      · rw [hl] at hf; cases hf
    · rw [idOf_set_ne (hg _ e')] at hf
      exact ⟨g', e', hf⟩
/-- a block of one's own written anew: its elder goes -/
theorem GRel.upd (h : GRel Z om HG H) {g b : Nat} (e : (lkP HG g).isSome = true) (i : idOf om g = some b) {blk : Blk} (hb : H.blks.get b = some blk) {cs : List AV} {nb : GBlk}
    (hn : BR Z om (H.upd b blk cs) g nb) : GRel Z om ((g, nb) :: HG) (H.upd b blk cs) ∧ Ext Z om HG H Z om ((g, nb) :: HG) (H.upd b blk cs) := by
  have hnx : (H.upd b blk cs).next = H.next := Heap.upd_next ..
  have hself : (H.upd b blk cs).blks.get b = some ⟨cs, true, none, blk.es⟩ := Heap.upd_self rfl
  have hne : ∀ c, c ≠ b → blk.mate ≠ some c → (H.upd b blk cs).blks.get c = H.blks.get c := fun c h1 h2 => Heap.upd_ne h1 h2
  have hm := fun m (hm : blk.mate = some m) => h.mate g b blk m e i hb hm
  have hother : ∀ g' b', g' ≠ g → (lkP HG g').isSome = true → idOf om g' = some b' → (H.upd b blk cs).blks.get b' = H.blks.get b' := fun g' b' n e' i' => by
    refine hne b' (fun c => ?_) (fun c => ?_)
    · subst c; exact h.sep g' g _ n e' e i' i
    · exact (hm b' c).2.2 g' e' i'
  refine ⟨⟨fun g' e' => ?_, fun z zb hz => ?_, fun g' blk' e' => ?_, fun g1 g2 b' n e1 e2 i1 i2 => ?_, fun g' b' e' i' => ?_, fun g' b' blk' m e' i' hb' hm' => ?_⟩, ⟨by omega, .refl _, fun b' hb' hf => ?_, fun b' hb' hf => ?_, fun _ _ _ k => k, fun b' _ ho => ?_, fun _ _ h k => absurd h k⟩⟩
  · rw [lkP_cons] at e'
    split at e'
    · cases e'
    · exact h.dom g' e'
  · obtain ⟨a1, blk', a2, a3⟩ := h.zok z zb hz
    refine ⟨by omega, blk', ?_, a3⟩
    rw [hne z (fun c => ?_) (fun c => ?_)]; exact a2
    · subst c; rw [(h.zsep g z e i).1] at hz; cases hz
    · rw [(hm z c).2.1] at hz; cases hz
  · rw [lkP_cons] at e'
    split at e'
    · rename_i c; cases e'; subst c; exact hn
    · rename_i c
      exact (h.own g' blk' e').keep rfl (fun b' hb' => hother g' b' (fun x => c x.symm) (by rw [e']; rfl) hb') (fun v a hv => hv) (.refl _)
  · have f1 : (lkP HG g1).isSome = true := by rcases isSome_cons e1 with rfl | e1; exact e; exact e1
    have f2 : (lkP HG g2).isSome = true := by rcases isSome_cons e2 with rfl | e2; exact e; exact e2
    exact h.sep g1 g2 b' n f1 f2 i1 i2
  · have f1 : (lkP HG g').isSome = true := by rcases isSome_cons e' with rfl | e1; exact e; exact e1
    have := h.zsep g' b' f1 i'
    exact ⟨this.1, by omega⟩
  · have f1 : (lkP HG g').isSome = true := by rcases isSome_cons e' with rfl | e1; exact e; exact e1
    by_cases hg : g' = g
    · subst hg
      rw [i] at i'; cases i'
      rw [hself] at hb'; cases hb'; cases hm'
    · rw [hother g' b' hg f1 i'] at hb'
      obtain ⟨a1, a2, a3⟩ := h.mate g' b' blk' m f1 i' hb' hm'
      refine ⟨by omega, a2, fun g2 e2 i2 => a3 g2 ?_ i2⟩
      rcases isSome_cons e2 with rfl | e2
      · exact e
      · exact e2
  · refine ⟨hne b' (fun c => ?_) (fun c => ?_), rfl⟩
    · subst c; exact hf ⟨g, e, .inl i⟩
    · exact hf ⟨g, e, .inr ⟨b, blk, i, hb, c⟩⟩
  · obtain ⟨g', e', hf⟩ := hf
    have f1 : (lkP HG g').isSome = true := by rcases isSome_cons e' with rfl | e1; exact e; exact e1
    refine ⟨g', f1, ?_⟩
    rcases hf with hf | ⟨b2, blk2, hf, hf2, hf3⟩
    · exact .inl hf
    · by_cases hg : g' = g
      · subst hg
        rw [i] at hf; cases hf
        rw [hself] at hf2; cases hf2; cases hf3
      · rw [hother g' b2 hg f1 hf] at hf2
        exact .inr ⟨b2, blk2, hf, hf2, hf3⟩
  · obtain ⟨g', e', hf⟩ := ho
    exact ⟨g', by rcases isSome_cons e' with rfl | e1; exact e; exact e1, hf⟩
end
section
variable {A : AProg} {L : GFr} {HG : GHp} {l : List AOper} {Q : GFr → GHp → Prop}
theorem G.box {d g : Nat} {x : AX} {v : GV} {cs : List GV} (hx : lkGX L x = some v) (hv : v.cs = some cs) (hg : (lkP HG g).isNone = true) (k : WpOpsG A l ((d, .bptr g 0) :: L) ((g, .box cs) :: HG) Q) : WpOpsG A (⟨some d, .box x, none⟩ :: l) L HG Q :=
  WpOpsG.step (d := some d) (fun Z om fr H hr hf => by
    obtain ⟨u, h1, h2⟩ := hf.x hx
    obtain ⟨as, a1, a2, a3⟩ := h2.cs hv
    have hg' : lkP HG g = none := by simpa using hg
    have hle := Om.le_set om g (.box H.next) (hr.dom g hg')
    obtain ⟨r1, r2⟩ := hr.alloc hg' (es := 0) (cs := as) (l := .box H.next) (nb := .box cs) (.inl rfl)
      (.box (Om.set_self ..) (Heap.alloc_self rfl) rfl a2 fun i c a e f => (a3 i c a e f).mono (.refl _) hle)
    exact WpOp.eval (by simp only [evOp, h1, a1]) ⟨Z, _, r1, hf.mono (.refl _) hle, .bptr (Om.set_self ..), r2⟩) k
theorem GRel.box {Z : ZM} {om : Om} {H : Heap} (h : GRel Z om HG H) {g : Nat} {cs : List GV} (e : lkP HG g = some (.box cs)) : ∃ b blk, om g = some (.box b) ∧ H.blks.get b = some blk ∧ blk.wr = true ∧ cs.length = blk.cells.length ∧ ∀ (i : Nat) (c : GV) (a : AV), cs[i]? = some c → blk.cells[i]? = some a → VR Z om c a := by
  cases h.own g _ e with
  | box h1 h2 h3 h4 h5 => exact ⟨_, _, h1, h2, h3, h4, h5⟩
theorem G.load1B {d g off : Nat} {x : AX} {cs : List GV} {v : GV} (hx : lkGX L x = some (.bptr g off)) (hg : lkP HG g = some (.box cs)) (hv : cs[off]? = some v) (k : WpOpsG A l ((d, v) :: L) HG Q) : WpOpsG A (⟨some d, .load1 x, none⟩ :: l) L HG Q :=
  WpOpsG.pure (d := some d) (fun Z om fr H hr hf => by
    obtain ⟨u, h1, h2⟩ := hf.x hx
    obtain ⟨b, hb, rfl⟩ := h2.bptr_inv
    obtain ⟨b', blk, c1, c2, c3, c4, c5⟩ := hr.box hg
    rw [hb] at c1; cases c1
    have hi : off < blk.cells.length := by rw [← c4]; exact (List.getElem?_eq_some_iff.1 hv).1
    have := takeN_of (cells := blk.cells) (off := off) (n := 1) (ws := [blk.cells[off]]) rfl (fun i hi' => by
      obtain rfl : i = 0 := by omega
      simp [hi])
    exact ⟨blk.cells[off], by simp only [evOp, h1, getN, c2, this], c5 off v _ hv (by simp [hi])⟩) k
theorem G.loadNB {d g off n : Nat} {x : AX} {cs vs : List GV} (hx : lkGX L x = some (.bptr g off)) (hg : lkP HG g = some (.box cs)) (hv : takeG n (cs.drop off) = some vs) (k : WpOpsG A l ((d, .agg vs) :: L) HG Q) : WpOpsG A (⟨some d, .loadN n x, none⟩ :: l) L HG Q :=
  WpOpsG.pure (d := some d) (fun Z om fr H hr hf => by
    obtain ⟨u, h1, h2⟩ := hf.x hx
    obtain ⟨b, hb, rfl⟩ := h2.bptr_inv
    obtain ⟨b', blk, c1, c2, c3, c4, c5⟩ := hr.box hg
    rw [hb] at c1; cases c1
    obtain ⟨ws, g1, g2, g3⟩ := takeG_ok (as := blk.cells.drop off) (P := VR Z om) hv (by simp [c4]) (fun i c a e f => c5 (off + i) c a (by simpa using e) (by simpa using f))
    exact ⟨.agg ws, by simp only [evOp, h1, getN, c2, g1], .agg g2 g3⟩) k
theorem G.storeB {n g off : Nat} {x y : AX} {v : GV} {cs vs cs' : List GV} (hx : lkGX L x = some (.bptr g off)) (hy : lkGX L y = some v) (hg : lkP HG g = some (.box cs)) (hv : v.cs = some vs) (hn : Nat.beq vs.length n = true) (hp : putG cs off vs = some cs')
    (k : WpOpsG A l L ((g, .box cs') :: HG) Q) : WpOpsG A (⟨none, .store n x y, none⟩ :: l) L HG Q :=
  WpOpsG.step (d := none) (v := .tup []) (fun Z om fr H hr hf => by
    obtain ⟨u, h1, h2⟩ := hf.x hx
    obtain ⟨b, hb, rfl⟩ := h2.bptr_inv
    obtain ⟨w, k1, k2⟩ := hf.x hy
    obtain ⟨ws, a1, a2, a3⟩ := k2.cs hv
    obtain ⟨b', blk, c1, c2, c3, c4, c5⟩ := hr.box hg
    rw [hb] at c1; cases c1
    obtain ⟨bs, e1, e2, e3⟩ := putG_ok hp c4 a2 c5 a3
    have hid : idOf om g = some b := by unfold idOf; rw [hb]; rfl
    obtain ⟨r1, r2⟩ := hr.upd (g := g) (by rw [hg]; rfl) hid c2 (cs := bs) (nb := .box cs') (.box hb (Heap.upd_self rfl) rfl e2 e3)
    have hl : ws.length = n := by rw [← a2]; exact Nat.eq_of_beq_eq_true hn
    exact WpOp.eval (by simp only [evOp, h1, k1, a1, if_pos hl, Heap.write_upd c2 c3 e1]) ⟨Z, om, r1, hf, .tup (as := []) rfl (fun i c a h => by cases i <;> cases h), r2⟩) k
/-! slices of one's own -/
theorem GRel.arr {Z : ZM} {om : Om} {H : Heap} (h : GRel Z om HG H) {g w : Nat} {full : Fl} {cs : List (List GV)} (e : lkP HG g = some (.arr full w cs)) :
    (om g = some .nil ∧ cs = []) ∨ ∃ b o cap ex blk, om g = some (.sl b o cs.length cap ex w) ∧ H.blks.get b = some blk ∧ blk.wr = true ∧ blk.es = w ∧ cs.length ≤ cap ∧ blk.cells.length = o + cap * w ∧ FlOk full ex cs.length cap ∧ ArrAt Z blk.cells o w cs := by
  cases h.own g _ e with
  | nil h1 _ => exact .inl ⟨h1, rfl⟩
  | arr h1 h2 h3 h4 h5 h6 h7 h8 => exact .inr ⟨_, _, _, _, _, h1, h2, h3, h4, h5, h6, h7, h8⟩
theorem GRel.nilF {Z : ZM} {om : Om} {H : Heap} (h : GRel Z om HG H) {g w : Nat} {full : Fl} {cs : List (List GV)} (e : lkP HG g = some (.arr full w cs)) (c : om g = some .nil) : FlOk full true 0 0 := by
  cases h.own g _ e with
  | nil h1 hq => exact hq
  | arr h1 => rw [c] at h1; cases h1
theorem G.lenO {d g w : Nat} {full : Fl} {x : AX} {cs : List (List GV)} (hx : lkGX L x = some (.osl g)) (hg : lkP HG g = some (.arr full w cs)) (k : WpOpsG A l ((d, .v (.int .i64 cs.length)) :: L) HG Q) : WpOpsG A (⟨some d, .len false x, none⟩ :: l) L HG Q :=
  WpOpsG.pure (d := some d) (fun Z om fr H hr hf => by
    obtain ⟨u, h1, h2⟩ := hf.x hx
    rcases hr.arr hg with ⟨c1, rfl⟩ | ⟨b, o, cap, ex, blk, c1, _⟩
    · rcases h2.osl_inv with ⟨_, _, _, _, _, _, e, rfl⟩ | ⟨e, rfl⟩
      · rw [c1] at e; cases e
      · exact ⟨.v (.int .i64 0), by simp only [evOp, h1], .pure (.v _)⟩
    · rcases h2.osl_inv with ⟨_, _, _, _, _, _, e, rfl⟩ | ⟨e, rfl⟩
      · rw [c1] at e; cases e; exact ⟨_, by simp only [evOp, h1], .pure (.v _)⟩
      · rw [c1] at e; cases e) k
theorem G.iaddrO {d g w : Nat} {full : Fl} {x i : AX} {cs : List (List GV)} {k' : IntKind} {m : Int} (hx : lkGX L x = some (.osl g)) (hg : lkP HG g = some (.arr full w cs)) (hi : lkGX L i = some (.v (.int k' m))) (h0 : 0 ≤ m) (hm : m < cs.length) (k : WpOpsG A l ((d, .eptr g m.toNat 0) :: L) HG Q) : WpOpsG A (⟨some d, .iaddr w x i, none⟩ :: l) L HG Q :=
  WpOpsG.pure (d := some d) (fun Z om fr H hr hf => by
    obtain ⟨u, h1, h2⟩ := hf.x hx
    obtain ⟨y, k1, k2⟩ := hf.x hi
    obtain rfl := k2.v_inv
    rcases hr.arr hg with ⟨c1, rfl⟩ | ⟨b, o, cap, ex, blk, c1, _⟩
    · simp at hm; omega
    · rcases h2.osl_inv with ⟨_, _, _, _, _, _, e, rfl⟩ | ⟨e, rfl⟩
      · rw [c1] at e; cases e
        refine ⟨.ptr b (o + m.toNat * w), by simp only [evOp, h1, k1, if_pos (And.intro h0 hm)], .eptr c1⟩
      · rw [c1] at e; cases e) k
theorem G.load1E {d g w i off : Nat} {full : Fl} {x : AX} {cs : List (List GV)} {c : List GV} {v : GV} (hx : lkGX L x = some (.eptr g i off)) (hg : lkP HG g = some (.arr full w cs)) (hc : cs[i]? = some c) (hv : c[off]? = some v) (k : WpOpsG A l ((d, v) :: L) HG Q) : WpOpsG A (⟨some d, .load1 x, none⟩ :: l) L HG Q :=
  WpOpsG.pure (d := some d) (fun Z om fr H hr hf => by
    obtain ⟨u, h1, h2⟩ := hf.x hx
    obtain ⟨b, o, len, cap, ex, w', hb, rfl⟩ := h2.eptr_inv
    rcases hr.arr hg with ⟨c1, rfl⟩ | ⟨b', o', cap', ex', blk, c1, c2, c3, c4, c5, c6, c7, c8⟩
    · simp at hc
    · rw [hb] at c1; cases c1
      obtain ⟨a, e1, e2⟩ := (c8 i c hc).2 off v hv
      have := takeN_of (cells := blk.cells) (off := o + i * w + off) (n := 1) (ws := [a]) rfl (fun j hi' => by
        obtain rfl : j = 0 := by omega
        simpa using e1)
      exact ⟨a, by simp only [evOp, h1, getN, c2, this], .pure e2⟩) k
theorem ArrAt.take {Z : ZM} {cells : List AV} {o w i off n : Nat} {cs : List (List GV)} {c vs : List GV} (h : ArrAt Z cells o w cs) (hc : cs[i]? = some c) (hv : takeG n (c.drop off) = some vs) :
    ∃ ws, takeN n (cells.drop (o + i * w + off)) = some ws ∧ vs.length = ws.length ∧ ∀ (i : Nat) (c : GV) (a : AV), vs[i]? = some c → ws[i]? = some a → PR Z c a := by
  obtain ⟨g1, g2⟩ := takeG_len hv
  have ht : ∀ j, j < n → ∃ y a, vs[j]? = some y ∧ cells[o + i * w + off + j]? = some a ∧ PR Z y a := fun j hj => by
    have hy : vs[j]? = some (vs[j]'(by omega)) := by simp [g1, hj]
    have := g2 j hj
    rw [List.getElem?_drop, hy] at this
    obtain ⟨a, ha, hp⟩ := (h i c hc).2 _ _ this
    exact ⟨_, a, hy, by rw [← ha]; congr 1; omega, hp⟩
  refine ⟨(List.range n).map fun j => (cells[o + i * w + off + j]?).getD (.tup []), takeN_of (by simp) (fun j hj => ?_), by simp [g1], fun j y a hy ha => ?_⟩
  · obtain ⟨_, a, _, h2, _⟩ := ht j hj
    simp [hj, h2]
  · have hj : j < n := by rw [← g1]; exact (List.getElem?_eq_some_iff.1 hy).1
    obtain ⟨y', a', h1, h2, h3⟩ := ht j hj
    rw [hy] at h1; cases h1
    simp [hj, h2] at ha
    subst ha
    exact h3
theorem G.loadNE {d g w i off n : Nat} {full : Fl} {x : AX} {cs : List (List GV)} {c vs : List GV} (hx : lkGX L x = some (.eptr g i off)) (hg : lkP HG g = some (.arr full w cs)) (hc : cs[i]? = some c) (hv : takeG n (c.drop off) = some vs) (k : WpOpsG A l ((d, .agg vs) :: L) HG Q) : WpOpsG A (⟨some d, .loadN n x, none⟩ :: l) L HG Q :=
  WpOpsG.pure (d := some d) (fun Z om fr H hr hf => by
    obtain ⟨u, h1, h2⟩ := hf.x hx
    obtain ⟨b, o, len, cap, ex, w', hb, rfl⟩ := h2.eptr_inv
    rcases hr.arr hg with ⟨c1, rfl⟩ | ⟨b', o', cap', ex', blk, c1, c2, c3, c4, c5, c6, c7, c8⟩
    · simp at hc
    · rw [hb] at c1; cases c1
      obtain ⟨ws, e1, e2, e3⟩ := c8.take hc hv
      exact ⟨.agg ws, by simp only [evOp, h1, getN, c2, e1], .pure (.agg e2 e3)⟩) k
mutual
/-- holds nothing of one's own -/
def GV.pl : GV → Bool
  | .agg cs => GV.plL cs
  | .tup cs => GV.plL cs
  | .fn _ cs => GV.plL cs
  | .ifc _ x => GV.pl x
  | .v _ => true
  | .fsl _ _ => true
  | .fptr _ _ => true
  | .any => true
  | _ => false
def GV.plL : List GV → Bool
  | [] => true
  | c :: cs => GV.pl c && GV.plL cs
end
theorem GV.plL_at : ∀ {cs : List GV} {i : Nat} {c : GV}, GV.plL cs = true → cs[i]? = some c → c.pl = true
  | [], i, c, _, h => by cases i <;> cases h
  | x :: cs, i, c, h, e => by
    rw [GV.plL, Bool.and_eq_true] at h
    cases i with
    | zero => cases e; exact h.1
    | succ i => exact GV.plL_at h.2 (by simpa using e)
theorem VR.toPR {Z : ZM} {om : Om} {g : GV} {a : AV} (h : VR Z om g a) (k : g.pl = true) : PR Z g a := by
  induction h with
  | pure h => exact h
  | agg h _ ih => exact .agg h fun i c a e f => ih i c a e f (GV.plL_at (by rwa [GV.pl] at k) e)
  | tup h _ ih => exact .tup h fun i c a e f => ih i c a e f (GV.plL_at (by rwa [GV.pl] at k) e)
  | fn h _ ih => exact .fn h fun i c a e f => ih i c a e f (GV.plL_at (by rwa [GV.pl] at k) e)
  | ifc _ ih => exact .ifc (ih (by rwa [GV.pl] at k))
  | osl h => simp [GV.pl] at k
  | onil h => simp [GV.pl] at k
  | bptr h => simp [GV.pl] at k
  | eptr h => simp [GV.pl] at k
  | any => exact .any
theorem putG_len : ∀ {cs : List GV} {o : Nat} {vs r : List GV}, putG cs o vs = some r → r.length = cs.length ∧ o + vs.length ≤ cs.length ∧ ∀ j, r[j]? = if o ≤ j ∧ j < o + vs.length then vs[j - o]? else cs[j]?
  | cs, 0, [], r, h => by
    have : r = cs := by cases cs <;> simpa [putG] using h.symm
    subst this
    exact ⟨rfl, by simp, fun j => by rw [if_neg (by simp)]⟩
  | [], 0, _ :: _, _, h => by simp [putG] at h
  | [], _ + 1, _, _, h => by simp [putG] at h
  | c :: cs, 0, v :: vs, r, h => by
    rw [putG] at h
    cases hr : putG cs 0 vs with
    | none => rw [hr] at h; cases h
    | some r' =>
      rw [hr] at h; cases h
      obtain ⟨h1, h2, h3⟩ := putG_len hr
      refine ⟨by simp [h1], by simp at h2 ⊢; omega, fun j => ?_⟩
      cases j with
      | zero => simp
      | succ j =>
        rw [List.getElem?_cons_succ, h3 j]
        by_cases hj : j < vs.length
        · rw [if_pos (by omega), if_pos (by simp; omega)]; simp
        · rw [if_neg (by omega), if_neg (by simp; omega)]; simp
  | c :: cs, o + 1, vs, r, h => by
    rw [putG] at h
    cases hr : putG cs o vs with
    | none => rw [hr] at h; cases h
    | some r' =>
      rw [hr] at h; cases h
      obtain ⟨h1, h2, h3⟩ := putG_len hr
      refine ⟨by simp [h1], by simp; omega, fun j => ?_⟩
      cases j with
      | zero => rw [if_neg (by omega)]; rfl
      | succ j =>
        rw [List.getElem?_cons_succ, h3 j]
        by_cases hj : o ≤ j ∧ j < o + vs.length
        · rw [if_pos hj, if_pos (by omega)]; congr 1; omega
        · rw [if_neg hj, if_neg (by omega)]; rfl
theorem putAt_ok : ∀ {cs : List AV} {o : Nat} {vs : List AV}, o + vs.length ≤ cs.length → ∃ r, putAt cs o vs = some r
  | cs, 0, [], _ => ⟨cs, by cases cs <;> rfl⟩
  | [], 0, _ :: _, h => by simp at h
  | [], _ + 1, _, h => by simp at h
  | c :: cs, 0, v :: vs, h => by
    obtain ⟨r, hr⟩ := putAt_ok (cs := cs) (o := 0) (vs := vs) (by simp at h ⊢; omega)
    exact ⟨v :: r, by simp [putAt, hr]⟩
  | c :: cs, o + 1, vs, h => by
    obtain ⟨r, hr⟩ := putAt_ok (cs := cs) (o := o) (vs := vs) (by simp at h; omega)
    exact ⟨c :: r, by simp [putAt, hr]⟩
theorem G.storeE {n g w i off : Nat} {full : Fl} {x y : AX} {v : GV} {cs : List (List GV)} {c vs c' : List GV} (hx : lkGX L x = some (.eptr g i off)) (hy : lkGX L y = some v) (hg : lkP HG g = some (.arr full w cs)) (hc : cs[i]? = some c) (hv : v.cs = some vs) (hn : Nat.beq vs.length n = true) (hpl : GV.plL vs = true) (hp : putG c off vs = some c')
    (k : WpOpsG A l L ((g, .arr full w (cs.set i c')) :: HG) Q) : WpOpsG A (⟨none, .store n x y, none⟩ :: l) L HG Q :=
  WpOpsG.step (d := none) (v := .tup []) (fun Z om fr H hr hf => by
    obtain ⟨u, h1, h2⟩ := hf.x hx
    obtain ⟨b, o, len, cap, ex, w', hb, rfl⟩ := h2.eptr_inv
    obtain ⟨q, k1, k2⟩ := hf.x hy
    obtain ⟨ws, a1, a2, a3⟩ := k2.cs hv
    have hlt : i < cs.length := (List.getElem?_eq_some_iff.1 hc).1
    rcases hr.arr hg with ⟨c1, rfl⟩ | ⟨b', o', cap', ex', blk, c1, c2, c3, c4, c5, c6, c7, c8⟩
    · simp at hc
    · rw [hb] at c1; cases c1
      obtain ⟨p1, p2, p3⟩ := putG_len hp
      have hcw := (c8 i c hc).1
      have hfit : o + i * w + off + ws.length ≤ blk.cells.length := by
        have h3 : (i + 1) * w ≤ cap * w := Nat.mul_le_mul_right w (by omega)
        rw [Nat.add_mul] at h3
        rw [c6]; omega
      obtain ⟨bs, e1⟩ := putAt_ok hfit
      obtain ⟨_, e2, e3⟩ := putAt_some e1
      have hid : idOf om g = some b := by unfold idOf; rw [hb]; rfl
      have hnew : ArrAt Z bs o w (cs.set i c') := by
        intro j d hd
        rw [List.getElem?_set] at hd
        by_cases hij : i = j
        · subst hij
          rw [if_pos rfl, if_pos hlt] at hd
          cases hd
          refine ⟨by rw [p1, hcw], fun k' y hy' => ?_⟩
          rw [p3] at hy'
          rw [e3]
          have hk' : k' < w := by
            split at hy'
            · omega
            · rw [← hcw]; exact (List.getElem?_eq_some_iff.1 hy').1
          by_cases hr' : off ≤ k' ∧ k' < off + vs.length
          · rw [if_pos hr'] at hy'
            rw [if_pos (by omega)]
            have hlt' : k' - off < ws.length := by omega
            refine ⟨ws[k' - off], ?_, (a3 _ _ _ hy' (by simp [hlt'])).toPR (GV.plL_at hpl hy')⟩
            have : o + i * w + k' - (o + i * w + off) = k' - off := by omega
            rw [this]; simp [hlt']
          · rw [if_neg hr'] at hy'
            rw [if_neg (by omega)]
            exact (c8 i c hc).2 k' y hy'
        · rw [if_neg hij] at hd
          refine ⟨(c8 j d hd).1, fun k' y hy' => ?_⟩
          rw [e3, if_neg ?_]
          · exact (c8 j d hd).2 k' y hy'
          · have hk' : k' < w := by rw [← (c8 j d hd).1]; exact (List.getElem?_eq_some_iff.1 hy').1
            intro hcon
            rcases Nat.lt_or_gt_of_ne hij with hlt2 | hlt2
            · have := Nat.mul_le_mul_right w (show i + 1 ≤ j by omega)
              rw [Nat.add_mul] at this; omega
            · have := Nat.mul_le_mul_right w (show j + 1 ≤ i by omega)
              rw [Nat.add_mul] at this; omega
      obtain ⟨r1, r2⟩ := hr.upd (g := g) (by rw [hg]; rfl) hid c2 (cs := bs) (nb := .arr full w (cs.set i c'))
        (.arr (blk := ⟨bs, true, none, blk.es⟩) (by rw [List.length_set]; exact hb) (Heap.upd_self rfl) rfl c4 (by simpa using c5) (by show bs.length = _; rw [e2, c6]) (by simpa using c7) hnew)
      have hl : ws.length = n := by rw [← a2]; exact Nat.eq_of_beq_eq_true hn
      exact WpOp.eval (by simp only [evOp, h1, k1, a1, if_pos hl, Heap.write_upd c2 c3 e1]) ⟨Z, om, r1, hf, .tup (as := []) rfl (fun i c a h => by cases i <;> cases h), r2⟩) k
end
end Go.AM
