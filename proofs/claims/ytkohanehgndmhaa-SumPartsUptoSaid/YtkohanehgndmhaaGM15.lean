/- The machine over plain data: rules for each operation, calls. No condition. -/
import Derived.Test.YtkohanehgndmhaaGM14
set_option linter.all false
namespace Go.AM
/-! ## What is one's own is lent for the time of a call: it reads as a value -/
/-- every block as it stands -/
def Zs (H : Heap) : ZM := fun b => if b < H.next then (H.blks.get b).map fun blk => ⟨blk.cells, blk.es⟩ else none
mutual
/-- holds no row -/
def GV.flat : GV → Bool
  | .v _ => true
  | .agg cs => GV.flatL cs
  | .tup cs => GV.flatL cs
  | .osl _ => true
  | .bptr _ _ => true
  | .any => true
  | _ => false
def GV.flatL : List GV → Bool
  | [] => true
  | c :: cs => GV.flat c && GV.flatL cs
end
theorem GV.flatL_at : ∀ {cs : List GV} {i : Nat} {c : GV}, GV.flatL cs = true → cs[i]? = some c → c.flat = true
  | [], i, c, _, h => by cases i <;> cases h
  | x :: cs, i, c, h, e => by
    rw [GV.flatL, Bool.and_eq_true] at h
    cases i with
    | zero => cases e; exact h.1
    | succ i => exact GV.flatL_at h.2 (by simpa using e)
theorem PR.flat {Z Z' : ZM} {v : GV} {a : AV} (h : PR Z v a) (k : v.flat = true) : PR Z' v a := by
  induction h with
  | v x => exact .v x
  | agg h _ ih => exact .agg h fun i c a e f => ih i c a e f (GV.flatL_at (by rwa [GV.flat] at k) e)
  | tup h _ ih => exact .tup h fun i c a e f => ih i c a e f (GV.flatL_at (by rwa [GV.flat] at k) e)
  | fn => cases k
  | ifc => cases k
  | fsl => cases k
  | fnil => cases k
  | fptr => cases k
  | any => exact .any
theorem VR.flat {Z Z' : ZM} {om : Om} {v : GV} {a : AV} (h : VR Z om v a) (k : v.flat = true) : VR Z' om v a := by
  induction h with
  | pure h => exact .pure (h.flat k)
  | agg h _ ih => exact .agg h fun i c a e f => ih i c a e f (GV.flatL_at (by rwa [GV.flat] at k) e)
  | tup h _ ih => exact .tup h fun i c a e f => ih i c a e f (GV.flatL_at (by rwa [GV.flat] at k) e)
  | fn => cases k
  | ifc => cases k
  | osl h => exact .osl h
  | onil h => exact .onil h
  | bptr h => exact .bptr h
  | eptr => cases k
  | any => exact .any
/-- rows of flat things -/
def flatB : GBlk → Prop
  | .box cs => GV.flatL cs = true
  | .arr _ _ cs => ∀ c, c ∈ cs → GV.flatL c = true
def flatH : GHp → Prop
  | [] => True
  | p :: r => flatB p.2 ∧ flatH r
theorem flatH_at : ∀ {H : GHp} {g : Nat} {b : GBlk}, flatH H → lkP H g = some b → flatB b
  | [], g, b, _, e => by cases e
  | p :: r, g, b, h, e => by
    rw [lkP_cons] at e
    split at e
    · cases e; exact h.1
    · exact flatH_at h.2 e
theorem flat_map {α : Type} {enc : α → List GV} {xs : List α} (h : ∀ x, GV.flatL (enc x) = true) : ∀ c, c ∈ xs.map enc → GV.flatL c = true := fun c hc => by
  obtain ⟨x, _, rfl⟩ := List.mem_map.1 hc; exact h x
/-- how an own thing reads while it is lent -/
def bor0 (HG : GHp) : GV → GV
  | .osl g => match lkP HG g with
    | some (.arr _ w cs) => .fsl w cs
    | _ => .any
  | v => match v.ok (fun _ => false) with
    | true => v
    | false => .any
def bors (HG : GHp) : List GV → List GV
  | [] => []
  | v :: r => bor0 HG v :: bors HG r
def bor (HG : GHp) : GV → GV
  | .bptr g off => match lkP HG g with
    | some (.box cs) => .fptr (bors HG cs) off
    | _ => .any
  | v => bor0 HG v
theorem bors_len {HG : GHp} : ∀ {cs : List GV}, (bors HG cs).length = cs.length
  | [] => rfl
  | c :: r => by simp [bors, bors_len]
theorem bors_at {HG : GHp} : ∀ {cs : List GV} {i : Nat}, (bors HG cs)[i]? = (cs[i]?).map (bor0 HG)
  | [], i => by simp [bors]
  | c :: r, 0 => by simp [bors]
  | c :: r, i + 1 => by simp [bors, bors_at]
section
variable {Z : ZM} {om : Om} {HG : GHp} {H : Heap}
theorem GRel.zs (hr : GRel Z om HG H) : ZLe Z (Zs H) := fun b zb e => by
  obtain ⟨h1, blk, h2, h3, h4⟩ := hr.zok b zb e
  unfold Zs
  rw [if_pos h1, h2]
  show some (ZB.mk blk.cells blk.es) = some zb
  rw [h3, h4]
theorem Zs.rel (H : Heap) : GRel (Zs H) (fun _ => none) [] H where
  dom := fun _ _ => rfl
  zok := fun b zb e => by
    unfold Zs at e
    split at e
    · rename_i hb
      rw [Option.map_eq_some_iff] at e
      obtain ⟨blk, e1, rfl⟩ := e
      exact ⟨hb, blk, e1, rfl, rfl⟩
    · cases e
  own := fun g b e => by cases e
  sep := fun g g' b _ e => by cases e
  zsep := fun g b e => by cases e
  mate := fun g b blk m e => by cases e
theorem VR.noneP {Z : ZM} {v : GV} {a : AV} {om : Om} (h : VR Z om v a) (ho : ∀ g, om g = none) : PR Z v a := by
  induction h with
  | pure h => exact h
  | agg h _ ih => exact .agg h ih
  | tup h _ ih => exact .tup h ih
  | fn h _ ih => exact .fn h ih
  | ifc _ ih => exact .ifc ih
  | osl h => rw [ho] at h; cases h
  | onil h => rw [ho] at h; cases h
  | bptr h => rw [ho] at h; cases h
  | eptr h => rw [ho] at h; cases h
  | any => exact .any
theorem VR.bor0 (hr : GRel Z om HG H) {v : GV} {a : AV} (h : VR Z om v a) : VR (Zs H) (fun _ => none) (bor0 HG v) a := by
  have gen : ∀ v : GV, VR Z om v a → VR (Zs H) (fun _ => none) (match v.ok (fun _ => false) with | true => v | false => .any) a := fun v h => by
    split
    · rename_i hk
      refine (h.cut hk).mono hr.zs fun g l e => ?_
      unfold Om.cut at e
      rw [if_neg (by simp)] at e; cases e
    · exact .any
  cases v with
  | osl g =>
    show VR (Zs H) (fun _ => none) (match lkP HG g with | some (.arr _ w cs) => .fsl w cs | _ => .any) a
    cases hq : lkP HG g with
    | none => exact .any
    | some bb => cases bb with
    | box cs => exact .any
    | arr full w cs =>
      have hg : lkP HG g = some (.arr full w cs) := hq
      rcases hr.arr hg with ⟨c1, rfl⟩ | ⟨b, o, cap, ex, blk, c1, c2, c3, c4, c5, c6, c7, c8⟩
      · rcases h.osl_inv with ⟨_, _, _, _, _, _, e', rfl⟩ | ⟨e', rfl⟩
        · rw [c1] at e'; cases e'
        · exact .pure .fnil
      · rcases h.osl_inv with ⟨_, _, _, _, _, _, e', rfl⟩ | ⟨e', rfl⟩
        · rw [c1] at e'; cases e'
          have hlt := hr.old (g := g) (by rw [hg]; rfl) (idOf_eq c1 rfl)
          refine .pure (PR.sl (zb := ⟨blk.cells, blk.es⟩) (by unfold Zs; rw [if_pos hlt, c2]; rfl) c4 rfl c5 (c8.mono hr.zs))
        · rw [c1] at e'; cases e'
  | _ => exact gen _ h
theorem VR.bor (hr : GRel Z om HG H) {v : GV} {a : AV} (h : VR Z om v a) : VR (Zs H) (fun _ => none) (bor HG v) a := by
  cases v with
  | bptr g off =>
    show VR (Zs H) (fun _ => none) (match lkP HG g with | some (.box cs) => .fptr (bors HG cs) off | _ => .any) a
    cases hq : lkP HG g with
    | none => exact .any
    | some bb => cases bb with
    | arr full w cs => exact .any
    | box cs =>
      have hg : lkP HG g = some (.box cs) := hq
      obtain ⟨b, e, rfl⟩ := h.bptr_inv
      obtain ⟨b', blk, c1, c2, c3, c4, c5⟩ := hr.box hg
      rw [e] at c1; cases c1
      have hlt := hr.old (g := g) (by rw [hg]; rfl) (idOf_eq e rfl)
      have hall : ∀ (k : Nat) (x : GV), (bors HG cs)[k]? = some x → ∃ a, blk.cells[k]? = some a ∧ PR (Zs H) x a := fun k x e => by
        rw [bors_at] at e
        cases hk : cs[k]? with
        | none => rw [hk] at e; cases e
        | some y =>
          rw [hk] at e; cases e
          have hlt2 : k < blk.cells.length := by rw [← c4]; exact (List.getElem?_eq_some_iff.1 hk).1
          exact ⟨blk.cells[k], by simp [hlt2], ((c5 k y _ hk (by simp [hlt2])).bor0 hr).noneP (fun _ => rfl)⟩
      have : PR (Zs H) (.fptr (bors HG cs) off) (.ptr b (0 + off)) := by
        refine .fptr (zb := ⟨blk.cells, blk.es⟩) (fun k => blk.cells.getD k (.tup [])) (by unfold Zs; rw [if_pos hlt, c2]; rfl) (fun k x e => ?_) (fun k x e => ?_)
        · obtain ⟨a, h1, _⟩ := hall k x e
          rw [Nat.zero_add]
          show blk.cells[k]? = some (blk.cells.getD k (.tup []))
          rw [List.getD_eq_getElem?_getD, h1]; rfl
        · obtain ⟨a, h1, h2⟩ := hall k x e
          rw [List.getD_eq_getElem?_getD, h1]; exact h2
      rw [Nat.zero_add] at this
      exact .pure this
  | _ => exact h.bor0 hr
/-- the world behind a call that was lent things -/
theorem lend_merge (hr : GRel Z om HG H) {Z' : ZM} {om1 : Om} {H1 : GHp} {H' : Heap} (h1 : GRel Z' om1 H1 H') (h2 : Ext (Zs H) (fun _ => none) [] H Z' om1 H1 H') (hn : newOk [] HG H1 = true) (hfl : flatH H1) :
    ∃ om', GRel Z om' (H1 ++ HG) H' ∧ Ext Z om HG H Z om' (H1 ++ HG) H' ∧ (∀ g l, om1 g = some l → om' g = some l) ∧ (∀ g l, om g = some l → om' g = some l) ∧ ∀ b, b < H.next → H'.blks.get b = H.blks.get b := by
  have nofoot : ∀ b, ¬ Foot (fun _ => none) [] H b := fun b h => by
    obtain ⟨g, e, _⟩ := h; cases e
  have noown : ∀ b, ¬ Own (fun _ => none) [] b := fun b h => by
    obtain ⟨g, e, _⟩ := h; cases e
  have hold : ∀ b, b < H.next → H'.blks.get b = H.blks.get b ∧ Z' b = Zs H b := fun b hb => h2.old b hb (nofoot b)
  have hD : ∀ g, (lkP H1 g).isSome = true → lkP HG g = none := fun g e => by
    rcases newOk_at hn e with h | h
    · cases h
    · exact h
  have o1none : ∀ g, lkP H1 g = none → om1 g = none := h1.dom
  let om' : Om := fun g => if (lkP H1 g).isSome = true then om1 g else om g
  have oa : ∀ g, (lkP H1 g).isSome = true → om' g = om1 g := fun g e => if_pos e
  have ob : ∀ g, lkP H1 g = none → om' g = om g := fun g e => if_neg (by rw [e]; simp)
  have oHG : ∀ g, (lkP HG g).isSome = true → om' g = om g := fun g e => by
    cases hx : lkP H1 g with
    | none => exact ob g hx
    | some _ => have := hD g (by rw [hx]; rfl); rw [this] at e; cases e
  have oid : ∀ g, (lkP HG g).isSome = true → idOf om' g = idOf om g := fun g e => by unfold idOf; rw [oHG g e]
  have oid1 : ∀ g, (lkP H1 g).isSome = true → idOf om' g = idOf om1 g := fun g e => by unfold idOf; rw [oa g e]
  have x1 : ∀ g l, om1 g = some l → om' g = some l := fun g l e => by
    cases hx : lkP H1 g with
    | none => rw [o1none g hx] at e; cases e
    | some _ => rw [oa g (by rw [hx]; rfl)]; exact e
  have x2 : ∀ g l, om g = some l → om' g = some l := fun g l e => by
    cases hx : lkP H1 g with
    | none => rw [ob g hx]; exact e
    | some _ =>
      have := hr.dom g (hD g (by rw [hx]; rfl))
      rw [this] at e; cases e
  have hcase : ∀ g, (lkP (H1 ++ HG) g).isSome = true → (lkP H1 g).isSome = true ∨ (lkP H1 g = none ∧ (lkP HG g).isSome = true) := fun g e => by
    rw [lkP_append] at e
    cases hx : lkP H1 g with
    | some _ => exact .inl rfl
    | none => rw [hx] at e; exact .inr ⟨rfl, e⟩
  have new1 : ∀ g b, (lkP H1 g).isSome = true → idOf om1 g = some b → H.next ≤ b := fun g b e i => by
    rcases Nat.lt_or_ge b H.next with h | h
    · exact absurd (h2.ownb b h ⟨g, e, i⟩) (noown b)
    · exact h
  have zlive : ∀ b, b < H.next → (H.blks.get b).isSome = true → Z' b ≠ none := fun b hb hs hz => by
    rw [(hold b hb).2] at hz
    unfold Zs at hz
    rw [if_pos hb, Option.map_eq_none_iff] at hz
    rw [hz] at hs; cases hs
  have alive : ∀ g b, (lkP HG g).isSome = true → idOf om g = some b → (H.blks.get b).isSome = true := fun g b e i => by
    cases hx : lkP HG g with
    | none => rw [hx] at e; cases e
    | some blk0 =>
      cases hr.own g blk0 hx with
      | box c1 c2 => unfold idOf at i; rw [c1] at i; cases i; rw [c2]; rfl
      | nil c1 => unfold idOf at i; rw [c1] at i; cases i
      | arr c1 c2 => unfold idOf at i; rw [c1] at i; cases i; rw [c2]; rfl
  refine ⟨om', ⟨fun g e => ?_, fun b zb e => ?_, fun g blk e => ?_, fun g g' b n e e' i i' => ?_, fun g b e i => ?_, fun g b blk m e i hb hm => ?_⟩, ⟨h2.next, .refl _, fun b hb _ => ⟨(hold b hb).1, rfl⟩, fun b hb hf => ?_, fun g b _ e => x2 g _ e, fun b hb ho => ?_, fun b _ e k => absurd e k⟩, x1, x2, fun b hb => (hold b hb).1⟩
  · rw [lkP_append] at e
    cases hx : lkP H1 g with
    | some _ => rw [hx] at e; cases e
    | none => rw [hx] at e; rw [ob g hx]; exact hr.dom g e
  · obtain ⟨q1, blk, q2, q3⟩ := hr.zok b zb e
    exact ⟨Nat.lt_of_lt_of_le q1 h2.next, blk, by rw [(hold b q1).1]; exact q2, q3⟩
  · rw [lkP_append] at e
    cases hx : lkP H1 g with
    | some blk1 =>
      rw [hx] at e; cases e
      have hs : (lkP H1 g).isSome = true := by rw [hx]; rfl
      have hfb := flatH_at hfl hx
      cases h1.own g _ hx with
      | box c1 c2 c3 c4 c5 => exact .box (by rw [oa g hs]; exact c1) c2 c3 c4 fun i c a e f => ((c5 i c a e f).flat (GV.flatL_at hfb e)).mono (.refl _) x1
      | nil c1 c2 => exact .nil (by rw [oa g hs]; exact c1) c2
      | arr c1 c2 c3 c4 c5 c6 c7 c8 => exact .arr (by rw [oa g hs]; exact c1) c2 c3 c4 c5 c6 c7 (fun i c e => ⟨(c8 i c e).1, fun k x f => by
          obtain ⟨a, a1, a2⟩ := (c8 i c e).2 k x f
          exact ⟨a, a1, a2.flat (GV.flatL_at (hfb c (List.mem_of_getElem? e)) f)⟩⟩)
    | none =>
      rw [hx] at e
      have e : lkP HG g = some blk := e
      refine (hr.own g blk e).keep (ob g hx) (fun b i => (hold b (hr.old (by rw [e]; rfl) i)).1) (fun v a h => h.mono (.refl _) x2) (.refl _)
  · rcases hcase g e with c | ⟨c, d⟩
    · rw [oid1 g c] at i
      rcases hcase g' e' with c' | ⟨c', d'⟩
      · rw [oid1 g' c'] at i'; exact h1.sep g g' b n c c' i i'
      · rw [oid g' d'] at i'
        have := new1 g b c i; have := hr.old d' i'; omega
    · rw [oid g d] at i
      rcases hcase g' e' with c' | ⟨c', d'⟩
      · rw [oid1 g' c'] at i'
        have := new1 g' b c' i'; have := hr.old d i; omega
      · rw [oid g' d'] at i'; exact hr.sep g g' b n d d' i i'
  · rcases hcase g e with c | ⟨c, d⟩
    · rw [oid1 g c] at i
      have hge := new1 g b c i
      refine ⟨?_, (h1.zsep g b c i).2⟩
      cases hz : Z b with
      | none => rfl
      | some zb => have := (hr.zok b zb hz).1; omega
    · rw [oid g d] at i
      obtain ⟨q1, q2⟩ := hr.zsep g b d i
      exact ⟨q1, Nat.lt_of_lt_of_le q2 h2.next⟩
  · rcases hcase g e with c | ⟨c, d⟩
    · rw [oid1 g c] at i
      obtain ⟨q1, q2, q3⟩ := h1.mate g b blk m c i hb hm
      have znone : Z m = none := by
        cases hz : Z m with
        | none => rfl
        | some zb =>
          have := h2.zle m zb (hr.zs m zb hz)
          rw [q2] at this; cases this
      refine ⟨q1, znone, fun g' e' i' => ?_⟩
      rcases hcase g' e' with c' | ⟨c', d'⟩
      · rw [oid1 g' c'] at i'; exact q3 g' c' i'
      · rw [oid g' d'] at i'
        exact zlive m (hr.old d' i') (alive g' m d' i') q2
    · rw [oid g d] at i
      have hlt := hr.old d i
      rw [(hold b hlt).1] at hb
      obtain ⟨q1, q2, q3⟩ := hr.mate g b blk m d i hb hm
      refine ⟨Nat.lt_of_lt_of_le q1 h2.next, q2, fun g' e' i' => ?_⟩
      rcases hcase g' e' with c' | ⟨c', d'⟩
      · rw [oid1 g' c'] at i'
        have := new1 g' m c' i'; omega
      · rw [oid g' d'] at i'; exact q3 g' d' i'
  · obtain ⟨g, e, hh⟩ := hf
    rcases hcase g e with c | ⟨c, d⟩
    · have : Foot om1 H1 H' b := by
        refine ⟨g, c, ?_⟩
        rcases hh with hh | ⟨b', blk, k1, k2, k3⟩
        · exact .inl (by rw [← oid1 g c]; exact hh)
        · exact .inr ⟨b', blk, by rw [← oid1 g c]; exact k1, k2, k3⟩
      exact absurd (h2.foot b hb this) (nofoot b)
    · refine ⟨g, d, ?_⟩
      rcases hh with hh | ⟨b', blk, k1, k2, k3⟩
      · exact .inl (by rw [← oid g d]; exact hh)
      · rw [oid g d] at k1
        exact .inr ⟨b', blk, k1, by rw [← (hold b' (hr.old d k1)).1]; exact k2, k3⟩
  · obtain ⟨g, e, hh⟩ := ho
    rcases hcase g e with c | ⟨c, d⟩
    · rw [oid1 g c] at hh
      have := new1 g b c hh; omega
    · rw [oid g d] at hh; exact ⟨g, d, hh⟩
end
def borL (HG : GHp) : List GV → List GV
  | [] => []
  | v :: r => bor HG v :: borL HG r
theorem VRs.borL {Z : ZM} {om : Om} {HG : GHp} {H : Heap} (hr : GRel Z om HG H) {vs : List GV} {as : List AV} (h : VRs Z om vs as) : VRs (Zs H) (fun _ => none) (borL HG vs) as := by
  induction h with
  | nil => exact .nil
  | cons h _ ih => exact .cons (h.bor hr) ih
section
variable {A : AProg} {L : GFr} {HG : GHp} {l : List AOper} {Q : GFr → GHp → Prop}
theorem G.lendX {d : Option Nat} {o : AOp} {f : Nat} {ts : List Nat} {vs ws : List GV} {K : GV → GHp → Prop}
    (ho : ∀ Z om fr H, GRel Z om HG H → FR Z om L fr → ∃ as, VRs Z om vs as ∧ ∀ {Q' : AV → Heap → Prop}, WpCall A f as H (fun a H' => Unch ts fr H H' ∧ Q' a H') → WpOp A o fr H Q')
    (hts : farL (GHp.D []) L ts = true) (hb : borL HG vs = ws) (hc : WpCallG A f ws [] K)
    (k : ∀ v H1, K v H1 → v.flat = true ∧ flatH H1 ∧ newOk [] HG H1 = true ∧ WpOpsG A l (putP L d v) (H1 ++ HG) Q) : WpOpsG A (⟨d, o, none⟩ :: l) L HG Q := fun Z om fr H hr hf => by
  subst hb
  obtain ⟨as, a1, a2⟩ := ho Z om fr H hr hf
  refine WpOps.cons rfl (a2 ((hc (Zs H) (fun _ => none) as H (Zs.rel H) (a1.borL hr)).mono ?_))
  rintro a H' ⟨Z', om1, v, H1, r1, r2, r3, r4, r5⟩
  obtain ⟨n0, n1, n2, k1⟩ := k v H1 r5
  obtain ⟨om', q1, q2, q3, q4, q5⟩ := lend_merge hr r1 r3 n2 n1
  refine ⟨fun t ht => ?_, ?_⟩
  · obtain ⟨u, g1, g2⟩ := farL_at hts ht
    obtain ⟨c, c1, c2⟩ := hf t u g1
    refine ⟨c, c1, fun b hb => ?_⟩
    exact q5 b (far_ok hr (P := []) (fun _ _ e => by cases e) c2 g2 b hb).1
  · refine (k1 Z om' _ H' q1 ((hf.mono (.refl _) q4).put ((r2.flat n0).mono (.refl _) q3) d)).mono ?_
    rintro fr' H2 ⟨Z2, om2, L2, HG2, a2, b2, c2, d2⟩
    exact ⟨Z2, om2, L2, HG2, a2, b2, q2.trans c2, d2⟩
/-- a call that only looks at what is one's own -/
theorem G.lend {d : Option Nat} {f : Nat} {xs : List AX} {vs ws : List GV} {K : GV → GHp → Prop} (hx : lkGXs L xs = some vs) (hb : borL HG vs = ws) (hc : WpCallG A f ws [] K)
    (k : ∀ v H1, K v H1 → v.flat = true ∧ flatH H1 ∧ newOk [] HG H1 = true ∧ WpOpsG A l (putP L d v) (H1 ++ HG) Q) : WpOpsG A (⟨d, .call f xs, none⟩ :: l) L HG Q :=
  G.lendX (ts := []) (fun Z om fr H hr hf => let ⟨as, e, v⟩ := hf.xs hx; ⟨as, v, fun h => WpOp.call e (h.mono fun _ _ k => k.2)⟩) rfl hb hc k
theorem G.cklend {d : Option Nat} {f : Nat} {ts : List Nat} {xs : List AX} {vs ws : List GV} {K : GV → GHp → Prop} (hx : lkGXs L xs = some vs) (hts : farL (GHp.D []) L ts = true) (hb : borL HG vs = ws) (hc : WpCallG A f ws [] K)
    (k : ∀ v H1, K v H1 → v.flat = true ∧ flatH H1 ∧ newOk [] HG H1 = true ∧ WpOpsG A l (putP L d v) (H1 ++ HG) Q) : WpOpsG A (⟨d, .ck ts (.call f xs), none⟩ :: l) L HG Q :=
  G.lendX (fun Z om fr H hr hf => let ⟨as, e, v⟩ := hf.xs hx; ⟨as, v, fun h => WpOp.ck (WpOp.call e h)⟩) hts hb hc k
end
end Go.AM
