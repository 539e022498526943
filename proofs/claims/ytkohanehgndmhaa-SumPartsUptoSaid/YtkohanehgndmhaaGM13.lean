/- The machine over plain data: rules for each operation, calls. No condition. -/
import Derived.Test.YtkohanehgndmhaaGM12
set_option linter.all false
namespace Go.AM
section
variable {A : AProg} {L : GFr} {HG : GHp} {l : List AOper}
theorem WpOp.ck {ts : List Nat} {o : AOp} {fr : T AV} {H : Heap} {Q : AV → Heap → Prop} (h : WpOp A o fr H (fun a H' => Unch ts fr H H' ∧ Q a H')) : WpOp A (.ck ts o) fr H Q :=
  let ⟨n, v, H', e, hU, hq⟩ := h; ⟨n, v, H', evOp_ck.2 ⟨e, hU⟩, hq⟩
/-- what a call that is handed these names can't touch -/
def GV.far (D : Nat → Bool) : GV → Bool
  | .v _ => true
  | .fsl _ _ => true
  | .fptr _ _ => true
  | .osl g => !D g
  | .bptr g _ => !D g
  | .eptr g _ _ => !D g
  | _ => false
def farL (D : Nat → Bool) (L : GFr) : List Nat → Bool
  | [] => true
  | t :: ts => (match lkP L t with | some v => v.far D | none => false) && farL D L ts
theorem farL_at {D : Nat → Bool} : ∀ {ts : List Nat} {t : Nat}, farL D L ts = true → t ∈ ts → ∃ v, lkP L t = some v ∧ v.far D = true
  | [], t, _, h => by cases h
  | s :: ts, t, h, hm => by
    rw [farL, Bool.and_eq_true] at h
    rcases List.mem_cons.1 hm with e | hm
    · subst e
      cases hk : lkP L t with
      | none => rw [hk] at h; cases h.1
      | some v => rw [hk] at h; exact ⟨v, rfl, h.1⟩
    · exact farL_at h.2 hm
theorem far_ok {Z : ZM} {om : Om} {H : Heap} {P : GHp} (hr : GRel Z om HG H) (hle : HLe P HG) {v : GV} {a : AV} (hv : VR Z om v a) (hk : v.far P.D = true) : ∀ b, blkOf a = some b → b < H.next ∧ ¬ Foot (om.cut P.D) P H b := by
  have hid : ∀ g, (lkP P g).isSome = true → idOf (om.cut P.D) g = idOf om g := fun g e => by unfold idOf Om.cut; rw [if_pos (show P.D g = true from e)]
  have zc : ∀ b zb, Z b = some zb → b < H.next ∧ ¬ Foot (om.cut P.D) P H b := by
    intro b zb hz
    refine ⟨(hr.zok b zb hz).1, ?_⟩
    rintro ⟨g, e, h | ⟨b', blk, h1, h2, h3⟩⟩
    · rw [hid g e] at h
      have := (hr.zsep g b (hle.isSome e) h).1
      rw [hz] at this; cases this
    · rw [hid g e] at h1
      have := (hr.mate g b' blk b (hle.isSome e) h1 h2 h3).2.1
      rw [hz] at this; cases this
  have nc : ∀ g0 lo b, om g0 = some lo → lo.id = some b → (!P.D g0) = true → b < H.next ∧ ¬ Foot (om.cut P.D) P H b := by
    intro g0 lo b h1 h2 h3
    have hi0 : idOf om g0 = some b := by unfold idOf; rw [h1]; exact h2
    have hs0 : (lkP HG g0).isSome = true := by
      cases hk : lkP HG g0 with
      | none => rw [hr.dom g0 hk] at h1; cases h1
      | some _ => rfl
    refine ⟨(hr.zsep g0 b hs0 hi0).2, ?_⟩
    have hne : ∀ g, (lkP P g).isSome = true → g ≠ g0 := fun g e c => by
      subst c
      have : P.D g = true := e
      rw [this] at h3; cases h3
    rintro ⟨g, e, h | ⟨b', blk, k1, k2, k3⟩⟩
    · rw [hid g e] at h
      exact hr.sep g g0 b (hne g e) (hle.isSome e) hs0 h hi0
    · rw [hid g e] at k1
      exact (hr.mate g b' blk b (hle.isSome e) k1 k2 k3).2.2 g0 hs0 hi0
  intro b hb
  cases v with
  | v x => obtain rfl := hv.v_inv; cases hb
  | fsl w cs =>
    cases hv.fsl_inv with
    | fsl f h1 => cases hb; exact zc _ _ h1
    | fnil => cases hb
  | fptr cs off =>
    cases hv.fptr_inv with
    | fptr f h1 => cases hb; exact zc _ _ h1
  | osl g =>
    rcases hv.osl_inv with ⟨b', o, len, cap, ex, w, e1, rfl⟩ | ⟨e1, rfl⟩
    · cases hb; exact nc g _ _ e1 rfl hk
    · cases hb
  | bptr g o =>
    obtain ⟨b', e1, rfl⟩ := hv.bptr_inv
    cases hb; exact nc g _ _ e1 rfl hk
  | eptr g i o =>
    obtain ⟨b', o', len, cap, ex, w, e1, rfl⟩ := hv.eptr_inv
    cases hb; exact nc g _ _ e1 rfl hk
  | _ => cases hk
theorem G.ckcall {d : Option Nat} {f : Nat} {ts : List Nat} {xs : List AX} {vs : List GV} {P : GHp} {K : GV → GHp → Prop} {Q : GFr → GHp → Prop} (hx : lkGXs L xs = some vs) (hts : farL P.D L ts = true)
    (hP : hasP HG P) (h1 : GV.okL P.D vs = true) (h2 : cleanH P.D P = true) (hc : WpCallG A f vs P K)
    (k : ∀ v H1, K v H1 → newOk P HG H1 = true ∧ WpOpsG A l (putP (stPs P L) d v) (H1 ++ dropP P (stPh P HG)) Q) : WpOpsG A (⟨d, .ck ts (.call f xs), none⟩ :: l) L HG Q := fun Z om fr H hr hf => by
  obtain ⟨as, e, a1⟩ := hf.xs hx
  have hle : HLe P HG := hasP_le hP
  refine WpOps.cons rfl (WpOp.ck (WpOp.call e ((hc Z _ as H (hr.less hle h2) (a1.cut h1)).mono ?_)))
  rintro a H' ⟨Z', om1, v, H1, r1, r2, r3, r4, r5⟩
  refine ⟨fun t ht => ?_, ?_⟩
  · obtain ⟨u, g1, g2⟩ := farL_at hts ht
    obtain ⟨c, c1, c2⟩ := hf t u g1
    refine ⟨c, c1, fun b hb => ?_⟩
    obtain ⟨f1, f2⟩ := far_ok hr hle c2 g2 b hb
    exact (r3.old b f1 f2).1
  · obtain ⟨n1, k1⟩ := k v H1 r5
    obtain ⟨om', q1, q2, q3, q4⟩ := call_merge hr hle r1 r3 r4 n1
    refine (k1 Z' om' _ H' q1 ((hf.stPs q4).put (q3 _ _ r2) d)).mono ?_
    rintro fr' H2 ⟨Z2, om2, L2, HG2, a2, b2, c2, d2⟩
    exact ⟨Z2, om2, L2, HG2, a2, b2, q2.trans c2, d2⟩
theorem G.ckcall0 {d : Option Nat} {f : Nat} {ts : List Nat} {xs : List AX} {vs : List GV} {K : GV → GHp → Prop} {Q : GFr → GHp → Prop} (hx : lkGXs L xs = some vs) (h1 : GV.okL (GHp.D []) vs = true) (hts : farL (GHp.D []) L ts = true) (hc : WpCallG A f vs [] K)
    (k : ∀ v H1, K v H1 → newOk [] HG H1 = true ∧ WpOpsG A l (putP L d v) (H1 ++ HG) Q) : WpOpsG A (⟨d, .ck ts (.call f xs), none⟩ :: l) L HG Q := by
  refine G.ckcall (P := []) hx hts trivial h1 rfl hc fun v H1 hk => ?_
  have : ∀ (X : GHp), dropP [] X = X := fun X => by
    induction X with
    | nil => rfl
    | cons p r ih => rw [dropP]; exact congrArg _ ih
  rw [show dropP [] (stPh [] HG) = HG from this HG]
  exact k v H1 hk
end
end Go.AM
