/- The machine over plain data: rules for each operation, calls. No condition. -/
import Derived.Test.YtkohanehgndmhaaGM5
set_option linter.all false
namespace Go.AM
/-! ## Made slices, parts of them, freezing, bytes and texts -/
def chunkG (w : Nat) : Nat → List GV → Option (List (List GV))
  | 0, [] => some []
  | 0, _ :: _ => none
  | n + 1, l => match takeG w l with
    | some c => match chunkG w n (l.drop w) with
      | some r => some (c :: r)
      | none => none
    | none => none
theorem takeG_le : ∀ {n : Nat} {l r : List GV}, takeG n l = some r → n ≤ l.length
  | 0, _, _, _ => Nat.zero_le _
  | n + 1, [], _, h => by cases h
  | n + 1, x :: l, r, h => by
    rw [takeG] at h
    cases hr : takeG n l with
    | none => rw [hr] at h; cases h
    | some r' => have := takeG_le hr; simp; exact this
theorem chunkG_ok {w : Nat} : ∀ {n : Nat} {l : List GV} {cs : List (List GV)}, chunkG w n l = some cs → cs.length = n ∧ l.length = n * w ∧ ∀ (i : Nat) (c : List GV), cs[i]? = some c → c.length = w ∧ ∀ (k : Nat) (x : GV), c[k]? = some x → l[i * w + k]? = some x
  | 0, [], cs, h => by cases h; exact ⟨rfl, by simp, fun i c e => by simp at e⟩
  | 0, _ :: _, cs, h => by cases h
  | n + 1, l, cs, h => by
    rw [chunkG] at h
    cases h1 : takeG w l with
    | none => rw [h1] at h; cases h
    | some c =>
      simp only [h1] at h
      cases h2 : chunkG w n (l.drop w) with
      | none => rw [h2] at h; cases h
      | some r =>
        rw [h2] at h; cases h
        obtain ⟨a1, a2⟩ := takeG_len h1
        have a3 := takeG_le h1
        obtain ⟨b1, b2, b3⟩ := chunkG_ok h2
        refine ⟨by simp [b1], by simp at b2; rw [Nat.add_mul]; omega, fun i c' e => ?_⟩
        cases i with
        | zero =>
          cases e
          refine ⟨a1, fun k x e' => ?_⟩
          have hk := (List.getElem?_eq_some_iff.1 e').1
          have := a2 k (by omega)
          rw [Nat.zero_mul, Nat.zero_add, this]; exact e'
        | succ i =>
          obtain ⟨d1, d2⟩ := b3 i c' (by simpa using e)
          refine ⟨d1, fun k x e' => ?_⟩
          have := d2 k x e'
          rw [List.getElem?_drop] at this
          rw [← this]; congr 1; rw [Nat.add_mul]; omega
section
variable {A : AProg} {L : GFr} {HG : GHp} {l : List AOper} {Q : GFr → GHp → Prop}
theorem G.bslice {d g w len : Nat} {z : List AV} {ps : List (Nat × Nat × AX)} {cells : List GV} {cs : List (List GV)} (e : fillG L (cvt.cvts z) ps = some cells) (hc : chunkG w len cells = some cs) (hpl : GV.plL cells = true) (hg : (lkP HG g).isNone = true)
    (k : WpOpsG A l ((d, .osl g) :: L) ((g, .arr .yes w cs) :: HG) Q) : WpOpsG A (⟨some d, .bslice w len z ps, none⟩ :: l) L HG Q :=
  WpOpsG.step (d := some d) (fun Z om fr H hr hf => by
    obtain ⟨bs, h1, h2, h3⟩ := fillG_ok hf e (cvts_ok (Z := Z) (om := om) z).1 (cvts_ok z).2
    have hg' : lkP HG g = none := by simpa using hg
    obtain ⟨c1, c2, c3⟩ := chunkG_ok hc
    have ha : ArrAt Z bs 0 w cs := fun i c e => ⟨(c3 i c e).1, fun k x e' => by
      have h4 := (c3 i c e).2 k x e'
      have hlt : i * w + k < bs.length := by rw [← h2]; exact (List.getElem?_eq_some_iff.1 h4).1
      exact ⟨bs[i * w + k], by simp [hlt], (h3 _ _ _ h4 (by simp [hlt])).toPR (GV.plL_at hpl h4)⟩⟩
    obtain ⟨r1, r2⟩ := hr.alloc hg' (es := w) (cs := bs) (l := .sl H.next 0 cs.length len true w) (nb := .arr .yes w cs) (.inl rfl)
      (.arr (Om.set_self ..) (Heap.alloc_self rfl) rfl rfl (by omega) (by simp only [Nat.zero_add]; omega) (.inl rfl) ha)
    exact WpOp.eval (by simp only [evOp, h1, c1]) ⟨Z, _, r1, hf.mono (.refl _) (Om.le_set _ _ _ (hr.dom g hg')), .osl (Om.set_self ..), r2⟩) k
theorem flatten_rep (z : List AV) (w : Nat) (hz : z.length = w) : ∀ (n : Nat), (List.replicate n z).flatten.length = n * w ∧ ∀ i k, i < n → k < w → (List.replicate n z).flatten[i * w + k]? = z[k]?
  | 0 => ⟨by simp, fun i k h => by omega⟩
  | n + 1 => by
    obtain ⟨h1, h2⟩ := flatten_rep z w hz n
    refine ⟨by simp only [List.replicate_succ, List.flatten_cons, List.length_append, h1, hz, Nat.add_mul]; omega, fun i k hi hk => ?_⟩
    rw [List.replicate_succ, List.flatten_cons]
    cases i with
    | zero => rw [List.getElem?_append_left (by omega)]; congr 1; omega
    | succ i =>
      rw [List.getElem?_append_right (by rw [Nat.add_mul]; omega), ← h2 i k (by omega) hk]; congr 1; rw [Nat.add_mul]; omega
theorem plV_cvts : ∀ (z : List AV), z.all (fun a => match a with | .v _ => true | _ => false) = true → GV.plL (cvt.cvts z) = true
  | [], _ => rfl
  | .v x :: r, h => by
    rw [cvt.cvts, GV.plL]
    simp only [List.all_cons, Bool.and_eq_true] at h
    simp [GV.pl, plV_cvts r h.2]
  | .ptr .. :: r, h => by simp at h
  | .sl .. :: r, h => by simp at h
  | .agg _ :: r, h => by simp at h
  | .tup _ :: r, h => by simp at h
  | .fn .. :: r, h => by simp at h
  | .ifc .. :: r, h => by simp at h
theorem G.mkslice {d g w by_ : Nat} {z : List AV} {x y : AX} {k1 k2 : IntKind} {n c : Int} (hx : lkGX L x = some (.v (.int k1 n))) (hy : lkGX L y = some (.v (.int k2 c))) (h0 : 0 ≤ n) (hc : n ≤ c) (hs : (by_ : Int) * c ≤ 2 ^ 47) (hs2 : c < 2 ^ 63)
    (hz : Nat.beq z.length w = true) (hw : Nat.ble 1 w = true) (hp : GV.plL (cvt.cvts z) = true) (hg : (lkP HG g).isNone = true)
    (k : WpOpsG A l ((d, .osl g) :: L) ((g, .arr .yes w (List.replicate n.toNat (cvt.cvts z))) :: HG) Q) : WpOpsG A (⟨some d, .mkslice w by_ z x y, none⟩ :: l) L HG Q :=
  WpOpsG.step (d := some d) (fun Z om fr H hr hf => by
    obtain ⟨u, h1, h2⟩ := hf.x hx
    obtain rfl := h2.v_inv
    obtain ⟨v, h3, h4⟩ := hf.x hy
    obtain rfl := h4.v_inv
    have hg' : lkP HG g = none := by simpa using hg
    have hzw := Nat.eq_of_beq_eq_true hz
    have hw' := Nat.le_of_ble_eq_true hw
    obtain ⟨f1, f2⟩ := flatten_rep z w hzw c.toNat
    obtain ⟨q1, q2⟩ := cvts_ok (Z := Z) (om := om) z
    have ha : ArrAt Z (List.replicate c.toNat z).flatten 0 w (List.replicate n.toNat (cvt.cvts z)) := fun i c' e => by
      rw [List.getElem?_replicate] at e
      split at e
      · rename_i hi
        cases e
        refine ⟨by rw [q1, hzw], fun k x e' => ?_⟩
        have hk : k < w := by rw [← hzw, ← q1]; exact (List.getElem?_eq_some_iff.1 e').1
        have hzk : z[k]? = some (z[k]'(by omega)) := List.getElem?_eq_getElem (by omega)
        exact ⟨z[k]'(by omega), by rw [Nat.zero_add, f2 i k (by omega) hk, hzk], (q2 k x _ e' hzk).toPR (GV.plL_at hp e')⟩
      · cases e
    obtain ⟨r1, r2⟩ := hr.alloc hg' (es := w) (cs := (List.replicate c.toNat z).flatten) (l := .sl H.next 0 (List.replicate n.toNat (cvt.cvts z)).length c.toNat true w) (nb := .arr .yes w (List.replicate n.toNat (cvt.cvts z))) (.inl rfl)
      (.arr (Om.set_self ..) (Heap.alloc_self rfl) rfl rfl (by simp; omega) (by simp only [Nat.zero_add]; exact f1) (.inl rfl) ha)
    have hcond : 0 ≤ n ∧ n ≤ c ∧ (by_ : Int) * c ≤ 2 ^ 47 ∧ c < 2 ^ 63 ∧ z.length = w ∧ 0 < w := ⟨h0, hc, hs, hs2, hzw, hw'⟩
    exact WpOp.eval (by simp only [evOp, h1, h3, if_pos hcond, List.length_replicate]) ⟨Z, _, r1, hf.mono (.refl _) (Om.le_set _ _ _ (hr.dom g hg')), .osl (Om.set_self ..), r2⟩) k
/-- a part of a slice of one's own: the whole has moved -/
theorem G.slO {d g w lo hi : Nat} {full full' : Fl} {x : AX} {xl xh : Option AX} {cs : List (List GV)} (hx : lkGX L x = some (.osl g)) (hg : lkP HG g = some (.arr full w cs)) (hh : bndG L cs.length cs.length xh = some hi) (hl : bndG L 0 hi xl = some lo) (hf : full.cut full' cs.length hi)
    (k : WpOpsG A l ((d, .osl g) :: stL g L) ((g, .arr full' w ((cs.take hi).drop lo)) :: stH g HG) Q) : WpOpsG A (⟨some d, .slice w x xl xh, none⟩ :: l) L HG Q :=
  WpOpsG.step (d := some d) (L1 := stL g L) (fun Z om fr H hr hf' => by
    obtain ⟨u, h1, h2⟩ := hf'.x hx
    have hhi : hi ≤ cs.length := bnd_lt hh (Nat.le_refl _)
    have hlo : lo ≤ hi := bnd_lt hl (Nat.zero_le _)
    have eS : (lkP HG g).isSome = true := by rw [hg]; rfl
    rcases hr.arr hg with ⟨c1, rfl⟩ | ⟨b, o, cap, ex, blk, c1, c2, c3, c4, c5, c6, c7, c8⟩
    · rcases h2.osl_inv with ⟨_, _, _, _, _, _, e', rfl⟩ | ⟨e', rfl⟩
      · rw [c1] at e'; cases e'
      · simp only [List.length_nil] at hh hhi
        obtain rfl : hi = 0 := by omega
        have e : om.set g .nil = om := by
          funext k; unfold Om.set; split
          · rename_i c; rw [c, c1]
          · rfl
        have hb : BR Z om H g (.arr full' w ((([] : List (List GV)).take 0).drop lo)) := by simpa using BR.nil (Z := Z) (H := H) (w := w) c1 (hf.nil (hr.nilF hg c1))
        obtain ⟨r1, r2⟩ := hr.move hg (l' := .nil) (H' := H) (nb := .arr full' w ((([] : List (List GV)).take 0).drop lo)) (Nat.le_refl _) (fun _ _ _ _ => rfl) (fun b hb => by cases hb)
          (fun b blk m i hb hm => by cases i) (by rw [e]; exact hb)
        rw [e] at r1 r2
        exact WpOp.eval (by simp only [evOp, h1, show boundX fr 0 0 xh = some 0 from bndG_ok hf' hh, show boundX fr 0 0 xl = some lo from bndG_ok hf' hl]) ⟨Z, om, r1, hf'.st (.refl _) (fun _ _ => rfl), .onil c1, r2⟩
    · rcases h2.osl_inv with ⟨_, _, _, _, _, _, e', rfl⟩ | ⟨e', rfl⟩
      · rw [c1] at e'; cases e'
        have hid : idOf om g = some b := idOf_eq c1 rfl
        have hh' : boundX fr cs.length cap xh = some hi := by
          have := bndG_ok hf' hh
          cases xh with
          | none => exact this
          | some y =>
            rw [boundX] at this ⊢
            split at this
            · rename_i hy; unfold natOf at this ⊢; split at this
              · rename_i hc; rw [if_pos (by omega)]; exact this
              · cases this
            · cases this
        have hlen : ((cs.take hi).drop lo).length = hi - lo := by simp; omega
        have hnew : ArrAt Z blk.cells (o + lo * w) w ((cs.take hi).drop lo) := fun i c e => by
          rw [List.getElem?_drop, List.getElem?_take] at e
          split at e
          · refine ⟨(c8 _ c e).1, fun k x e' => ?_⟩
            obtain ⟨a, a1, a2⟩ := (c8 _ c e).2 k x e'
            exact ⟨a, by rw [← a1]; congr 1; rw [Nat.add_mul]; omega, a2⟩
          · cases e
        have hsz : blk.cells.length = o + lo * w + (cap - lo) * w := by
          rw [c6]
          have h5 : cap * w = lo * w + (cap - lo) * w := by rw [← Nat.add_mul]; congr 1; omega
          omega
        obtain ⟨r1, r2⟩ := hr.move hg (l' := .sl b (o + lo * w) ((cs.take hi).drop lo).length (cap - lo) ex w) (H' := H) (nb := .arr full' w ((cs.take hi).drop lo)) (Nat.le_refl _) (fun _ _ _ _ => rfl) (fun b' hb => by cases hb; exact .inl hid)
          (fun b' blk' m i hb hm => by cases i; exact .inr ⟨hid, blk', hb, hm⟩)
          (.arr (Om.set_self ..) c2 c3 c4 (by rw [hlen]; omega) hsz (by rw [hlen]; exact hf.ok c7 c5 hlo hhi) hnew)
        exact WpOp.eval (by simp only [evOp, h1, hh', bndG_ok hf' hl, c2, c4, if_true, hlen]) ⟨Z, _, r1, hf'.st (.refl _) (fun k n => Om.set_ne n), .osl (Om.set_self ..), r2⟩
      · rw [c1] at e'; cases e') k
end
mutual
/-- a name made a value -/
def GV.fz (g : Nat) (v : GV) : GV → GV
  | .agg cs => .agg (GV.fzL g v cs)
  | .tup cs => .tup (GV.fzL g v cs)
  | .fn f cs => .fn f (GV.fzL g v cs)
  | .ifc t x => .ifc t (GV.fz g v x)
  | .osl h => match Nat.beq h g with | true => v | false => .osl h
  | .bptr h o => match Nat.beq h g with | true => .any | false => .bptr h o
  | .eptr h i o => match Nat.beq h g with | true => .any | false => .eptr h i o
  | x => x
def GV.fzL (g : Nat) (v : GV) : List GV → List GV
  | [] => []
  | c :: cs => GV.fz g v c :: GV.fzL g v cs
end
theorem GV.fzL_len {g : Nat} {v : GV} : ∀ {cs : List GV}, (GV.fzL g v cs).length = cs.length
  | [] => rfl
  | c :: r => by simp [GV.fzL, GV.fzL_len]
theorem GV.fzL_at {g : Nat} {v : GV} : ∀ {cs : List GV} {i : Nat}, (GV.fzL g v cs)[i]? = (cs[i]?).map (GV.fz g v)
  | [], i => by simp [GV.fzL]
  | c :: r, 0 => by simp [GV.fzL]
  | c :: r, i + 1 => by simp [GV.fzL, GV.fzL_at]
def fzF (g : Nat) (v : GV) : GFr → GFr
  | [] => []
  | p :: r => (p.1, GV.fz g v p.2) :: fzF g v r
def fzB (g : Nat) (v : GV) : GBlk → GBlk
  | .box cs => .box (GV.fzL g v cs)
  | .arr f w cs => .arr f w cs
def fzH (g : Nat) (v : GV) : GHp → GHp
  | [] => []
  | p :: r => match Nat.beq p.1 g with
    | true => fzH g v r
    | false => (p.1, fzB g v p.2) :: fzH g v r
theorem lkP_fzF {g : Nat} {v : GV} : ∀ {L : GFr} {k : Nat}, lkP (fzF g v L) k = (lkP L k).map (GV.fz g v)
  | [], _ => rfl
  | p :: r, k => by
    rw [fzF, lkP_cons, lkP_cons, lkP_fzF]
    split <;> rfl
theorem lkP_fzH {g : Nat} {v : GV} : ∀ {L : GHp} {k : Nat}, lkP (fzH g v L) k = if k = g then none else (lkP L k).map (fzB g v)
  | [], k => by split <;> rfl
  | p :: r, k => by
    rw [fzH, lkP_cons]
    cases hb : Nat.beq p.1 g with
    | true =>
      have hpg := Nat.eq_of_beq_eq_true hb
      simp only []
      rw [lkP_fzH]
      split
      · rfl
      · rename_i n; rw [if_neg (fun c => n (c.symm.trans hpg))]
    | false =>
      have hpg : p.1 ≠ g := fun c => by rw [c] at hb; simp at hb
      simp only []
      rw [lkP_cons, lkP_fzH]
      by_cases c : p.1 = k
      · rw [if_pos c, if_pos c, if_neg (fun x => hpg (c.trans x))]; rfl
      · rw [if_neg c, if_neg c]
section
variable {Z : ZM} {om : Om} {HG : GHp} {H : Heap}
theorem PR.fz {Z' : ZM} {om' : Om} {g : Nat} {v : GV} {u : GV} {a : AV} (h : PR Z u a) (hz : ZLe Z Z') : VR Z' om' (GV.fz g v u) a := by
  induction h with
  | v x => exact .pure (.v x)
  | @agg cs as h _ ih =>
    refine .agg (by rw [GV.fzL_len]; exact h) fun i c a e f => ?_
    rw [GV.fzL_at] at e
    cases hx : cs[i]? with
    | none => rw [hx] at e; cases e
    | some y => rw [hx] at e; cases e; exact ih i y a hx f
  | @tup cs as h _ ih =>
    refine .tup (by rw [GV.fzL_len]; exact h) fun i c a e f => ?_
    rw [GV.fzL_at] at e
    cases hx : cs[i]? with
    | none => rw [hx] at e; cases e
    | some y => rw [hx] at e; cases e; exact ih i y a hx f
  | @fn f0 cs as h _ ih =>
    refine .fn (by rw [GV.fzL_len]; exact h) fun i c a e f => ?_
    rw [GV.fzL_at] at e
    cases hx : cs[i]? with
    | none => rw [hx] at e; cases e
    | some y => rw [hx] at e; cases e; exact ih i y a hx f
  | ifc _ ih => exact .ifc ih
  | fsl f h1 h2 h3 h4 h5 h6 h7 _ => exact .pure (.fsl f (hz _ _ h1) h2 h3 h4 h5 h6 fun i k c x e e' => (h7 i k c x e e').mono hz)
  | fnil => exact .pure .fnil
  | fptr f h1 h2 h3 _ => exact .pure (.fptr f (hz _ _ h1) h2 fun k x e => (h3 k x e).mono hz)
  | any => exact .any
theorem VR.fz {Z' : ZM} {om' : Om} {g : Nat} {v : GV} {u : GV} {a : AV} (h : VR Z om u a) (hz : ZLe Z Z') (ho : ∀ k, k ≠ g → om' k = om k) (hv : ∀ a, VR Z om (.osl g) a → VR Z' om' v a) : VR Z' om' (GV.fz g v u) a := by
  induction h with
  | pure h => exact h.fz hz
  | @agg cs as h _ ih =>
    refine .agg (by rw [GV.fzL_len]; exact h) fun i c a e f => ?_
    rw [GV.fzL_at] at e
    cases hx : cs[i]? with
    | none => rw [hx] at e; cases e
    | some y => rw [hx] at e; cases e; exact ih i y a hx f
  | @tup cs as h _ ih =>
    refine .tup (by rw [GV.fzL_len]; exact h) fun i c a e f => ?_
    rw [GV.fzL_at] at e
    cases hx : cs[i]? with
    | none => rw [hx] at e; cases e
    | some y => rw [hx] at e; cases e; exact ih i y a hx f
  | @fn f0 cs as h _ ih =>
    refine .fn (by rw [GV.fzL_len]; exact h) fun i c a e f => ?_
    rw [GV.fzL_at] at e
    cases hx : cs[i]? with
    | none => rw [hx] at e; cases e
    | some y => rw [hx] at e; cases e; exact ih i y a hx f
  | ifc _ ih => exact .ifc ih
  | @osl k b o len cap ex w h =>
    rw [GV.fz]
    cases hb : Nat.beq k g with
    | true => obtain rfl := Nat.eq_of_beq_eq_true hb; exact hv _ (.osl h)
    | false => exact .osl (by rw [ho k (fun c => by rw [c] at hb; simp at hb)]; exact h)
  | @onil k h =>
    rw [GV.fz]
    cases hb : Nat.beq k g with
    | true => obtain rfl := Nat.eq_of_beq_eq_true hb; exact hv _ (.onil h)
    | false => exact .onil (by rw [ho k (fun c => by rw [c] at hb; simp at hb)]; exact h)
  | @bptr k off b h =>
    rw [GV.fz]
    cases hb : Nat.beq k g with
    | true => exact .any
    | false => exact .bptr (by rw [ho k (fun c => by rw [c] at hb; simp at hb)]; exact h)
  | @eptr k i off b o len cap ex w h =>
    rw [GV.fz]
    cases hb : Nat.beq k g with
    | true => exact .any
    | false => exact .eptr (by rw [ho k (fun c => by rw [c] at hb; simp at hb)]; exact h)
  | any => exact .any
/-- what is no longer written is a value from now on -/
theorem GRel.freeze (hr : GRel Z om HG H) {g w : Nat} {full : Fl} {cs : List (List GV)} (hg : lkP HG g = some (.arr full w cs)) :
    ∃ Z' om', ZLe Z Z' ∧ GRel Z' om' (fzH g (.fsl w cs) HG) H ∧ (∀ u a, VR Z om u a → VR Z' om' (GV.fz g (.fsl w cs) u) a) ∧ Ext Z om HG H Z' om' (fzH g (.fsl w cs) HG) H := by
  have eS : (lkP HG g).isSome = true := by rw [hg]; rfl
  have key : ∀ (Z' : ZM), ZLe Z Z' → (∀ b zb, Z' b = some zb → Z b = some zb ∨ (idOf om g = some b ∧ ∃ blk, H.blks.get b = some blk ∧ blk.cells = zb.cells ∧ blk.es = zb.es)) →
      (∀ a, VR Z om (.osl g) a → VR Z' (om.cut fun k => !Nat.beq k g) (.fsl w cs) a) →
      GRel Z' (om.cut fun k => !Nat.beq k g) (fzH g (.fsl w cs) HG) H ∧ (∀ u a, VR Z om u a → VR Z' (om.cut fun k => !Nat.beq k g) (GV.fz g (.fsl w cs) u) a) ∧ Ext Z om HG H Z' (om.cut fun k => !Nat.beq k g) (fzH g (.fsl w cs) HG) H := by
    intro Z' hz hz' hv
    have ho : ∀ k, k ≠ g → (om.cut fun k => !Nat.beq k g) k = om k := fun k n => by
      unfold Om.cut
      rw [if_pos]
      cases hb : Nat.beq k g with
      | true => exact absurd (Nat.eq_of_beq_eq_true hb) n
      | false => simp only [hb, Bool.not_false]
    have hog : (om.cut fun k => !Nat.beq k g) g = none := by unfold Om.cut; rw [if_neg]; simp
    have hV : ∀ u a, VR Z om u a → VR Z' (om.cut fun k => !Nat.beq k g) (GV.fz g (.fsl w cs) u) a := fun u a h => h.fz hz ho hv
    have hS : ∀ k, (lkP (fzH g (.fsl w cs) HG) k).isSome = true → k ≠ g ∧ (lkP HG k).isSome = true := fun k e => by
      rw [lkP_fzH] at e
      split at e
      · cases e
      · rename_i n; refine ⟨n, ?_⟩; cases hx : lkP HG k with
        | none => rw [hx] at e; cases e
        | some _ => rfl
    have hzn : ∀ b, Z b = none → idOf om g ≠ some b → Z' b = none := fun b h1 h2 => by
      cases hb : Z' b with
      | none => rfl
      | some zb =>
        rcases hz' b zb hb with h | ⟨h, _⟩
        · rw [h1] at h; cases h
        · exact absurd h h2
    refine ⟨⟨fun k e => ?_, fun b zb e => ?_, fun k blk e => ?_, fun g1 g2 b n e1 e2 i1 i2 => ?_, fun k b e i => ?_, fun k b blk m e i hb hm => ?_⟩, hV, ⟨Nat.le_refl _, hz, fun b hb hf => ⟨rfl, ?_⟩, fun b hb hf => ?_, fun k b _ e => ?_, fun b hb ho' => ?_, fun b hb h1 h2 => ?_⟩⟩
    · by_cases c : k = g
      · rw [c]; exact hog
      · rw [ho k c]
        rw [lkP_fzH, if_neg c] at e
        exact hr.dom k (by cases hx : lkP HG k with | none => rfl | some _ => rw [hx] at e; cases e)
    · rcases hz' b zb e with h | ⟨h, blk, h1, h2⟩
      · exact hr.zok b zb h
      · exact ⟨hr.old eS h, blk, h1, h2⟩
    · rw [lkP_fzH] at e
      split at e
      · cases e
      · rename_i n
        cases hx : lkP HG k with
        | none => rw [hx] at e; cases e
        | some old =>
          rw [hx] at e; cases e
          cases hr.own k old hx with
          | @box cells _ _ h1 h2 h3 h4 h5 =>
            refine .box (by rw [ho k n]; exact h1) h2 h3 (by rw [GV.fzL_len]; exact h4) fun i c a e1 e2 => ?_
            rw [GV.fzL_at] at e1
            cases hy : cells[i]? with
            | none => rw [hy] at e1; cases e1
            | some y => rw [hy] at e1; cases e1; exact hV _ _ (h5 i y a hy e2)
          | nil h1 hq => exact .nil (by rw [ho k n]; exact h1) hq
          | arr h1 h2 h3 h4 h5 h6 h7 h8 => exact .arr (by rw [ho k n]; exact h1) h2 h3 h4 h5 h6 h7 (h8.mono hz)
    · exact hr.sep g1 g2 b n (hS _ e1).2 (hS _ e2).2 (idOf_cut i1) (idOf_cut i2)
    · obtain ⟨n, e⟩ := hS k e
      have := hr.zsep k b e (idOf_cut i)
      exact ⟨hzn b this.1 (fun c => hr.sep k g b n e eS (idOf_cut i) c), this.2⟩
    · obtain ⟨n, e⟩ := hS k e
      obtain ⟨a1, a2, a3⟩ := hr.mate k b blk m e (idOf_cut i) hb hm
      exact ⟨a1, hzn m a2 (a3 g eS), fun k' e' i' => a3 k' (hS k' e').2 (idOf_cut i')⟩
    · by_cases c : Z b = none
      · rw [c]; exact hzn b c (fun x => hf ⟨g, eS, .inl x⟩)
      · cases hb' : Z b with
        | none => exact absurd hb' c
        | some zb => exact hz b zb hb'
    · obtain ⟨k, e, f⟩ := hf
      refine ⟨k, (hS k e).2, ?_⟩
      rcases f with f | ⟨b', blk, f, f2⟩
      · exact .inl (idOf_cut f)
      · exact .inr ⟨b', blk, idOf_cut f, f2⟩
    · rw [ho k (fun c => by
        subst c
        rcases hr.arr hg with ⟨c1, _⟩ | ⟨_, _, _, _, _, c1, _⟩ <;> rw [c1] at e <;> cases e)]
      exact e
    · obtain ⟨k, e, f⟩ := ho'
      exact ⟨k, (hS k e).2, idOf_cut f⟩
    · by_cases c : idOf om g = some b
      · exact ⟨g, eS, c⟩
      · exact absurd (hzn b h1 c) h2
  rcases hr.arr hg with ⟨c1, rfl⟩ | ⟨b, o, cap, ex, blk, c1, c2, c3, c4, c5, c6, c7, c8⟩
  · refine ⟨Z, _, .refl _, key Z (.refl _) (fun b zb h => .inl h) (fun a ha => ?_)⟩
    rcases ha.osl_inv with ⟨_, _, _, _, _, _, e', rfl⟩ | ⟨e', rfl⟩
    · rw [c1] at e'; cases e'
    · exact .pure .fnil
  · have hid : idOf om g = some b := idOf_eq c1 rfl
    have hzb := (hr.zsep g b eS hid).1
    have hz : ZLe Z (fun k => if k = b then some ⟨blk.cells, blk.es⟩ else Z k) := fun k zb e => by
      show (if k = b then _ else _) = _
      rw [if_neg (fun c => by rw [c, hzb] at e; cases e)]; exact e
    refine ⟨_, _, hz, key _ hz (fun k zb h => ?_) (fun a ha => ?_)⟩
    · by_cases c : k = b
      · subst c
        have h' : (if k = k then some (⟨blk.cells, blk.es⟩ : ZB) else Z k) = some zb := h
        rw [if_pos rfl] at h'
        cases h'
        exact .inr ⟨hid, blk, c2, rfl, rfl⟩
      · have h' : (if k = b then some (⟨blk.cells, blk.es⟩ : ZB) else Z k) = some zb := h
        rw [if_neg c] at h'
        exact .inl h'
    · rcases ha.osl_inv with ⟨_, _, _, _, _, _, e', rfl⟩ | ⟨e', rfl⟩
      · rw [c1] at e'; cases e'
        exact .pure (PR.sl (zb := ⟨blk.cells, blk.es⟩) (if_pos rfl) c4 rfl c5 (c8.mono hz))
      · rw [c1] at e'; cases e'
end
section
variable {A : AProg} {L : GFr} {HG : GHp} {l : List AOper}
theorem FR.fz {Z Z' : ZM} {om om' : Om} {L : GFr} {fr : T AV} {g : Nat} {v : GV} (h : FR Z om L fr) (hv : ∀ u a, VR Z om u a → VR Z' om' (GV.fz g v u) a) : FR Z' om' (fzF g v L) fr := fun k x e => by
  rw [lkP_fzF] at e
  cases hx : lkP L k with
  | none => rw [hx] at e; cases e
  | some y =>
    rw [hx] at e; cases e
    obtain ⟨a, h1, h2⟩ := h k y hx
    exact ⟨a, h1, hv y a h2⟩
theorem WpG.freeze {c : AC} {Q : AE → GFr → GHp → Prop} (g : Nat) {w : Nat} {full : Fl} {cs : List (List GV)} (hg : lkP HG g = some (.arr full w cs)) (h : WpG A c (fzF g (.fsl w cs) L) (fzH g (.fsl w cs) HG) Q) : WpG A c L HG Q := fun Z om fr H hr hf => by
  obtain ⟨Z', om', h1, h2, h3, h4⟩ := hr.freeze hg
  refine (h Z' om' fr H h2 (hf.fz h3)).mono ?_
  rintro e fr' H' ⟨Z2, om2, L2, HG2, a2, b2, c2, d2⟩
  exact ⟨Z2, om2, L2, HG2, a2, b2, h4.trans c2, d2⟩
theorem WpOpsG.freeze {Q : GFr → GHp → Prop} (g : Nat) {w : Nat} {full : Fl} {cs : List (List GV)} (hg : lkP HG g = some (.arr full w cs)) (h : WpOpsG A l (fzF g (.fsl w cs) L) (fzH g (.fsl w cs) HG) Q) : WpOpsG A l L HG Q := fun Z om fr H hr hf => by
  obtain ⟨Z', om', h1, h2, h3, h4⟩ := hr.freeze hg
  refine (h Z' om' fr H h2 (hf.fz h3)).mono ?_
  rintro fr' H' ⟨Z2, om2, L2, HG2, a2, b2, c2, d2⟩
  exact ⟨Z2, om2, L2, HG2, a2, b2, h4.trans c2, d2⟩
end
end Go.AM
