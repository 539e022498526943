/- The machine over plain data: rules for each operation, calls. No condition. -/
import Derived.Test.YtkohanehgndmhaaGM6
set_option linter.all false
namespace Go.AM
/-! ## Calls -/
def argG : Nat → List GV → GFr
  | _, [] => []
  | i, v :: vs => (i, v) :: argG (i + 1) vs
theorem argFrame_lt : ∀ {as : List AV} {i k : Nat} {fr : T AV}, k < i → (argFrame i as fr).get k = fr.get k
  | [], _, _, _, _ => rfl
  | a :: as, i, k, fr, h => by rw [argFrame, argFrame_lt (by omega), T.get_set, if_neg (by omega)]
theorem FR.args {Z : ZM} {om : Om} {vs : List GV} {as : List AV} (h : VRs Z om vs as) : ∀ {i : Nat} {fr : T AV}, FR Z om (argG i vs) (argFrame i as fr) := by
  induction h with
  | nil => intro i fr k v e; cases e
  | cons h _ ih =>
    intro i fr k v e
    rw [argG, lkP_cons] at e
    rw [argFrame]
    split at e
    · rename_i c
      cases e
      have c' : i = k := c
      subst c'
      exact ⟨_, by rw [argFrame_lt (by omega), T.get_set, if_pos rfl], h⟩
    · exact ih k v e
def resG (HG : GHp) (L : GFr) : ARes → Option GV
  | .tmp t => lkP L t
  | .cell1 t => match lkP L t with
    | some (.bptr g off) => match lkP HG g with
      | some (.box cs) => cs[off]?
      | _ => none
    | _ => none
  | .cellN t n => match lkP L t with
    | some (.bptr g off) => match lkP HG g with
      | some (.box cs) => match takeG n (cs.drop off) with
        | some vs => some (.agg vs)
        | none => none
      | _ => none
    | _ => none
def ressG (HG : GHp) (L : GFr) : List ARes → Option (List GV)
  | [] => some []
  | r :: rs => match resG HG L r with
    | some v => match ressG HG L rs with
      | some vs => some (v :: vs)
      | none => none
    | none => none
def outG : List GV → GV
  | [v] => v
  | vs => .tup vs
section
variable {Z : ZM} {om : Om} {HG : GHp} {H : Heap} {L : GFr} {fr : T AV}
theorem resG_ok (hr : GRel Z om HG H) (hf : FR Z om L fr) {r : ARes} {v : GV} (e : resG HG L r = some v) : ∃ a, getResult H fr r = some a ∧ VR Z om v a := by
  cases r with
  | tmp t => exact hf t v e
  | cell1 t =>
    rw [resG] at e
    split at e
    · rename_i g off hx
      split at e
      · rename_i cs hg
        obtain ⟨a, h1, h2⟩ := hf t _ hx
        obtain ⟨b, hb, rfl⟩ := h2.bptr_inv
        obtain ⟨b', blk, c1, c2, c3, c4, c5⟩ := hr.box hg
        rw [hb] at c1; cases c1
        have hi : off < blk.cells.length := by rw [← c4]; exact (List.getElem?_eq_some_iff.1 e).1
        have := takeN_of (cells := blk.cells) (off := off) (n := 1) (ws := [blk.cells[off]]) rfl (fun i hi' => by
          obtain rfl : i = 0 := by omega
          simp [hi])
        exact ⟨blk.cells[off], by simp only [getResult, h1, getN, c2, this], c5 off v _ e (by simp [hi])⟩
      · cases e
    · cases e
  | cellN t n =>
    rw [resG] at e
    split at e
    · rename_i g off hx
      split at e
      · rename_i cs hg
        split at e
        · rename_i vs hv
          cases e
          obtain ⟨a, h1, h2⟩ := hf t _ hx
          obtain ⟨b, hb, rfl⟩ := h2.bptr_inv
          obtain ⟨b', blk, c1, c2, c3, c4, c5⟩ := hr.box hg
          rw [hb] at c1; cases c1
          obtain ⟨ws, g1, g2, g3⟩ := takeG_ok (as := blk.cells.drop off) (P := VR Z om) hv (by simp [c4]) (fun i c a e f => c5 (off + i) c a (by simpa using e) (by simpa using f))
          exact ⟨.agg ws, by simp only [getResult, h1, getN, c2, g1, Option.map], .agg g2 g3⟩
        · cases e
      · cases e
    · cases e
theorem ressG_ok (hr : GRel Z om HG H) (hf : FR Z om L fr) : ∀ {rs : List ARes} {vs : List GV}, ressG HG L rs = some vs → ∃ as, getResults H fr rs = some as ∧ VRs Z om vs as
  | [], vs, e => by cases e; exact ⟨[], rfl, .nil⟩
  | r :: rs, vs, e => by
    rw [ressG] at e
    cases hx : resG HG L r with
    | none => simp only [hx] at e; cases e
    | some v =>
      simp only [hx] at e
      cases hy : ressG HG L rs with
      | none => simp only [hy] at e; cases e
      | some ws =>
        simp only [hy, Option.some.injEq] at e
        subst e
        obtain ⟨a, h1, h2⟩ := resG_ok hr hf hx
        obtain ⟨as, k1, k2⟩ := ressG_ok hr hf hy
        exact ⟨a :: as, by rw [getResults, h1, k1], .cons h2 k2⟩
theorem VRs.out {vs : List GV} {as : List AV} (h : VRs Z om vs as) : VR Z om (outG vs) (outA as) := by
  cases h with
  | nil => exact .tup rfl (fun i c a e => by cases i <;> cases e)
  | cons h k => cases k with
    | nil => exact h
    | cons h' k' => exact .tup (VRs.cons h (.cons h' k')).length (VRs.cons h (.cons h' k')).at
theorem VRs.cut {D : Nat → Bool} {vs : List GV} {as : List AV} (h : VRs Z om vs as) (k : GV.okL D vs = true) : VRs Z (om.cut D) vs as := by
  induction h with
  | nil => exact .nil
  | cons h _ ih =>
    rw [GV.okL, Bool.and_eq_true] at k
    exact .cons (h.cut k.1) (ih k.2)
end
def funG (rs : List ARes) (Q : GV → GHp → Prop) : AE → GFr → GHp → Prop
  | .ex _, _, _ => False
  | _, L, HG => ∃ vs HG', ressG HG L rs = some vs ∧ HLe HG' HG ∧ GV.okL HG'.D vs = true ∧ cleanH HG'.D HG' = true ∧ pins HG' HG = true ∧ Q (outG vs) HG'
def lt10 : GHp → Bool
  | [] => true
  | p :: r => Nat.blt p.1 10 && lt10 r
theorem lt10_at : ∀ {P : GHp} {g : Nat}, lt10 P = true → (lkP P g).isSome = true → g < 10
  | [], _, _, h => by cases h
  | p :: r, g, h, e => by
    rw [lt10, Bool.and_eq_true] at h
    rw [lkP_cons] at e
    split at e
    · rename_i c; rw [← c]; exact Nat.le_of_ble_eq_true h.1
    · exact lt10_at h.2 e
theorem GRel.some_dom {Z : ZM} {om : Om} {HG : GHp} {H : Heap} (h : GRel Z om HG H) {g : Nat} {l : OL} (e : om g = some l) : (lkP HG g).isSome = true := by
  cases hx : lkP HG g with
  | none => rw [h.dom g hx] at e; cases e
  | some _ => rfl
section
variable {A : AProg}
theorem WpCallG.intro {f : Nat} {fn : AFunc} {vs : List GV} {P : GHp} {Q : GV → GHp → Prop} (hf : A.get f = some fn) (hl : Nat.beq vs.length fn.nparams = true) (hP : lt10 P = true) (h : WpG A fn.code (argG 0 vs) P (funG fn.results Q)) : WpCallG A f vs P Q := fun Z om as H hr hv => by
  refine WpCall.intro hf (by rw [← hv.length]; exact Nat.eq_of_beq_eq_true hl) ((h Z om _ H hr (FR.args hv)).mono ?_)
  rintro e fr' H' ⟨Z', om', L', HG', a, b, c, d⟩
  have main : (∃ vs HG2, ressG HG' L' fn.results = some vs ∧ HLe HG2 HG' ∧ GV.okL HG2.D vs = true ∧ cleanH HG2.D HG2 = true ∧ pins HG2 HG' = true ∧ Q (outG vs) HG2) →
      ∃ ws, getResults H' fr' fn.results = some ws ∧ ∃ Z' om' v HG', GRel Z' om' HG' H' ∧ VR Z' om' v (outA ws) ∧ Ext Z om P H Z' om' HG' H' ∧ (∀ g b, om g = some (.box b) → om' g = some (.box b)) ∧ Q v HG' := by
    rintro ⟨vs', HG2, h1, h2, h3, h4, h5, h6⟩
    obtain ⟨ws, k1, k2⟩ := ressG_ok a b h1
    have ex := c.trans (Ext.less a h2 h5)
    exact ⟨ws, k1, Z', _, _, HG2, a.less h2 h4, (k2.cut h3).out, ex, fun g b' e => ex.stab g b' (lt10_at hP (hr.some_dom e)) e, h6⟩
  cases e with
  | ex i => exact d.elim
  | nm => exact main d
  | rt => exact main d
/-- names of the caller's that the callee has -/
def stPs : GHp → GFr → GFr
  | [], L => L
  | (g, .arr _ _ _) :: r, L => stL g (stPs r L)
  | (_, .box _) :: r, L => stPs r L
def stPh : GHp → GHp → GHp
  | [], L => L
  | (g, .arr _ _ _) :: r, L => stH g (stPh r L)
  | (_, .box _) :: r, L => stPh r L
def dropP (P : GHp) : GHp → GHp
  | [] => []
  | p :: r => match (lkP P p.1).isSome with
    | true => dropP P r
    | false => p :: dropP P r
theorem lkP_dropP {P : GHp} : ∀ {L : GHp} {k : Nat}, lkP (dropP P L) k = if (lkP P k).isSome = true then none else lkP L k
  | [], k => by split <;> rfl
  | p :: r, k => by
    rw [dropP]
    cases hb : (lkP P p.1).isSome with
    | true =>
      simp only []
      rw [lkP_dropP, lkP_cons]
      by_cases c : p.1 = k
      · subst c; rw [if_pos hb, if_pos hb]
      · rw [if_neg c]
    | false =>
      simp only []
      rw [lkP_cons, lkP_cons, lkP_dropP]
      by_cases c : p.1 = k
      · subst c; rw [if_pos rfl, hb, if_neg (by simp), if_pos rfl]
      · rw [if_neg c, if_neg c]
/-- new names are new -/
def newOk (P HG : GHp) : GHp → Bool
  | [] => true
  | p :: r => ((lkP P p.1).isSome || (lkP HG p.1).isNone) && newOk P HG r
theorem newOk_at {P HG : GHp} : ∀ {H1 : GHp} {g : Nat}, newOk P HG H1 = true → (lkP H1 g).isSome = true → (lkP P g).isSome = true ∨ lkP HG g = none
  | [], _, _, h => by cases h
  | p :: r, g, h, e => by
    rw [newOk, Bool.and_eq_true, Bool.or_eq_true] at h
    rw [lkP_cons] at e
    split at e
    · rename_i c
      rw [← c]
      rcases h.1 with h | h
      · exact .inl h
      · exact .inr (by simpa using h)
    · exact newOk_at h.2 e
theorem lkP_append {β : Type} : ∀ {a b : List (Nat × β)} {k : Nat}, lkP (a ++ b) k = match lkP a k with | some v => some v | none => lkP b k
  | [], _, _ => rfl
  | p :: a, b, k => by
    rw [List.cons_append, lkP_cons, lkP_cons]
    split
    · rfl
    · exact lkP_append
/-- a box, or a slice that has moved: then nothing speaks of it -/
def stV : GHp → GV → GV
  | [], v => v
  | (g, .arr _ _ _) :: r, v => (stV r v).st g
  | (_, .box _) :: r, v => stV r v
theorem lkP_stPs : ∀ {P : GHp} {L : GFr} {k : Nat}, lkP (stPs P L) k = (lkP L k).map (stV P)
  | [], L, k => by cases h : lkP L k <;> simp [stPs, stV, h]
  | (g, .arr _ _ _) :: r, L, k => by rw [stPs, lkP_stL, lkP_stPs]; cases lkP L k <;> rfl
  | (g, .box _) :: r, L, k => by rw [stPs, lkP_stPs]; cases lkP L k <;> rfl
def stVC : GHp → List GV → List GV
  | [], v => v
  | (g, .arr _ _ _) :: r, v => stC g (stVC r v)
  | (_, .box _) :: r, v => stVC r v
theorem stVC_len : ∀ {P : GHp} {cs : List GV}, (stVC P cs).length = cs.length
  | [], _ => rfl
  | (g, .arr _ _ _) :: r, cs => by rw [stVC, stC_len, stVC_len]
  | (g, .box _) :: r, cs => by rw [stVC, stVC_len]
theorem stVC_at : ∀ {P : GHp} {cs : List GV} {i : Nat}, (stVC P cs)[i]? = (cs[i]?).map (stV P)
  | [], cs, i => by cases h : cs[i]? <;> simp [stVC, stV, h]
  | (g, .arr _ _ _) :: r, cs, i => by rw [stVC, stC_at, stVC_at]; cases cs[i]? <;> rfl
  | (g, .box _) :: r, cs, i => by rw [stVC, stVC_at]; cases cs[i]? <;> rfl
theorem lkP_stPh_box : ∀ {P HG : GHp} {k : Nat} {cs : List GV}, lkP HG k = some (.box cs) → lkP (stPh P HG) k = some (.box (stVC P cs))
  | [], HG, k, cs, h => h
  | (g, .arr _ _ _) :: r, HG, k, cs, h => by rw [stPh, lkP_stH, lkP_stPh_box h]; rfl
  | (g, .box _) :: r, HG, k, cs, h => by rw [stPh, lkP_stPh_box h]; rfl
theorem lkP_stPh_arr : ∀ {P HG : GHp} {k w : Nat} {f : Fl} {cs : List (List GV)}, lkP HG k = some (.arr f w cs) → lkP (stPh P HG) k = some (.arr f w cs)
  | [], HG, k, _, _, cs, h => h
  | (g, .arr _ _ _) :: r, HG, k, _, _, cs, h => by rw [stPh, lkP_stH, lkP_stPh_arr h]; rfl
  | (g, .box _) :: r, HG, k, _, _, cs, h => by rw [stPh, lkP_stPh_arr h]
theorem lkP_stPh_none : ∀ {P HG : GHp} {k : Nat}, (lkP (stPh P HG) k).isSome = (lkP HG k).isSome
  | [], HG, k => rfl
  | (g, .arr _ _ _) :: r, HG, k => by rw [stPh, stH_some, lkP_stPh_none]
  | (g, .box _) :: r, HG, k => by rw [stPh, lkP_stPh_none]
theorem VR.stVs {Z Z' : ZM} {om om' : Om} : ∀ (P : GHp) {v : GV} {a : AV}, VR Z om v a → ZLe Z Z' → (∀ k l, om k = some l → (∃ f w cs, (k, GBlk.arr f w cs) ∈ P) ∨ om' k = some l) → VR Z' om' (stV P v) a
  | [], v, a, h, hz, ho => h.mono hz fun k l e => by
      rcases ho k l e with ⟨_, _, _, hm⟩ | h
      · cases hm
      · exact h
  | (g, .box cs) :: r, v, a, h, hz, ho => by
    rw [stV]
    exact VR.stVs r h hz fun k l e => by
      rcases ho k l e with ⟨f, w, cs', hm⟩ | h
      · rcases List.mem_cons.1 hm with hm | hm
        · cases hm
        · exact .inl ⟨f, w, cs', hm⟩
      · exact .inr h
  | (g, .arr f0 w0 cs0) :: r, v, a, h, hz, ho => by
    rw [stV]
    have := VR.stVs (Z' := Z') (om' := fun k => if k = g then om k else om' k) r h hz fun k l e => by
      by_cases c : k = g
      · right; show (if k = g then _ else _) = _; rw [if_pos c]; exact e
      · rcases ho k l e with ⟨f, w, cs', hm⟩ | h
        · rcases List.mem_cons.1 hm with hm | hm
          · cases hm; exact absurd rfl c
          · exact .inl ⟨f, w, cs', hm⟩
        · right; show (if k = g then _ else _) = _; rw [if_neg c]; exact h
    exact this.st (.refl _) fun k n => by show om' k = (if k = g then _ else _); rw [if_neg n]
theorem mem_lkP : ∀ {P : GHp} {g : Nat} {b : GBlk}, (g, b) ∈ P → (lkP P g).isSome = true
  | p :: r, g, b, h => by
    rw [lkP_cons]
    split
    · rfl
    · rename_i c
      rcases List.mem_cons.1 h with h | h
      · rw [← h] at c; exact absurd rfl c
      · exact mem_lkP h
variable {L : GFr} {HG : GHp} {l : List AOper} {Q : GFr → GHp → Prop}
theorem lkP_mem : ∀ {P : GHp} {g : Nat} {b : GBlk}, lkP P g = some b → (g, b) ∈ P
  | p :: r, g, b, h => by
    rw [lkP_cons] at h
    split at h
    · rename_i c; cases h; cases p; cases c; exact List.mem_cons_self
    · exact List.mem_cons_of_mem _ (lkP_mem h)
/-- the world behind a call, for whoever called -/
theorem call_merge {Z : ZM} {om : Om} {H : Heap} {P : GHp} (hr : GRel Z om HG H) (hP : HLe P HG) {Z' : ZM} {om1 : Om} {H1 : GHp} {H' : Heap}
    (h1 : GRel Z' om1 H1 H') (h2 : Ext Z (om.cut P.D) P H Z' om1 H1 H') (h3 : ∀ g b, (om.cut P.D) g = some (.box b) → om1 g = some (.box b)) (hn : newOk P HG H1 = true) :
    ∃ om', GRel Z' om' (H1 ++ dropP P (stPh P HG)) H' ∧ Ext Z om HG H Z' om' (H1 ++ dropP P (stPh P HG)) H' ∧ (∀ v a, VR Z' om1 v a → VR Z' om' v a) ∧ ∀ v a, VR Z om v a → VR Z' om' (stV P v) a := by
  have hcutP : ∀ g, P.D g = true → (om.cut P.D) g = om g := fun g e => by unfold Om.cut; rw [if_pos e]
  have hset : ∃ om' : Om, (∀ g, P.D g = true ∨ H1.D g = true → om' g = om1 g) ∧ ∀ g, P.D g = false → H1.D g = false → om' g = om g :=
    ⟨fun g => if P.D g = true ∨ H1.D g = true then om1 g else om g, fun g h => if_pos h, fun g a b => if_neg (by rw [a, b]; simp)⟩
  obtain ⟨om', o1, o2⟩ := hset
  have hD : ∀ g, H1.D g = true → P.D g = true ∨ lkP HG g = none := fun g e => newOk_at hn e
  have hrest : ∀ g, (lkP (H1 ++ dropP P (stPh P HG)) g).isSome = true → H1.D g = true ∨ (H1.D g = false ∧ P.D g = false ∧ (lkP HG g).isSome = true) := fun g e => by
    rw [lkP_append] at e
    cases hx : lkP H1 g with
    | some _ => left; unfold GHp.D; rw [hx]; rfl
    | none =>
      right
      rw [hx] at e
      simp only [] at e
      rw [lkP_dropP] at e
      split at e
      · cases e
      · rename_i c
        rw [lkP_stPh_none] at e
        exact ⟨by unfold GHp.D; rw [hx]; rfl, by unfold GHp.D; simpa using c, e⟩
  have hsub : ∀ g, P.D g = true → (lkP HG g).isSome = true := fun g e => hP.isSome e
  have idr : ∀ g, P.D g = false → H1.D g = false → idOf om' g = idOf om g := fun g a b => by unfold idOf; rw [o2 g a b]
  have id1 : ∀ g, H1.D g = true → idOf om' g = idOf om1 g := fun g a => by unfold idOf; rw [o1 g (.inr a)]
  have idc : ∀ g b, idOf (om.cut P.D) g = some b → P.D g = true ∧ idOf om g = some b := fun g b e => by
    unfold idOf Om.cut at e
    split at e
    · rename_i c; exact ⟨c, e⟩
    · cases e
  -- what the caller has kept is out of the callee's reach
  have nofoot : ∀ g b, P.D g = false → (lkP HG g).isSome = true → idOf om g = some b → ¬ Foot (om.cut P.D) P H b := fun g b hp hs hi hf => by
    obtain ⟨k, hk, hf⟩ := hf
    have hne : k ≠ g := fun c => by rw [c] at hk; have : P.D g = true := hk; rw [hp] at this; cases this
    rcases hf with hf | ⟨b', blk, hf, hb, hm⟩
    · exact hr.sep k g b hne (hsub k hk) hs (idOf_cut hf) hi
    · exact (hr.mate k b' blk b (hsub k hk) (idOf_cut hf) hb hm).2.2 g hs hi
  have keep : ∀ g b, P.D g = false → (lkP HG g).isSome = true → idOf om g = some b → H'.blks.get b = H.blks.get b ∧ Z' b = Z b := fun g b hp hs hi =>
    h2.old b (hr.old hs hi) (nofoot g b hp hs hi)
  have noown : ∀ k b, H1.D k = true → idOf om1 k = some b → b < H.next → ∃ k', P.D k' = true ∧ idOf om k' = some b := fun k b hk hi hb => by
    obtain ⟨k', e, f⟩ := h2.ownb b hb ⟨k, hk, hi⟩
    exact ⟨k', e, idOf_cut f⟩
  have hV1 : ∀ v a, VR Z' om1 v a → VR Z' om' v a := fun v a h => h.mono (.refl _) fun k l' e => by rw [o1 k (.inr (h1.some_dom e))]; exact e
  have hV : ∀ v a, VR Z om v a → VR Z' om' (stV P v) a := fun v a h => VR.stVs P h h2.zle fun k l' e => by
    have hs := hr.some_dom e
    cases hp : P.D k with
    | true =>
      cases hx : lkP P k with
      | none => unfold GHp.D at hp; rw [hx] at hp; cases hp
      | some blk =>
        cases blk with
        | arr f w cs => exact .inl ⟨f, w, cs, lkP_mem hx⟩
        | box cs =>
          right
          obtain ⟨b, _, hb, _⟩ := hr.box (hP k _ hx)
          rw [hb] at e; cases e
          rw [o1 k (.inl hp)]
          exact h3 k b (by rw [hcutP k hp]; exact hb)
    | false =>
      right
      cases hx : H1.D k with
      | true =>
        rcases hD k hx with h | h
        · rw [hp] at h; cases h
        · rw [h] at hs; cases hs
      | false => rw [o2 k hp hx]; exact e
  refine ⟨om', ⟨fun g e => ?_, h1.zok, fun g blk e => ?_, fun g1 g2 b n e1 e2 i1 i2 => ?_, fun g b e i => ?_, fun g b blk m e i hb hm => ?_⟩, ⟨h2.next, h2.zle, fun b hb hf => ?_, fun b hb hf => ?_, fun g b hg e => ?_, fun b hb ho => ?_, fun b hb z1 z2 => ?_⟩, hV1, hV⟩
  · rw [lkP_append] at e
    cases hx : lkP H1 g with
    | some _ => rw [hx] at e; cases e
    | none =>
      rw [hx] at e
      simp only [] at e
      rw [lkP_dropP] at e
      have hd1 : H1.D g = false := by unfold GHp.D; rw [hx]; rfl
      split at e
      · rename_i c
        rw [o1 g (.inl c)]; exact h1.dom g hx
      · rename_i c
        have hp : P.D g = false := by unfold GHp.D; simpa using c
        rw [o2 g hp hd1]
        refine hr.dom g ?_
        have := lkP_stPh_none (P := P) (HG := HG) (k := g)
        rw [e] at this
        cases hy : lkP HG g with
        | none => rfl
        | some _ => rw [hy] at this; cases this
  · rw [lkP_append] at e
    cases hx : lkP H1 g with
    | some blk' =>
      rw [hx] at e
      cases e
      have hd1 : H1.D g = true := by unfold GHp.D; rw [hx]; rfl
      exact (h1.own g _ hx).keep (o1 g (.inr hd1)) (fun _ _ => rfl) hV1 (.refl _)
    | none =>
      rw [hx] at e
      simp only [] at e
      have hd1 : H1.D g = false := by unfold GHp.D; rw [hx]; rfl
      rw [lkP_dropP] at e
      split at e
      · cases e
      · rename_i c
        have hp : P.D g = false := by unfold GHp.D; simpa using c
        cases hy : lkP HG g with
        | none => have := lkP_stPh_none (P := P) (HG := HG) (k := g); rw [e, hy] at this; cases this
        | some old =>
          have hs : (lkP HG g).isSome = true := by rw [hy]; rfl
          have ho := o2 g hp hd1
          cases hr.own g old hy with
          | @box cells b blk0 q1 q2 q3 q4 q5 =>
            rw [lkP_stPh_box hy] at e; cases e
            have := keep g b hp hs (idOf_eq q1 rfl)
            refine .box (by rw [ho]; exact q1) (by rw [this.1]; exact q2) q3 (by rw [stVC_len]; exact q4) fun i c a e1 e2 => ?_
            rw [stVC_at] at e1
            cases hz : cells[i]? with
            | none => rw [hz] at e1; cases e1
            | some y => rw [hz] at e1; cases e1; exact hV _ _ (q5 i y a hz e2)
          | nil q1 qf =>
            rw [lkP_stPh_arr hy] at e; cases e
            exact .nil (by rw [ho]; exact q1) qf
          | arr q1 q2 q3 q4 q5 q6 q7 q8 =>
            rw [lkP_stPh_arr hy] at e; cases e
            have := keep g _ hp hs (idOf_eq q1 rfl)
            exact .arr (by rw [ho]; exact q1) (by rw [this.1]; exact q2) q3 q4 q5 q6 q7 (q8.mono h2.zle)
  · have cross : ∀ g1 g2, H1.D g1 = true → H1.D g2 = false → P.D g2 = false → (lkP HG g2).isSome = true → idOf om' g1 = some b → idOf om' g2 ≠ some b := fun g1 g2 a1 a2 a3 a4 i1 i2 => by
      rw [id1 g1 a1] at i1
      rw [idr g2 a3 a2] at i2
      have hb := hr.old a4 i2
      obtain ⟨k', c1, c2⟩ := noown g1 b a1 i1 hb
      exact hr.sep k' g2 b (fun c => by rw [c, a3] at c1; cases c1) (hsub k' c1) a4 c2 i2
    rcases hrest g1 e1 with a | ⟨a1, a2, a3⟩
    · rcases hrest g2 e2 with c | ⟨c1, c2, c3⟩
      · rw [id1 g1 a] at i1
        rw [id1 g2 c] at i2
        exact h1.sep g1 g2 b n a c i1 i2
      · exact cross g1 g2 a c1 c2 c3 i1 i2
    · rcases hrest g2 e2 with c | ⟨c1, c2, c3⟩
      · exact cross g2 g1 c a1 a2 a3 i2 i1
      · rw [idr g1 a2 a1] at i1
        rw [idr g2 c2 c1] at i2
        exact hr.sep g1 g2 b n a3 c3 i1 i2
  · rcases hrest g e with a | ⟨a1, a2, a3⟩
    · rw [id1 g a] at i; exact h1.zsep g b a i
    · rw [idr g a2 a1] at i
      have := hr.zsep g b a3 i
      exact ⟨by rw [(keep g b a2 a3 i).2]; exact this.1, Nat.lt_of_lt_of_le this.2 h2.next⟩
  · rcases hrest g e with a | ⟨a1, a2, a3⟩
    · rw [id1 g a] at i
      obtain ⟨m1, m2, m3⟩ := h1.mate g b blk m a i hb hm
      refine ⟨m1, m2, fun g' e' i' => ?_⟩
      rcases hrest g' e' with c | ⟨c1, c2, c3⟩
      · rw [id1 g' c] at i'; exact m3 g' c i'
      · rw [idr g' c2 c1] at i'
        have hf : Foot om1 H1 H' m := ⟨g, a, .inr ⟨b, blk, i, hb, hm⟩⟩
        exact nofoot g' m c2 c3 i' (h2.foot m (hr.old c3 i') hf)
    · rw [idr g a2 a1] at i
      rw [(keep g b a2 a3 i).1] at hb
      obtain ⟨m1, m2, m3⟩ := hr.mate g b blk m a3 i hb hm
      refine ⟨Nat.lt_of_lt_of_le m1 h2.next, ?_, fun g' e' i' => ?_⟩
      · by_cases c : Z' m = none
        · exact c
        · obtain ⟨k, e1, f1⟩ := h2.zown m m1 m2 c
          exact absurd (idOf_cut f1) (m3 k (hsub k e1))
      · rcases hrest g' e' with c | ⟨c1, c2, c3⟩
        · rw [id1 g' c] at i'
          obtain ⟨k', d1, d2⟩ := noown g' m c i' m1
          exact m3 k' (hsub k' d1) d2
        · rw [idr g' c2 c1] at i'
          exact m3 g' c3 i'
  · refine h2.old b hb fun hf' => hf ?_
    obtain ⟨k, e, f⟩ := hf'
    refine ⟨k, hsub k e, ?_⟩
    rcases f with f | ⟨b', blk, f, f2⟩
    · exact .inl (idOf_cut f)
    · exact .inr ⟨b', blk, idOf_cut f, f2⟩
  · obtain ⟨g, e, f⟩ := hf
    rcases hrest g e with a | ⟨a1, a2, a3⟩
    · rw [id1 g a] at f
      obtain ⟨k, e, f⟩ := h2.foot b hb ⟨g, a, f⟩
      refine ⟨k, hsub k e, ?_⟩
      rcases f with f | ⟨b', blk, f, f2⟩
      · exact .inl (idOf_cut f)
      · exact .inr ⟨b', blk, idOf_cut f, f2⟩
    · rw [idr g a2 a1] at f
      refine ⟨g, a3, ?_⟩
      rcases f with f | ⟨b', blk, f, f2, f3⟩
      · exact .inl f
      · exact .inr ⟨b', blk, f, by rw [← (keep g b' a2 a3 f).1]; exact f2, f3⟩
  · have hs := hr.some_dom e
    cases hp : P.D g with
    | true => rw [o1 g (.inl hp)]; exact h3 g b (by rw [hcutP g hp]; exact e)
    | false =>
      cases hx : H1.D g with
      | true =>
        rcases hD g hx with h | h
        · rw [hp] at h; cases h
        · rw [h] at hs; cases hs
      | false => rw [o2 g hp hx]; exact e
  · obtain ⟨g, e, f⟩ := ho
    rcases hrest g e with a | ⟨a1, a2, a3⟩
    · rw [id1 g a] at f
      obtain ⟨k', d1, d2⟩ := noown g b a f hb
      exact ⟨k', hsub k' d1, d2⟩
    · rw [idr g a2 a1] at f
      exact ⟨g, a3, f⟩
  · obtain ⟨k, e, f⟩ := h2.zown b hb z1 z2
    exact ⟨k, hsub k e, idOf_cut f⟩
theorem FR.stPs {Z Z' : ZM} {om om' : Om} {P : GHp} {L : GFr} {fr : T AV} (h : FR Z om L fr) (hv : ∀ v a, VR Z om v a → VR Z' om' (stV P v) a) : FR Z' om' (Go.AM.stPs P L) fr := fun k x e => by
  rw [lkP_stPs] at e
  cases hx : lkP L k with
  | none => rw [hx] at e; cases e
  | some y =>
    rw [hx] at e; cases e
    obtain ⟨a, h1, h2⟩ := h k y hx
    exact ⟨a, h1, hv y a h2⟩
theorem G.callX {d : Option Nat} {o : AOp} {f : Nat} {vs : List GV} {P : GHp} {K : GV → GHp → Prop}
    (ho : ∀ Z om fr H, GRel Z om HG H → FR Z om L fr → ∃ as, VRs Z om vs as ∧ ∀ {Q' : AV → Heap → Prop}, WpCall A f as H Q' → WpOp A o fr H Q')
    (hP : hasP HG P) (h1 : GV.okL P.D vs = true) (h2 : cleanH P.D P = true) (hc : WpCallG A f vs P K)
    (k : ∀ v H1, K v H1 → newOk P HG H1 = true ∧ WpOpsG A l (putP (stPs P L) d v) (H1 ++ dropP P (stPh P HG)) Q) : WpOpsG A (⟨d, o, none⟩ :: l) L HG Q := fun Z om fr H hr hf => by
  obtain ⟨as, a1, a2⟩ := ho Z om fr H hr hf
  have hle : HLe P HG := hasP_le hP
  refine WpOps.cons rfl (a2 ((hc Z _ as H (hr.less hle h2) (a1.cut h1)).mono ?_))
  rintro a H' ⟨Z', om1, v, H1, r1, r2, r3, r4, r5⟩
  obtain ⟨n1, k1⟩ := k v H1 r5
  obtain ⟨om', q1, q2, q3, q4⟩ := call_merge hr hle r1 r3 r4 n1
  refine (k1 Z' om' _ H' q1 ((hf.stPs q4).put (q3 _ _ r2) d)).mono ?_
  rintro fr' H2 ⟨Z2, om2, L2, HG2, a2, b2, c2, d2⟩
  exact ⟨Z2, om2, L2, HG2, a2, b2, q2.trans c2, d2⟩
theorem G.call {d : Option Nat} {f : Nat} {xs : List AX} {vs : List GV} {P : GHp} {K : GV → GHp → Prop} (hx : lkGXs L xs = some vs)
    (hP : hasP HG P) (h1 : GV.okL P.D vs = true) (h2 : cleanH P.D P = true) (hc : WpCallG A f vs P K)
    (k : ∀ v H1, K v H1 → newOk P HG H1 = true ∧ WpOpsG A l (putP (stPs P L) d v) (H1 ++ dropP P (stPh P HG)) Q) : WpOpsG A (⟨d, .call f xs, none⟩ :: l) L HG Q :=
  G.callX (fun Z om fr H hr hf => let ⟨as, e, v⟩ := hf.xs hx; ⟨as, v, fun h => WpOp.call e h⟩) hP h1 h2 hc k
theorem G.callv {d : Option Nat} {f : Nat} {x : AX} {xs : List AX} {vs cs : List GV} {P : GHp} {K : GV → GHp → Prop} (hx0 : lkGX L x = some (.fn f cs)) (hx : lkGXs L xs = some vs)
    (hP : hasP HG P) (h1 : GV.okL P.D (vs ++ cs) = true) (h2 : cleanH P.D P = true) (hc : WpCallG A f (vs ++ cs) P K)
    (k : ∀ v H1, K v H1 → newOk P HG H1 = true ∧ WpOpsG A l (putP (stPs P L) d v) (H1 ++ dropP P (stPh P HG)) Q) : WpOpsG A (⟨d, .callv x xs, none⟩ :: l) L HG Q :=
  G.callX (fun Z om fr H hr hf => by
    obtain ⟨as, e, v⟩ := hf.xs hx
    obtain ⟨u, e0, v0⟩ := hf.x hx0
    obtain ⟨bs, rfl, k1, k2⟩ := v0.fn_inv
    exact ⟨as ++ bs, v.append (.of k1 k2), fun h => WpOp.callv e0 e h⟩) hP h1 h2 hc k
/-- a call that is told nothing of one's own, and tells nothing of it -/
theorem G.call0 {d : Option Nat} {f : Nat} {xs : List AX} {vs : List GV} {K : GV → GHp → Prop} (hx : lkGXs L xs = some vs) (h1 : GV.okL (GHp.D []) vs = true) (hc : WpCallG A f vs [] K)
    (k : ∀ v H1, K v H1 → newOk [] HG H1 = true ∧ WpOpsG A l (putP L d v) (H1 ++ HG) Q) : WpOpsG A (⟨d, .call f xs, none⟩ :: l) L HG Q := by
  refine G.call (P := []) hx trivial h1 rfl hc fun v H1 hk => ?_
  have : ∀ (X : GHp), dropP [] X = X := fun X => by
    induction X with
    | nil => rfl
    | cons p r ih => rw [dropP]; exact congrArg _ ih
  rw [show dropP [] (stPh [] HG) = HG from this HG]
  exact k v H1 hk
end
end Go.AM
