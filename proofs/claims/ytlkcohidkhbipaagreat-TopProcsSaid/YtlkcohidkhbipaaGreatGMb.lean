/- The machine over plain data: rules for each operation, calls. No condition. -/
import Derived.Test.YtlkcohidkhbipaaGreatGMa
set_option linter.all false
namespace Go.AM
/-! ## Calls -/
def argG : Nat → List GV → GFr
 | _, [] => []
 | i, v :: vs => (i, v) :: argG (i + 1) vs
theorem argFrame_lt : ∀ {as : List AV} {i k : Nat} {fr : T AV}, k < i → (argFrame i as fr).get k = fr.get k
 | [], _, _, _, _ => rfl
 | a :: as, i, k, fr, h => by rw [argFrame, argFrame_lt (by omega), T.get_set, if_neg (by omega)]
theorem FR.args {Z : ZM} {om : Om} {vs : List GV} {as : List AV} (h : VRs Z om vs as) : ∀ {i : Nat} {fr : T AV}, FR Z om (argG i vs) (argFrame i as fr) := by
 induction h with
 | nil => intro i fr k v e; cases e
 | cons h _ ih =>
   intro i fr k v e
   rw [argG, lkP_cons] at e
   rw [argFrame]
   split at e
   ·rename_i c
    cases e
    have c' : i = k := c
    subst c'
    exact ⟨_, by rw [argFrame_lt (by omega), T.get_set, if_pos rfl], h⟩
   ·exact ih k v e
def resG (HG : GHp) (L : GFr) : ARes → Option GV
 | .tmp t => lkP L t
 | .cell1 t => match lkP L t with
   | some (.bptr g off) => match lkP HG g with
     | some (.box cs) => cs[off]?
     | _ => none
   | _ => none
 | .cellN t n => match lkP L t with
   | some (.bptr g off) => match lkP HG g with
     | some (.box cs) => match takeG n (cs.drop off) with
       | some vs => some (.agg vs)
       | none => none
     | _ => none
   | _ => none
def ressG (HG : GHp) (L : GFr) : List ARes → Option (List GV)
 | [] => some []
 | r :: rs => match resG HG L r with
   | some v => match ressG HG L rs with
     | some vs => some (v :: vs)
     | none => none
   | none => none
def outG : List GV → GV
 | [v] => v
 | vs => .tup vs
section
variable {Z : ZM} {om : Om} {HG : GHp} {H : Heap} {L : GFr} {fr : T AV}
theorem resG_ok (hr : GRel Z om HG H) (hf : FR Z om L fr) {r : ARes} {v : GV} (e : resG HG L r = some v) : ∃ a, getResult H fr r = some a ∧ VR Z om v a := by
 cases r with
 | tmp t => exact hf t v e
 | cell1 t =>
   rw [resG] at e
   split at e
   ·rename_i g off hx
    split at e
    ·rename_i cs hg
     obtain ⟨a, h1, h2⟩ := hf t _ hx
     obtain ⟨b, hb, rfl⟩ := h2.bptr_inv
     obtain ⟨b', blk, c1, c2, c3, c4, c5⟩ := hr.box hg
     rw [hb] at c1; cases c1
     have hi : off < blk.cells.length := by rw [← c4]; exact (List.getElem?_eq_some_iff.1 e).1
     have := takeN_of (cells := blk.cells) (off := off) (n := 1) (ws := [blk.cells[off]]) rfl (fun i hi' => by
      obtain rfl : i = 0 := by omega
      simp [hi])
     exact ⟨blk.cells[off], by simp only [getResult, h1, getN, c2, this], c5 off v _ e (by simp [hi])⟩
    ·cases e
   ·cases e
 | cellN t n =>
   rw [resG] at e
   split at e
   ·rename_i g off hx
    split at e
    ·rename_i cs hg
     split at e
     ·rename_i vs hv
      cases e
      obtain ⟨a, h1, h2⟩ := hf t _ hx
      obtain ⟨b, hb, rfl⟩ := h2.bptr_inv
      obtain ⟨b', blk, c1, c2, c3, c4, c5⟩ := hr.box hg
      rw [hb] at c1; cases c1
      obtain ⟨ws, g1, g2, g3⟩ := takeG_ok (as := blk.cells.drop off) (P := VR Z om) hv (by simp [c4]) (fun i c a e f => c5 (off + i) c a (by simpa using e) (by simpa using f))
      exact ⟨.agg ws, by simp only [getResult, h1, getN, c2, g1, Option.map], .agg g2 g3⟩
     ·cases e
    ·cases e
   ·cases e
theorem ressG_ok (hr : GRel Z om HG H) (hf : FR Z om L fr) : ∀ {rs : List ARes} {vs : List GV}, ressG HG L rs = some vs → ∃ as, getResults H fr rs = some as ∧ VRs Z om vs as
 | [], vs, e => by cases e; exact ⟨[], rfl, .nil⟩
 | r :: rs, vs, e => by
   rw [ressG] at e
   cases hx : resG HG L r with
   | none => simp only [hx] at e; cases e
   | some v =>
     simp only [hx] at e
     cases hy : ressG HG L rs with
     | none => simp only [hy] at e; cases e
     | some ws =>
       simp only [hy, Option.some.injEq] at e
       subst e
       obtain ⟨a, h1, h2⟩ := resG_ok hr hf hx
       obtain ⟨as, k1, k2⟩ := ressG_ok hr hf hy
       exact ⟨a :: as, by rw [getResults, h1, k1], .cons h2 k2⟩
theorem VRs.out {vs : List GV} {as : List AV} (h : VRs Z om vs as) : VR Z om (outG vs) (outA as) := by
 cases h with
 | nil => exact .tup rfl (fun i c a e => by cases i <;> cases e)
 | cons h k => cases k with
   | nil => exact h
   | cons h' k' => exact .tup (VRs.cons h (.cons h' k')).length (VRs.cons h (.cons h' k')).at
theorem VRs.cut {D : Nat → Bool} {vs : List GV} {as : List AV} (h : VRs Z om vs as) (k : GV.okL D vs = true) : VRs Z (om.cut D) vs as := by
 induction h with
 | nil => exact .nil
 | cons h _ ih =>
   rw [GV.okL, Bool.and_eq_true] at k
   exact .cons (h.cut k.1) (ih k.2)
end
def funG (rs : List ARes) (Q : GV → GHp → Prop) : AE → GFr → GHp → Prop
 | .ex _, _, _ => False
 | _, L, HG => ∃ vs HG', ressG HG L rs = some vs ∧ HLe HG' HG ∧ GV.okL HG'.D vs = true ∧ cleanH HG'.D HG' = true ∧ pins HG' HG = true ∧ Q (outG vs) HG'
def lt10 : GHp → Bool
 | [] => true
 | p :: r => Nat.blt p.1 10 && lt10 r
theorem lt10_at : ∀ {P : GHp} {g : Nat}, lt10 P = true → (lkP P g).isSome = true → g < 10
 | [], _, _, h => by cases h
 | p :: r, g, h, e => by
   rw [lt10, Bool.and_eq_true] at h
   rw [lkP_cons] at e
   split at e
   ·rename_i c; rw [← c]; exact Nat.le_of_ble_eq_true h.1
   ·exact lt10_at h.2 e
theorem GRel.some_dom {Z : ZM} {om : Om} {HG : GHp} {H : Heap} (h : GRel Z om HG H) {g : Nat} {l : OL} (e : om g = some l) : (lkP HG g).isSome = true := by
 cases hx : lkP HG g with
 | none => rw [h.dom g hx] at e; cases e
 | some _ => rfl
section
variable {A : AProg}
theorem WpCallG.intro {f : Nat} {fn : AFunc} {vs : List GV} {P : GHp} {Q : GV → GHp → Prop} (hf : A.get f = some fn) (hl : Nat.beq vs.length fn.nparams = true) (hP : lt10 P = true) (h : WpG A fn.code (argG 0 vs) P (funG fn.results Q)) : WpCallG A f vs P Q := fun Z om as H hr hv => by
 refine WpCall.intro hf (by rw [← hv.length]; exact Nat.eq_of_beq_eq_true hl) ((h Z om _ H hr (FR.args hv)).mono ?_)
 rintro e fr' H' ⟨Z', om', L', HG', a, b, c, d⟩
 have main : (∃ vs HG2, ressG HG' L' fn.results = some vs ∧ HLe HG2 HG' ∧ GV.okL HG2.D vs = true ∧ cleanH HG2.D HG2 = true ∧ pins HG2 HG' = true ∧ Q (outG vs) HG2) →
  ∃ ws, getResults H' fr' fn.results = some ws ∧ ∃ Z' om' v HG', GRel Z' om' HG' H' ∧ VR Z' om' v (outA ws) ∧ Ext Z om P H Z' om' HG' H' ∧ (∀ g b, om g = some (.box b) → om' g = some (.box b)) ∧ Q v HG' := by
  rintro ⟨vs', HG2, h1, h2, h3, h4, h5, h6⟩
  obtain ⟨ws, k1, k2⟩ := ressG_ok a b h1
  have ex := c.trans (Ext.less a h2 h5)
  exact ⟨ws, k1, Z', _, _, HG2, a.less h2 h4, (k2.cut h3).out, ex, fun g b' e => ex.stab g _ ⟨lt10_at hP (hr.some_dom e), .inr ⟨b', rfl⟩⟩ e, h6⟩
 cases e with
 | ex i => exact d.elim
 | nm => exact main d
 | rt => exact main d
def stPs : GHp → GFr → GFr
 | [], L => L
 | (g, .arr _ _ _) :: r, L => stL g (stPs r L)
 | (g, .mat _ _) :: r, L => stL g (stPs r L)
 | (_, .box _) :: r, L => stPs r L
def stPh : GHp → GHp → GHp
 | [], L => L
 | (g, .arr _ _ _) :: r, L => stH g (stPh r L)
 | (g, .mat _ _) :: r, L => stH g (stPh r L)
 | (_, .box _) :: r, L => stPh r L
def dropP (P : GHp) : GHp → GHp
 | [] => []
 | p :: r => match (lkP P p.1).isSome with
   | true => dropP P r
   | false => p :: dropP P r
theorem lkP_dropP {P : GHp} : ∀ {L : GHp} {k : Nat}, lkP (dropP P L) k = if (lkP P k).isSome = true then none else lkP L k
 | [], k => by split <;> rfl
 | p :: r, k => by
   rw [dropP]
   cases hb : (lkP P p.1).isSome with
   | true =>
     simp only []
     rw [lkP_dropP, lkP_cons]
     by_cases c : p.1 = k
     ·subst c; rw [if_pos hb, if_pos hb]
     ·rw [if_neg c]
   | false =>
     simp only []
     rw [lkP_cons, lkP_cons, lkP_dropP]
     by_cases c : p.1 = k
     ·subst c; rw [if_pos rfl, hb, if_neg (by simp), if_pos rfl]
     ·rw [if_neg c, if_neg c]
def newOk (P HG : GHp) : GHp → Bool
 | [] => true
 | p :: r => ((lkP P p.1).isSome || (lkP HG p.1).isNone) && newOk P HG r
theorem newOk_at {P HG : GHp} : ∀ {H1 : GHp} {g : Nat}, newOk P HG H1 = true → (lkP H1 g).isSome = true → (lkP P g).isSome = true ∨ lkP HG g = none
 | [], _, _, h => by cases h
 | p :: r, g, h, e => by
   rw [newOk, Bool.and_eq_true, Bool.or_eq_true] at h
   rw [lkP_cons] at e
   split at e
   ·rename_i c
    rw [← c]
    rcases h.1 with h | h
    ·exact .inl h
    ·exact .inr (by simpa using h)
   ·exact newOk_at h.2 e
theorem lkP_append {β : Type} : ∀ {a b : List (Nat × β)} {k : Nat}, lkP (a ++ b) k = match lkP a k with | some v => some v | none => lkP b k
 | [], _, _ => rfl
 | p :: a, b, k => by
   rw [List.cons_append, lkP_cons, lkP_cons]
   split
   ·rfl
   ·exact lkP_append
def stV : GHp → GV → GV
 | [], v => v
 | (g, .arr _ _ _) :: r, v => (stV r v).st g
 | (g, .mat _ _) :: r, v => (stV r v).st g
 | (_, .box _) :: r, v => stV r v
theorem lkP_stPs : ∀ {P : GHp} {L : GFr} {k : Nat}, lkP (stPs P L) k = (lkP L k).map (stV P)
 | [], L, k => by cases h : lkP L k <;> simp [stPs, stV, h]
 | (g, .arr _ _ _) :: r, L, k => by rw [stPs, lkP_stL, lkP_stPs]; cases lkP L k <;> rfl
 | (g, .mat _ _) :: r, L, k => by rw [stPs, lkP_stL, lkP_stPs]; cases lkP L k <;> rfl
 | (g, .box _) :: r, L, k => by rw [stPs, lkP_stPs]; cases lkP L k <;> rfl
def stVC : GHp → List GV → List GV
 | [], v => v
 | (g, .arr _ _ _) :: r, v => stC g (stVC r v)
 | (g, .mat _ _) :: r, v => stC g (stVC r v)
 | (_, .box _) :: r, v => stVC r v
theorem stVC_len : ∀ {P : GHp} {cs : List GV}, (stVC P cs).length = cs.length
 | [], _ => rfl
 | (g, .arr _ _ _) :: r, cs => by rw [stVC, stC_len, stVC_len]
 | (g, .mat _ _) :: r, cs => by rw [stVC, stC_len, stVC_len]
 | (g, .box _) :: r, cs => by rw [stVC, stVC_len]
theorem stVC_at : ∀ {P : GHp} {cs : List GV} {i : Nat}, (stVC P cs)[i]? = (cs[i]?).map (stV P)
 | [], cs, i => by cases h : cs[i]? <;> simp [stVC, stV, h]
 | (g, .arr _ _ _) :: r, cs, i => by rw [stVC, stC_at, stVC_at]; cases cs[i]? <;> rfl
 | (g, .mat _ _) :: r, cs, i => by rw [stVC, stC_at, stVC_at]; cases cs[i]? <;> rfl
 | (g, .box _) :: r, cs, i => by rw [stVC, stVC_at]; cases cs[i]? <;> rfl
theorem lkP_stPh_box : ∀ {P HG : GHp} {k : Nat} {cs : List GV}, lkP HG k = some (.box cs) → lkP (stPh P HG) k = some (.box (stVC P cs))
 | [], HG, k, cs, h => h
 | (g, .arr _ _ _) :: r, HG, k, cs, h => by rw [stPh, lkP_stH, lkP_stPh_box h]; rfl
 | (g, .mat _ _) :: r, HG, k, cs, h => by rw [stPh, lkP_stH, lkP_stPh_box h]; rfl
 | (g, .box _) :: r, HG, k, cs, h => by rw [stPh, lkP_stPh_box h]; rfl
theorem lkP_stPh_arr : ∀ {P HG : GHp} {k w : Nat} {f : Fl} {cs : List (List GV)}, lkP HG k = some (.arr f w cs) → lkP (stPh P HG) k = some (.arr f w cs)
 | [], HG, k, _, _, cs, h => h
 | (g, .arr _ _ _) :: r, HG, k, _, _, cs, h => by rw [stPh, lkP_stH, lkP_stPh_arr h]; rfl
 | (g, .mat _ _) :: r, HG, k, _, _, cs, h => by rw [stPh, lkP_stH, lkP_stPh_arr h]; rfl
 | (g, .box _) :: r, HG, k, _, _, cs, h => by rw [stPh, lkP_stPh_arr h]
theorem lkP_stPh_mat : ∀ {P HG : GHp} {k w : Nat} {rs : List (Option (List (List GV)))}, lkP HG k = some (.mat w rs) → lkP (stPh P HG) k = some (.mat w rs)
 | [], HG, k, _, rs, h => h
 | (g, .arr _ _ _) :: r, HG, k, _, rs, h => by rw [stPh, lkP_stH, lkP_stPh_mat h]; rfl
 | (g, .mat _ _) :: r, HG, k, _, rs, h => by rw [stPh, lkP_stH, lkP_stPh_mat h]; rfl
 | (g, .box _) :: r, HG, k, _, rs, h => by rw [stPh, lkP_stPh_mat h]
theorem lkP_stPh_none : ∀ {P HG : GHp} {k : Nat}, (lkP (stPh P HG) k).isSome = (lkP HG k).isSome
 | [], HG, k => rfl
 | (g, .arr _ _ _) :: r, HG, k => by rw [stPh, stH_some, lkP_stPh_none]
 | (g, .mat _ _) :: r, HG, k => by rw [stPh, stH_some, lkP_stPh_none]
 | (g, .box _) :: r, HG, k => by rw [stPh, lkP_stPh_none]
theorem VR.stVs {Z Z' : ZM} {om om' : Om} : ∀ (P : GHp) {v : GV} {a : AV}, VR Z om v a → ZLe Z Z' → (∀ k l, om k = some l → (∃ blk, (k, blk) ∈ P ∧ ∀ cs, blk ≠ .box cs) ∨ om' k = some l) → VR Z' om' (stV P v) a
 | [], v, a, h, hz, ho => h.mono hz fun k l e => by
    rcases ho k l e with ⟨_, hm, _⟩ | h
    ·cases hm
    ·exact h
 | (g, .box cs) :: r, v, a, h, hz, ho => by
   rw [stV]
   exact VR.stVs r h hz fun k l e => by
    rcases ho k l e with ⟨blk, hm, hx⟩ | h
    ·rcases List.mem_cons.1 hm with hm | hm
     ·cases hm; exact absurd rfl (hx _)
     ·exact .inl ⟨blk, hm, hx⟩
    ·exact .inr h
 | (g, .arr f0 w0 cs0) :: r, v, a, h, hz, ho => by
   rw [stV]
   have := VR.stVs (Z' := Z') (om' := fun k => if k = g then om k else om' k) r h hz fun k l e => by
    by_cases c : k = g
    ·right; show (if k = g then _ else _) = _; rw [if_pos c]; exact e
    ·rcases ho k l e with ⟨blk, hm, hx⟩ | h
     ·rcases List.mem_cons.1 hm with hm | hm
      ·cases hm; exact absurd rfl c
      ·exact .inl ⟨blk, hm, hx⟩
     ·right; show (if k = g then _ else _) = _; rw [if_neg c]; exact h
   exact this.st (.refl _) fun k n => by show om' k = (if k = g then _ else _); rw [if_neg n]
 | (g, .mat w0 rs0) :: r, v, a, h, hz, ho => by
   rw [stV]
   have := VR.stVs (Z' := Z') (om' := fun k => if k = g then om k else om' k) r h hz fun k l e => by
    by_cases c : k = g
    ·right; show (if k = g then _ else _) = _; rw [if_pos c]; exact e
    ·rcases ho k l e with ⟨blk, hm, hx⟩ | h
     ·rcases List.mem_cons.1 hm with hm | hm
      ·cases hm; exact absurd rfl c
      ·exact .inl ⟨blk, hm, hx⟩
     ·right; show (if k = g then _ else _) = _; rw [if_neg c]; exact h
   exact this.st (.refl _) fun k n => by show om' k = (if k = g then _ else _); rw [if_neg n]
variable {L : GFr} {HG : GHp} {l : List AOper} {Q : GFr → GHp → Prop}
theorem lkP_mem : ∀ {P : GHp} {g : Nat} {b : GBlk}, lkP P g = some b → (g, b) ∈ P
 | p :: r, g, b, h => by
   rw [lkP_cons] at h
   split at h
   ·rename_i c; cases h; cases p; cases c; exact List.mem_cons_self
   ·exact List.mem_cons_of_mem _ (lkP_mem h)
theorem call_merge {Z : ZM} {om : Om} {H : Heap} {P : GHp} (hr : GRel Z om HG H) (hP : HLe P HG) {Z' : ZM} {om1 : Om} {H1 : GHp} {H' : Heap}
 (h1 : GRel Z' om1 H1 H') (h2 : Ext Z (om.cut P.D) P H Z' om1 H1 H') (h3 : ∀ g b, (om.cut P.D) g = some (.box b) → om1 g = some (.box b)) (hn : newOk P HG H1 = true) :
 ∃ om', GRel Z' om' (H1 ++ dropP P (stPh P HG)) H' ∧ Ext Z om HG H Z' om' (H1 ++ dropP P (stPh P HG)) H' ∧ (∀ v a, VR Z' om1 v a → VR Z' om' v a) ∧ (∀ v a, VR Z om v a → VR Z' om' (stV P v) a) ∧ ((∀ g l, (om.cut P.D) g = some l → om1 g = some l) → ∀ g l, om g = some l → om' g = some l) := by
 have hcutP : ∀ g, P.D g = true → (om.cut P.D) g = om g := fun g e => by unfold Om.cut; rw [if_pos e]
 have hset : ∃ om' : Om, (∀ g, P.D g = true ∨ H1.D g = true → om' g = om1 g) ∧ ∀ g, P.D g = false → H1.D g = false → om' g = om g :=
  ⟨fun g => if P.D g = true ∨ H1.D g = true then om1 g else om g, fun g h => if_pos h, fun g a b => if_neg (by rw [a, b]; simp)⟩
 obtain ⟨om', o1, o2⟩ := hset
 have hD : ∀ g, H1.D g = true → P.D g = true ∨ lkP HG g = none := fun g e => newOk_at hn e
 have hrest : ∀ g, (lkP (H1 ++ dropP P (stPh P HG)) g).isSome = true → H1.D g = true ∨ (H1.D g = false ∧ P.D g = false ∧ (lkP HG g).isSome = true) := fun g e => by
  rw [lkP_append] at e
  cases hx : lkP H1 g with
  | some _ => left; unfold GHp.D; rw [hx]; rfl
  | none =>
    right
    rw [hx] at e
    simp only [] at e
    rw [lkP_dropP] at e
    split at e
    ·cases e
    ·rename_i c
     rw [lkP_stPh_none] at e
     exact ⟨by unfold GHp.D; rw [hx]; rfl, by unfold GHp.D; simpa using c, e⟩
 have hsub : ∀ g, P.D g = true → (lkP HG g).isSome = true := fun g e => hP.isSome e
 have idr : ∀ g, P.D g = false → H1.D g = false → idOf om' g = idOf om g := fun g a b => by unfold idOf; rw [o2 g a b]
 have id1 : ∀ g, H1.D g = true → idOf om' g = idOf om1 g := fun g a => by unfold idOf; rw [o1 g (.inr a)]
 have idc : ∀ g b, idOf (om.cut P.D) g b → P.D g = true ∧ idOf om g b := fun g b e => by
  refine ⟨?_, idOf_cut e⟩
  obtain ⟨l, e1, _⟩ := e
  unfold Om.cut at e1
  split at e1
  ·rename_i c; exact c
  ·cases e1
 -- what the caller has kept is out of the callee's reach
 have nofoot : ∀ g b, P.D g = false → (lkP HG g).isSome = true → idOf om g b → ¬ Foot (om.cut P.D) P H b := fun g b hp hs hi hf => by
  obtain ⟨k, hk, hf⟩ := hf
  have hne : k ≠ g := fun c => by rw [c] at hk; have : P.D g = true := hk; rw [hp] at this; cases this
  rcases hf with hf | ⟨b', blk, hf, hb, hm⟩
  ·exact hr.sep k g b hne (hsub k hk) hs (idOf_cut hf) hi
  ·exact (hr.mate k b' blk b (hsub k hk) (idOf_cut hf) hb hm).2.2 g hs hi
 have keep : ∀ g b, P.D g = false → (lkP HG g).isSome = true → idOf om g b → H'.blks.get b = H.blks.get b ∧ Z' b = Z b := fun g b hp hs hi =>
  h2.old b (hr.old hs hi) (nofoot g b hp hs hi)
 have noown : ∀ k b, H1.D k = true → idOf om1 k b → b < H.next → ∃ k', P.D k' = true ∧ idOf om k' b := fun k b hk hi hb => by
  obtain ⟨k', e, f⟩ := h2.ownb b hb ⟨k, hk, hi⟩
  exact ⟨k', e, idOf_cut f⟩
 have hV1 : ∀ v a, VR Z' om1 v a → VR Z' om' v a := fun v a h => h.mono (.refl _) fun k l' e => by rw [o1 k (.inr (h1.some_dom e))]; exact e
 have hV : ∀ v a, VR Z om v a → VR Z' om' (stV P v) a := fun v a h => VR.stVs P h h2.zle fun k l' e => by
  have hs := hr.some_dom e
  cases hp : P.D k with
  | true =>
    cases hx : lkP P k with
    | none => unfold GHp.D at hp; rw [hx] at hp; cases hp
    | some blk =>
      cases blk with
      | arr f w cs => exact .inl ⟨_, lkP_mem hx, fun _ c => by cases c⟩
      | mat w rs => exact .inl ⟨_, lkP_mem hx, fun _ c => by cases c⟩
      | box cs =>
        right
        obtain ⟨b, _, hb, _⟩ := hr.box (hP k _ hx)
        rw [hb] at e; cases e
        rw [o1 k (.inl hp)]
        exact h3 k b (by rw [hcutP k hp]; exact hb)
  | false =>
    right
    cases hx : H1.D k with
    | true =>
      rcases hD k hx with h | h
      ·rw [hp] at h; cases h
      ·rw [h] at hs; cases hs
    | false => rw [o2 k hp hx]; exact e
 refine ⟨om', ⟨fun g e => ?_, h1.zok, fun g blk e => ?_, fun g1 g2 b n e1 e2 i1 i2 => ?_, fun g b e i => ?_, fun g b blk m e i hb hm => ?_⟩, ⟨h2.next, h2.zle, fun b hb hf => ?_, fun b hb hf => ?_, fun g b hg e => ?_, fun b hb ho => ?_, fun b hb z1 z2 => ?_⟩, hV1, hV, fun hK g l e => ?_⟩
 ·rw [lkP_append] at e
  cases hx : lkP H1 g with
  | some _ => rw [hx] at e; cases e
  | none =>
    rw [hx] at e
    simp only [] at e
    rw [lkP_dropP] at e
    have hd1 : H1.D g = false := by unfold GHp.D; rw [hx]; rfl
    split at e
    ·rename_i c
     rw [o1 g (.inl c)]; exact h1.dom g hx
    ·rename_i c
     have hp : P.D g = false := by unfold GHp.D; simpa using c
     rw [o2 g hp hd1]
     refine hr.dom g ?_
     have := lkP_stPh_none (P := P) (HG := HG) (k := g)
     rw [e] at this
     cases hy : lkP HG g with
     | none => rfl
     | some _ => rw [hy] at this; cases this
 ·rw [lkP_append] at e
  cases hx : lkP H1 g with
  | some blk' =>
    rw [hx] at e
    cases e
    have hd1 : H1.D g = true := by unfold GHp.D; rw [hx]; rfl
    exact (h1.own g _ hx).keep (o1 g (.inr hd1)) (fun _ _ => rfl) hV1 (.refl _)
  | none =>
    rw [hx] at e
    simp only [] at e
    have hd1 : H1.D g = false := by unfold GHp.D; rw [hx]; rfl
    rw [lkP_dropP] at e
    split at e
    ·cases e
    ·rename_i c
     have hp : P.D g = false := by unfold GHp.D; simpa using c
     cases hy : lkP HG g with
     | none => have := lkP_stPh_none (P := P) (HG := HG) (k := g); rw [e, hy] at this; cases this
     | some old =>
       have hs : (lkP HG g).isSome = true := by rw [hy]; rfl
       have ho := o2 g hp hd1
       cases hr.own g old hy with
       | @box cells b blk0 q1 q2 q3 q4 q5 =>
         rw [lkP_stPh_box hy] at e; cases e
         have := keep g b hp hs (idOf_eq q1 rfl)
         refine .box (by rw [ho]; exact q1) (by rw [this.1]; exact q2) q3 (by rw [stVC_len]; exact q4) fun i c a e1 e2 => ?_
         rw [stVC_at] at e1
         cases hz : cells[i]? with
         | none => rw [hz] at e1; cases e1
         | some y => rw [hz] at e1; cases e1; exact hV _ _ (q5 i y a hz e2)
       | nil q1 qf =>
         rw [lkP_stPh_arr hy] at e; cases e
         exact .nil (by rw [ho]; exact q1) qf
       | arr q1 q2 q3 q4 q5 q6 q7 q8 =>
         rw [lkP_stPh_arr hy] at e; cases e
         have := keep g _ hp hs (idOf_eq q1 rfl)
         exact .arr (by rw [ho]; exact q1) (by rw [this.1]; exact q2) q3 q4 q5 q6 q7 (q8.mono h2.zle)
       | mnil q1 =>
         rw [lkP_stPh_mat hy] at e; cases e
         exact .mnil (by rw [ho]; exact q1)
       | mat q1 q2 q3 q4 q5 q6 q7 q8 q9 q10 q11 =>
         rw [lkP_stPh_mat hy] at e; cases e
         exact .mat (by rw [ho]; exact q1) (by rw [(keep g _ hp hs (idOf_eq q1 (.inl rfl))).1]; exact q2) q3 q4 q5 q6 q7 q8 (fun i r p e1 e2 => (q9 i r p e1 e2).keep h2.zle fun b hb => (keep g b hp hs (idOf_eq q1 (.inr ⟨i, p, e2, hb⟩))).1) q10 q11
 ·have cross : ∀ g1 g2, H1.D g1 = true → H1.D g2 = false → P.D g2 = false → (lkP HG g2).isSome = true → idOf om' g1 b → ¬ idOf om' g2 b := fun g1 g2 a1 a2 a3 a4 i1 i2 => by
   rw [id1 g1 a1] at i1
   rw [idr g2 a3 a2] at i2
   have hb := hr.old a4 i2
   obtain ⟨k', c1, c2⟩ := noown g1 b a1 i1 hb
   exact hr.sep k' g2 b (fun c => by rw [c, a3] at c1; cases c1) (hsub k' c1) a4 c2 i2
  rcases hrest g1 e1 with a | ⟨a1, a2, a3⟩
  ·rcases hrest g2 e2 with c | ⟨c1, c2, c3⟩
   ·rw [id1 g1 a] at i1
    rw [id1 g2 c] at i2
    exact h1.sep g1 g2 b n a c i1 i2
   ·exact cross g1 g2 a c1 c2 c3 i1 i2
  ·rcases hrest g2 e2 with c | ⟨c1, c2, c3⟩
   ·exact cross g2 g1 c a1 a2 a3 i2 i1
   ·rw [idr g1 a2 a1] at i1
    rw [idr g2 c2 c1] at i2
    exact hr.sep g1 g2 b n a3 c3 i1 i2
 ·rcases hrest g e with a | ⟨a1, a2, a3⟩
  ·rw [id1 g a] at i; exact h1.zsep g b a i
  ·rw [idr g a2 a1] at i
   have := hr.zsep g b a3 i
   exact ⟨by rw [(keep g b a2 a3 i).2]; exact this.1, Nat.lt_of_lt_of_le this.2 h2.next⟩
 ·rcases hrest g e with a | ⟨a1, a2, a3⟩
  ·rw [id1 g a] at i
   obtain ⟨m1, m2, m3⟩ := h1.mate g b blk m a i hb hm
   refine ⟨m1, m2, fun g' e' i' => ?_⟩
   rcases hrest g' e' with c | ⟨c1, c2, c3⟩
   ·rw [id1 g' c] at i'; exact m3 g' c i'
   ·rw [idr g' c2 c1] at i'
    have hf : Foot om1 H1 H' m := ⟨g, a, .inr ⟨b, blk, i, hb, hm⟩⟩
    exact nofoot g' m c2 c3 i' (h2.foot m (hr.old c3 i') hf)
  ·rw [idr g a2 a1] at i
   rw [(keep g b a2 a3 i).1] at hb
   obtain ⟨m1, m2, m3⟩ := hr.mate g b blk m a3 i hb hm
   refine ⟨Nat.lt_of_lt_of_le m1 h2.next, ?_, fun g' e' i' => ?_⟩
   ·by_cases c : Z' m = none
    ·exact c
    ·obtain ⟨k, e1, f1⟩ := h2.zown m m1 m2 c
     exact absurd (idOf_cut f1) (m3 k (hsub k e1))
   ·rcases hrest g' e' with c | ⟨c1, c2, c3⟩
    ·rw [id1 g' c] at i'
     obtain ⟨k', d1, d2⟩ := noown g' m c i' m1
     exact m3 k' (hsub k' d1) d2
    ·rw [idr g' c2 c1] at i'
     exact m3 g' c3 i'
 ·refine h2.old b hb fun hf' => hf ?_
  obtain ⟨k, e, f⟩ := hf'
  refine ⟨k, hsub k e, ?_⟩
  rcases f with f | ⟨b', blk, f, f2⟩
  ·exact .inl (idOf_cut f)
  ·exact .inr ⟨b', blk, idOf_cut f, f2⟩
 ·obtain ⟨g, e, f⟩ := hf
  rcases hrest g e with a | ⟨a1, a2, a3⟩
  ·rw [id1 g a] at f
   obtain ⟨k, e, f⟩ := h2.foot b hb ⟨g, a, f⟩
   refine ⟨k, hsub k e, ?_⟩
   rcases f with f | ⟨b', blk, f, f2⟩
   ·exact .inl (idOf_cut f)
   ·exact .inr ⟨b', blk, idOf_cut f, f2⟩
  ·rw [idr g a2 a1] at f
   refine ⟨g, a3, ?_⟩
   rcases f with f | ⟨b', blk, f, f2, f3⟩
   ·exact .inl f
   ·exact .inr ⟨b', blk, f, by rw [← (keep g b' a2 a3 f).1]; exact f2, f3⟩
 ·have hs := hr.some_dom e
  cases hp : P.D g with
  | true => rw [o1 g (.inl hp)]; exact h2.stab g b hg (by rw [hcutP g hp]; exact e)
  | false =>
    cases hx : H1.D g with
    | true =>
      rcases hD g hx with h | h
      ·rw [hp] at h; cases h
      ·rw [h] at hs; cases hs
    | false => rw [o2 g hp hx]; exact e
 ·obtain ⟨g, e, f⟩ := ho
  rcases hrest g e with a | ⟨a1, a2, a3⟩
  ·rw [id1 g a] at f
   obtain ⟨k', d1, d2⟩ := noown g b a f hb
   exact ⟨k', hsub k' d1, d2⟩
  ·rw [idr g a2 a1] at f
   exact ⟨g, a3, f⟩
 ·obtain ⟨k, e, f⟩ := h2.zown b hb z1 z2
  exact ⟨k, hsub k e, idOf_cut f⟩
 ·have hs := hr.some_dom e
  cases hp : P.D g with
  | true => rw [o1 g (.inl hp)]; exact hK g l (by rw [hcutP g hp]; exact e)
  | false =>
    cases hx : H1.D g with
    | true =>
      rcases hD g hx with h | h
      ·rw [hp] at h; cases h
      ·rw [h] at hs; cases hs
    | false => rw [o2 g hp hx]; exact e
theorem FR.stPs {Z Z' : ZM} {om om' : Om} {P : GHp} {L : GFr} {fr : T AV} (h : FR Z om L fr) (hv : ∀ v a, VR Z om v a → VR Z' om' (stV P v) a) : FR Z' om' (Go.AM.stPs P L) fr := fun k x e => by
 rw [lkP_stPs] at e
 cases hx : lkP L k with
 | none => rw [hx] at e; cases e
 | some y =>
   rw [hx] at e; cases e
   obtain ⟨a, h1, h2⟩ := h k y hx
   exact ⟨a, h1, hv y a h2⟩
theorem G.callX {d : Option Nat} {o : AOp} {f : Nat} {vs : List GV} {P : GHp} {K : GV → GHp → Prop}
 (ho : ∀ Z om fr H, GRel Z om HG H → FR Z om L fr → ∃ as, VRs Z om vs as ∧ ∀ {Q' : AV → Heap → Prop}, WpCall A f as H Q' → WpOp A o fr H Q')
 (hP : hasP HG P) (h1 : GV.okL P.D vs = true) (h2 : cleanH P.D P = true) (hc : WpCallG A f vs P K)
 (k : ∀ v H1, K v H1 → newOk P HG H1 = true ∧ WpOpsG A l (putP (stPs P L) d v) (H1 ++ dropP P (stPh P HG)) Q) : WpOpsG A (⟨d, o, none⟩ :: l) L HG Q := fun Z om fr H hr hf => by
 obtain ⟨as, a1, a2⟩ := ho Z om fr H hr hf
 have hle : HLe P HG := hasP_le hP
 refine WpOps.cons rfl (a2 ((hc Z _ as H (hr.less hle h2) (a1.cut h1)).mono ?_))
 rintro a H' ⟨Z', om1, v, H1, r1, r2, r3, r4, r5⟩
 obtain ⟨n1, k1⟩ := k v H1 r5
 obtain ⟨om', q1, q2, q3, q4, _⟩ := call_merge hr hle r1 r3 r4 n1
 refine (k1 Z' om' _ H' q1 ((hf.stPs q4).put (q3 _ _ r2) d)).mono ?_
 rintro fr' H2 ⟨Z2, om2, L2, HG2, a2, b2, c2, d2⟩
 exact ⟨Z2, om2, L2, HG2, a2, b2, q2.trans c2, d2⟩
theorem G.call {d : Option Nat} {f : Nat} {xs : List AX} {vs : List GV} {P : GHp} {K : GV → GHp → Prop} (hx : lkGXs L xs = some vs)
 (hP : hasP HG P) (h1 : GV.okL P.D vs = true) (h2 : cleanH P.D P = true) (hc : WpCallG A f vs P K)
 (k : ∀ v H1, K v H1 → newOk P HG H1 = true ∧ WpOpsG A l (putP (stPs P L) d v) (H1 ++ dropP P (stPh P HG)) Q) : WpOpsG A (⟨d, .call f xs, none⟩ :: l) L HG Q :=
 G.callX (fun Z om fr H hr hf => let ⟨as, e, v⟩ := hf.xs hx; ⟨as, v, fun h => WpOp.call e h⟩) hP h1 h2 hc k
theorem G.callv {d : Option Nat} {f : Nat} {x : AX} {xs : List AX} {vs cs : List GV} {P : GHp} {K : GV → GHp → Prop} (hx0 : lkGX L x = some (.fn f cs)) (hx : lkGXs L xs = some vs)
 (hP : hasP HG P) (h1 : GV.okL P.D (vs ++ cs) = true) (h2 : cleanH P.D P = true) (hc : WpCallG A f (vs ++ cs) P K)
 (k : ∀ v H1, K v H1 → newOk P HG H1 = true ∧ WpOpsG A l (putP (stPs P L) d v) (H1 ++ dropP P (stPh P HG)) Q) : WpOpsG A (⟨d, .callv x xs, none⟩ :: l) L HG Q :=
 G.callX (fun Z om fr H hr hf => by
  obtain ⟨as, e, v⟩ := hf.xs hx
  obtain ⟨u, e0, v0⟩ := hf.x hx0
  obtain ⟨bs, rfl, k1, k2⟩ := v0.fn_inv
  exact ⟨as ++ bs, v.append (.of k1 k2), fun h => WpOp.callv e0 e h⟩) hP h1 h2 hc k
theorem G.call0 {d : Option Nat} {f : Nat} {xs : List AX} {vs : List GV} {K : GV → GHp → Prop} (hx : lkGXs L xs = some vs) (h1 : GV.okL (GHp.D []) vs = true) (hc : WpCallG A f vs [] K)
 (k : ∀ v H1, K v H1 → newOk [] HG H1 = true ∧ WpOpsG A l (putP L d v) (H1 ++ HG) Q) : WpOpsG A (⟨d, .call f xs, none⟩ :: l) L HG Q := by
 refine G.call (P := []) hx trivial h1 rfl hc fun v H1 hk => ?_
 have : ∀ (X : GHp), dropP [] X = X := fun X => by
  induction X with
  | nil => rfl
  | cons p r ih => rw [dropP]; exact congrArg _ ih
 rw [show dropP [] (stPh [] HG) = HG from this HG]
 exact k v H1 hk
end
end Go.AM
set_option linter.all false
namespace Go.AM
section
variable {A : AProg} {L : GFr} {HG : GHp} {l : List AOper} {Q : GFr → GHp → Prop}
/-! ## What runs only if a truth says so -/
theorem G.yes {d : Option Nat} {o : AOp} {g : Nat} {w : Bool} (hg : lkP L g = some (.v (.bool w))) (h : WpOpsG A (⟨d, o, none⟩ :: l) L HG Q) : WpOpsG A (⟨d, o, some (g, w)⟩ :: l) L HG Q := fun Z om fr H hr hf => by
 obtain ⟨n, f, f0, H', h1, h2, h3⟩ := h Z om fr H hr hf
 refine ⟨n, f, f0, H', ?_, h2, h3⟩
 obtain ⟨a, e1, e2⟩ := hf g _ hg
 obtain rfl := e2.v_inv
 rw [evOps] at h1 ⊢
 simp only [e1, if_true]
 exact h1
theorem G.no {d : Option Nat} {o : AOp} {g : Nat} {w b : Bool} (hg : lkP L g = some (.v (.bool b))) (hb : b ≠ w) (h : WpOpsG A l (putP L d (.tup [])) HG Q) : WpOpsG A (⟨d, o, some (g, w)⟩ :: l) L HG Q := fun Z om fr H hr hf => by
 obtain ⟨a, e1, e2⟩ := hf g _ hg
 obtain rfl := e2.v_inv
 obtain ⟨n, f, f0, H', h1, h2, h3⟩ := h Z om (putD fr d (.tup [])) H hr (hf.put (.tup (as := []) rfl (fun i c a h => by cases i <;> cases h)) d)
 refine ⟨n, f, f0, H', ?_, h2, h3⟩
 rw [evOps]
 simp only [e1, if_neg hb]
 exact h1
def newInG (L : GFr) : List AOper → Bool
 | [] => true
 | o :: l => (match o.dst with | some d => (lkP L d).isNone | none => true) && newInG L l
theorem newInG_cons {o : AOper} {l : List AOper} (h : newInG L (o :: l) = true) : (∀ k, o.dst = some k → lkP L k = none) ∧ newInG L l = true := by
 rw [newInG, Bool.and_eq_true] at h
 refine ⟨fun k hk => ?_, h.2⟩
 have := h.1
 rw [hk] at this
 simpa using this
theorem FR.putNew {Z : ZM} {om : Om} {fr : T AV} {d : Option Nat} {v : AV} (h : FR Z om L fr) (hd : ∀ k, d = some k → lkP L k = none) : FR Z om L (putD fr d v) := by
 cases d with
 | none => exact h
 | some k =>
   intro j x e
   obtain ⟨a, h1, h2⟩ := h j x e
   refine ⟨a, ?_, h2⟩
   simp only [putD, T.get_set]
   rw [if_neg (fun c => by rw [c, hd k rfl] at e; cases e)]
   exact h1
theorem newInG_one {g : Nat} {v : GV} {b : AV} (hg : lkP L g = some v) : ∀ {l : List AOper}, newInG L l = true → newIn [(g, b)] l = true
 | [], _ => rfl
 | o :: l, h => by
   obtain ⟨h1, h2⟩ := newInG_cons h
   have ih := newInG_one (b := b) hg h2
   simp only [newIn, List.all_cons, Bool.and_eq_true] at ih ⊢
   refine ⟨?_, ih⟩
   cases hd : o.dst with
   | none => rfl
   | some d =>
     simp only [lk]
     cases hb : Nat.beq g d with
     | true => have := Nat.eq_of_beq_eq_true hb; subst this; rw [h1 _ hd] at hg; cases hg
     | false => rfl
theorem grd_noG {Z : ZM} {om : Om} {g : Nat} {w q : Bool} (hg : lkP L g = some (.v (.bool q))) (hq : q ≠ w) : ∀ {l : List AOper} {fr : T AV} {H : Heap}, newInG L (grd g w l) = true → FR Z om L fr →
 ∃ fr', FR Z om L fr' ∧ ∀ call, evOps call l fr H = evOps call (rst g w l) fr' H
 | [], fr, H, _, hf => ⟨fr, hf, fun _ => rfl⟩
 | ⟨d, o, none⟩ :: r, fr, H, _, hf => ⟨fr, hf, fun _ => rfl⟩
 | ⟨d, o, some (g', w')⟩ :: r, fr, H, hn, hf => by
   rw [grd] at hn
   rw [rst]
   cases hb : (Nat.beq g' g && (w' == w)) with
   | false => exact ⟨fr, hf, fun _ => rfl⟩
   | true =>
     simp only [hb] at hn ⊢
     simp only [Bool.and_eq_true, beq_iff_eq] at hb
     obtain ⟨h1, rfl⟩ := hb
     obtain rfl := Nat.eq_of_beq_eq_true h1
     obtain ⟨hd, hn⟩ := newInG_cons hn
     obtain ⟨a, e1, e2⟩ := hf g' _ hg
     obtain rfl := e2.v_inv
     obtain ⟨fr3, q1, q2⟩ := grd_noG (H := H) hg hq hn (hf.putNew (v := .tup []) hd)
     refine ⟨fr3, q1, fun call => ?_⟩
     rw [evOps]
     simp only [e1, if_neg hq]
     exact q2 call
theorem LLe.refl (L : GFr) : LLe L L := fun _ _ h => h
theorem LLe.cons {L' : GFr} {k : Nat} {v : GV} (hk : (lkP L k).isNone = true) (h : LLe L L') : LLe L ((k, v) :: L') := fun j x e => by
 rw [lkP_cons]
 rw [if_neg (fun c => by have c' : k = j := c; rw [← c'] at e; rw [e] at hk; cases hk)]
 exact h j x e
theorem HLe.cons {HG' : GHp} {k : Nat} {v : GBlk} (hk : (lkP HG k).isNone = true) (h : HLe HG HG') : HLe HG ((k, v) :: HG') := fun j x e => by
 rw [lkP_cons]
 rw [if_neg (fun c => by have c' : k = j := c; rw [← c'] at e; rw [e] at hk; cases hk)]
 exact h j x e
def sideG (L : GFr) (HG : GHp) (r : Nat) (p : Bool) (L' : GFr) (H' : GHp) : Prop := lkP L' r = some (.v (.bool p)) ∧ LLe L L' ∧ HLe HG H' ∧ pins HG H' = true
theorem G.and {d0 : Option Nat} {o0 : AOp} {ops l : List AOper} {d g r : Nat} {q p : Bool} (hg : lkP L g = some (.v (.bool q))) (hn : newInG L (grd g true (⟨d0, o0, some (g, true)⟩ :: ops)) = true)
 (hr : rst g true (⟨d0, o0, some (g, true)⟩ :: ops) = ⟨some d, .pick (.t g) (.t r) (.c (.v (.bool false))), none⟩ :: l) (hcl : cleanL HG.D L = true) (hch : cleanH HG.D HG = true)
 (hB : q = true → WpOpsG A (grd g true (⟨d0, o0, some (g, true)⟩ :: ops)) L HG (sideG L HG r p)) (h : WpOpsG A l ((d, .v (.bool (q && p))) :: L) HG Q) : WpOpsG A (⟨d0, o0, some (g, true)⟩ :: ops) L HG Q := fun Z om fr H hrel hf => by
 obtain ⟨a, e1, e2⟩ := hf g _ hg
 obtain rfl := e2.v_inv
 generalize (⟨d0, o0, some (g, true)⟩ :: ops : List AOper) = os at hn hr hB
 cases q with
 | false =>
   obtain ⟨fr3, i1, i2⟩ := grd_noG (H := H) hg (w := true) (by decide) hn hf
   obtain ⟨n, f, f0, H', h1, h2, h3⟩ := h Z om (putD fr3 (some d) (.v (.bool false))) H hrel (i1.put (.pure (.v _)) (some d))
   refine ⟨n, f, f0, H', ?_, h2, h3⟩
   obtain ⟨a', e1', e2'⟩ := i1 g _ hg
   obtain rfl := e2'.v_inv
   rw [i2 (callA A n), hr, evOps]
   simp only [evOp, evX, e1', h1]
 | true =>
   obtain ⟨m, s, s0, H2, i1, i2, Z1, om1, L1, HG1, r1, r2, r3, r4, r5, r6, r7⟩ := hB rfl Z om fr H hrel hf
   have hmk : FLe (mkF [(g, .v (.bool true))]) fr := fun k v e => by
    rw [mkF, T.get_set] at e
    split at e
    ·rename_i c; cases e; rw [c]; exact e1
    ·simp [mkF, T.get] at e
   have hn1 := newInG_one (b := .v (.bool true)) hg hn
   have hF : FR Z1 (om1.cut HG.D) L s := (((r2.less r5).cut hcl).le i2)
   obtain ⟨a, e3, e4⟩ := r2 r _ r4
   obtain rfl := e4.v_inv
   have hsr := i2 _ _ e3
   obtain ⟨n, f, f0, H', h1, h2, h3⟩ := h Z1 (om1.cut HG.D) (putD s (some d) (.v (.bool (true && p)))) H2 (r1.less r6 hch) (hF.put (.pure (.v _)) (some d))
   obtain ⟨u, u1, u2⟩ := evOps_le (callA_le (A := A) (Nat.le_max_right n m)) (FLe.refl _) i1
   obtain ⟨k1, k2⟩ := grd_yes (call := callA A (max n m)) (L := [(g, .v (.bool true))]) (w := true) (by simp [lk]) hn1 hmk u1
   obtain ⟨f2, g1, g2⟩ := evOps_le (callA_le (A := A) (Nat.le_max_left n m)) (FLe.put u2 (some d) _) h1
   obtain ⟨Z2, om2, L2, HG2, a2, b2, c2, d2⟩ := h3
   refine ⟨max n m, f2, f0, H', ?_, h2.trans g2, Z2, om2, L2, HG2, a2, b2, r3.trans ((Ext.less r1 r6 r7).trans c2), d2⟩
   rw [k2, hr, evOps]
   have hug : u.get g = some (.v (.bool true)) := k1 _ _ (by rw [mkF, T.get_set, if_pos rfl])
   simp only [evOp, evX, hug, u2 _ _ hsr]
   exact g1
theorem G.or {d0 : Option Nat} {o0 : AOp} {ops l : List AOper} {d g r : Nat} {q p : Bool} (hg : lkP L g = some (.v (.bool q))) (hn : newInG L (grd g false (⟨d0, o0, some (g, false)⟩ :: ops)) = true)
 (hr : rst g false (⟨d0, o0, some (g, false)⟩ :: ops) = ⟨some d, .pick (.t g) (.c (.v (.bool true))) (.t r), none⟩ :: l) (hcl : cleanL HG.D L = true) (hch : cleanH HG.D HG = true)
 (hB : q = false → WpOpsG A (grd g false (⟨d0, o0, some (g, false)⟩ :: ops)) L HG (sideG L HG r p)) (h : WpOpsG A l ((d, .v (.bool (q || p))) :: L) HG Q) : WpOpsG A (⟨d0, o0, some (g, false)⟩ :: ops) L HG Q := fun Z om fr H hrel hf => by
 obtain ⟨a, e1, e2⟩ := hf g _ hg
 obtain rfl := e2.v_inv
 generalize (⟨d0, o0, some (g, false)⟩ :: ops : List AOper) = os at hn hr hB
 cases q with
 | false =>
   obtain ⟨m, s, s0, H2, i1, i2, Z1, om1, L1, HG1, r1, r2, r3, r4, r5, r6, r7⟩ := hB rfl Z om fr H hrel hf
   have hmk : FLe (mkF [(g, .v (.bool false))]) fr := fun k v e => by
    rw [mkF, T.get_set] at e
    split at e
    ·rename_i c; cases e; rw [c]; exact e1
    ·simp [mkF, T.get] at e
   have hn1 := newInG_one (b := .v (.bool false)) hg hn
   have hF : FR Z1 (om1.cut HG.D) L s := (((r2.less r5).cut hcl).le i2)
   obtain ⟨a, e3, e4⟩ := r2 r _ r4
   obtain rfl := e4.v_inv
   have hsr := i2 _ _ e3
   obtain ⟨n, f, f0, H', h1, h2, h3⟩ := h Z1 (om1.cut HG.D) (putD s (some d) (.v (.bool (false || p)))) H2 (r1.less r6 hch) (hF.put (.pure (.v _)) (some d))
   obtain ⟨u, u1, u2⟩ := evOps_le (callA_le (A := A) (Nat.le_max_right n m)) (FLe.refl _) i1
   obtain ⟨k1, k2⟩ := grd_yes (call := callA A (max n m)) (L := [(g, .v (.bool false))]) (w := false) (by simp [lk]) hn1 hmk u1
   obtain ⟨f2, g1, g2⟩ := evOps_le (callA_le (A := A) (Nat.le_max_left n m)) (FLe.put u2 (some d) _) h1
   obtain ⟨Z2, om2, L2, HG2, a2, b2, c2, d2⟩ := h3
   refine ⟨max n m, f2, f0, H', ?_, h2.trans g2, Z2, om2, L2, HG2, a2, b2, r3.trans ((Ext.less r1 r6 r7).trans c2), d2⟩
   rw [k2, hr, evOps]
   have hug : u.get g = some (.v (.bool false)) := k1 _ _ (by rw [mkF, T.get_set, if_pos rfl])
   simp only [evOp, evX, hug, u2 _ _ hsr]
   exact g1
 | true =>
   obtain ⟨fr3, i1, i2⟩ := grd_noG (H := H) hg (w := false) (by decide) hn hf
   obtain ⟨n, f, f0, H', h1, h2, h3⟩ := h Z om (putD fr3 (some d) (.v (.bool true))) H hrel (i1.put (.pure (.v _)) (some d))
   refine ⟨n, f, f0, H', ?_, h2, h3⟩
   obtain ⟨a', e1', e2'⟩ := i1 g _ hg
   obtain rfl := e2'.v_inv
   rw [i2 (callA A n), hr, evOps]
   simp only [evOp, evX, e1', h1]
end
end Go.AM
namespace Go.AM
/-! ## Other names -/
section
variable {Z : ZM} {om om0 : Om} {f h : Nat → Nat} {H : Heap} {P : GHp}
end
end Go.AM
set_option linter.all false
namespace Go.AM
/-! ## Side ways of any shape -/
def cutPre (g : Nat) : List AOper → List AOper
 | ⟨d, .pick (.t g') a b, none⟩ :: r => match Nat.beq g' g with
   | true => []
   | false => ⟨d, .pick (.t g') a b, none⟩ :: cutPre g r
 | o :: r => o :: cutPre g r
 | [] => []
def cutPost (g : Nat) : List AOper → List AOper
 | ⟨d, .pick (.t g') a b, none⟩ :: r => match Nat.beq g' g with
   | true => ⟨d, .pick (.t g') a b, none⟩ :: r
   | false => cutPost g r
 | _ :: r => cutPost g r
 | [] => []
theorem cut_eq (g : Nat) : ∀ (l : List AOper), cutPre g l ++ cutPost g l = l := by
 intro l
 fun_induction cutPre g l with
 | case1 d g' a b r h => rw [cutPost, h]; rfl
 | case2 d g' a b r h ih => rw [cutPost, h, List.cons_append, ih]
 | case3 o r h ih => rw [List.cons_append, cutPost, ih]; exact h
 | case4 => rfl
def strip (g : Nat) (w : Bool) : List AOper → List AOper
 | [] => []
 | ⟨d, o, some (g', w')⟩ :: r => match Nat.beq g' g && (w' == w) with
   | true => ⟨d, o, none⟩ :: strip g w r
   | false => ⟨d, o, some (g', w')⟩ :: strip g w r
 | ⟨d, o, none⟩ :: r => ⟨d, o, none⟩ :: strip g w r
def skipOk (g : Nat) (w : Bool) : List Nat → List AOper → Bool
 | _, [] => true
 | ts, ⟨d, _, some (g', w')⟩ :: r => (Nat.beq g' g && (w' == w) || ts.any (Nat.beq g')) && skipOk g w (match d with | some d => d :: ts | none => ts) r
 | _, ⟨_, _, none⟩ :: _ => false
theorem evOps_append {c : Nat → List AV → Heap → Option (AV × Heap)} : ∀ {a b : List AOper} {fr : T AV} {H : Heap} {fr' : T AV} {H' : Heap}, evOps c a fr H = some (fr', H') → evOps c (a ++ b) fr H = evOps c b fr' H'
 | [], b, fr, H, fr', H', h => by
   simp only [evOps, Option.some.injEq, Prod.mk.injEq] at h
   obtain ⟨rfl, rfl⟩ := h
   rfl
 | o :: a, b, fr, H, fr', H', h => by
   rw [List.cons_append, evOps]
   rw [evOps] at h
   split at h
   ·split at h
    ·exact evOps_append h
    ·cases h
   ·rename_i g w hg
    split at h
    ·split at h
     ·rename_i hb
      rw [if_pos hb]
      split at h
      ·exact evOps_append h
      ·cases h
     ·rename_i hb
      rw [if_neg hb]
      exact evOps_append h
    ·exact evOps_append h
    ·cases h
section
variable {L : GFr}
theorem strip_ok {c : Nat → List AV → Heap → Option (AV × Heap)} {g : Nat} {w : Bool} : ∀ {l : List AOper} {fr : T AV} {H : Heap}, fr.get g = some (.v (.bool w)) → (∀ o ∈ l, o.dst ≠ some g) → evOps c l fr H = evOps c (strip g w l) fr H
 | [], _, _, _, _ => rfl
 | ⟨d, o, none⟩ :: r, fr, H, h, hd => by
   rw [strip, evOps, evOps]
   simp only []
   split
   ·rename_i v H' e
    refine strip_ok ?_ (fun o ho => hd o (List.mem_cons_of_mem _ ho))
    cases d with
    | none => exact h
    | some d =>
      simp only [putD, T.get_set]
      rw [if_neg (fun e => hd _ List.mem_cons_self (by rw [e]))]; exact h
   ·rfl
 | ⟨d, o, some (g', w')⟩ :: r, fr, H, h, hd => by
   have next : ∀ v H', evOps c r (putD fr d v) H' = evOps c (strip g w r) (putD fr d v) H' := fun v H' => by
    refine strip_ok ?_ (fun o ho => hd o (List.mem_cons_of_mem _ ho))
    cases d with
    | none => exact h
    | some d =>
      simp only [putD, T.get_set]
      rw [if_neg (fun e => hd _ List.mem_cons_self (by rw [e]))]; exact h
   rw [strip]
   cases hb : (Nat.beq g' g && (w' == w)) with
   | true =>
     simp only []
     simp only [Bool.and_eq_true, beq_iff_eq] at hb
     obtain ⟨h1, rfl⟩ := hb
     obtain rfl := Nat.eq_of_beq_eq_true h1
     rw [evOps, evOps]
     simp only [h, if_true]
     split
     ·exact next _ _
     ·rfl
   | false =>
     simp only []
     rw [evOps, evOps]
     simp only []
     split
     ·split
      ·split
       ·exact next _ _
       ·rfl
      ·exact next _ _
     ·exact next _ _
     ·rfl
theorem skip_ok {Z : ZM} {om : Om} {g : Nat} {w q : Bool} (hg : lkP L g = some (.v (.bool q))) (hq : q ≠ w) : ∀ {l : List AOper} {ts : List Nat} {fr : T AV} {H : Heap}, skipOk g w ts l = true → newInG L l = true → FR Z om L fr → (∀ t ∈ ts, fr.get t = some (.tup [])) →
 ∃ fr', FR Z om L fr' ∧ ∀ call, evOps call l fr H = some (fr', H)
 | [], ts, fr, H, _, _, hf, _ => ⟨fr, hf, fun _ => rfl⟩
 | ⟨d, o, none⟩ :: r, ts, fr, H, hs, _, _, _ => by simp [skipOk] at hs
 | ⟨d, o, some (g', w')⟩ :: r, ts, fr, H, hs, hn, hf, ht => by
   obtain ⟨hd, hn⟩ := newInG_cons hn
   unfold skipOk at hs
   rw [Bool.and_eq_true] at hs
   obtain ⟨hs1, hs2⟩ := hs
   have hcase : (g' = g ∧ w' = w) ∨ (fr.get g' = some (.tup [])) := by
    rw [Bool.or_eq_true] at hs1
    rcases hs1 with h | h
    ·simp only [Bool.and_eq_true, beq_iff_eq] at h
     exact .inl ⟨Nat.eq_of_beq_eq_true h.1, h.2⟩
    ·obtain ⟨t, h1, h2⟩ := List.any_eq_true.1 h
     rw [Nat.eq_of_beq_eq_true h2]; exact .inr (ht t h1)
   have ht' : ∀ t ∈ (match d with | some d => d :: ts | none => ts), (putD fr d (.tup [])).get t = some (.tup []) := fun t hm => by
    cases d with
    | none => exact ht t hm
    | some d =>
      simp only [putD, T.get_set]
      split
      ·rfl
      ·rename_i c
       rcases List.mem_cons.1 hm with h | h
       ·exact absurd h c
       ·exact ht t h
   obtain ⟨fr', q1, q2⟩ := skip_ok (H := H) hg hq hs2 hn (hf.putNew (v := .tup []) hd) ht'
   refine ⟨fr', q1, fun call => ?_⟩
   rw [evOps]
   rcases hcase with ⟨rfl, rfl⟩ | h
   ·obtain ⟨a, e1, e2⟩ := hf g' _ hg
    obtain rfl := e2.v_inv
    simp only [e1, if_neg hq]
    exact q2 call
   ·simp only [h]
    exact q2 call
theorem newInG_ne {g : Nat} {v : GV} (hg : lkP L g = some v) : ∀ {l : List AOper}, newInG L l = true → ∀ o ∈ l, o.dst ≠ some g
 | [], _, o, h => by cases h
 | x :: l, h, o, hm => by
   obtain ⟨h1, h2⟩ := newInG_cons h
   rcases List.mem_cons.1 hm with e | e
   ·subst e; intro c; rw [h1 g c] at hg; cases hg
   ·exact newInG_ne hg h2 o e
end
section
variable {A : AProg} {L : GFr} {HG : GHp} {l : List AOper} {Q : GFr → GHp → Prop}
theorem G.side {o0 : AOper} {ops l : List AOper} {d g r : Nat} {w q p : Bool} {pk : AOp} (hpk : pk = if w then .pick (.t g) (.t r) (.c (.v (.bool false))) else .pick (.t g) (.c (.v (.bool true))) (.t r)) (hg : lkP L g = some (.v (.bool q)))
 (hs : skipOk g w [] (cutPre g (o0 :: ops)) = true) (hn : newInG L (cutPre g (o0 :: ops)) = true) (hr : cutPost g (o0 :: ops) = ⟨some d, pk, none⟩ :: l) (hcl : cleanL HG.D L = true) (hch : cleanH HG.D HG = true)
 (hB : q = w → WpOpsG A (strip g w (cutPre g (o0 :: ops))) L HG (sideG L HG r p)) (h : WpOpsG A l ((d, .v (.bool (if w then q && p else q || p))) :: L) HG Q) : WpOpsG A (o0 :: ops) L HG Q := fun Z om fr H hrel hf => by
 obtain ⟨a, e1, e2⟩ := hf g _ hg
 obtain rfl := e2.v_inv
 have heq := cut_eq g (o0 :: ops)
 by_cases hq : q = w
 ·obtain ⟨m, s, s0, H2, i1, i2, Z1, om1, L1, HG1, r1, r2, r3, r4, r5, r6, r7⟩ := hB hq Z om fr H hrel hf
  have hF : FR Z1 (om1.cut HG.D) L s := (((r2.less r5).cut hcl).le i2)
  obtain ⟨a, e3, e4⟩ := r2 r _ r4
  obtain rfl := e4.v_inv
  have hsr := i2 _ _ e3
  have hval : (if w then q && p else q || p) = p := by subst hq; cases q <;> simp
  rw [hval] at h
  obtain ⟨n, f, f0, H', h1, h2, h3⟩ := h Z1 (om1.cut HG.D) (putD s (some d) (.v (.bool p))) H2 (r1.less r6 hch) (hF.put (.pure (.v _)) (some d))
  obtain ⟨u, u1, u2⟩ := evOps_le (callA_le (A := A) (Nat.le_max_right n m)) (FLe.refl _) i1
  obtain ⟨f2, g1, g2⟩ := evOps_le (callA_le (A := A) (Nat.le_max_left n m)) (FLe.put u2 (some d) _) h1
  obtain ⟨Z2, om2, L2, HG2, a2, b2, c2, d2⟩ := h3
  refine ⟨max n m, f2, f0, H', ?_, h2.trans g2, Z2, om2, L2, HG2, a2, b2, r3.trans ((Ext.less r1 r6 r7).trans c2), d2⟩
  have hpre : evOps (callA A (max n m)) (cutPre g (o0 :: ops)) fr H = some (u, H2) := by
   rw [strip_ok (w := w) (by rw [e1, hq]) (newInG_ne hg hn)]; exact u1
  rw [← heq, evOps_append hpre, hr, evOps]
  have hug : u.get g = some (.v (.bool w)) := by
   obtain ⟨a, x1, x2⟩ := hF g _ hg
   obtain rfl := x2.v_inv
   rw [u2 _ _ x1, hq]
  subst hpk
  cases w
  ·simp only [evOp, evX, Bool.false_eq_true, if_false, hug, u2 _ _ hsr]; exact g1
  ·simp only [evOp, evX, if_true, hug, u2 _ _ hsr]; exact g1
 ·obtain ⟨fr3, i1, i2⟩ := skip_ok (H := H) hg hq hs hn hf (ts := []) (fun t h => by cases h)
  have hval : (if w then q && p else q || p) = !w := by cases q <;> cases w <;> simp at hq ⊢
  rw [hval] at h
  obtain ⟨n, f, f0, H', h1, h2, h3⟩ := h Z om (putD fr3 (some d) (.v (.bool !w))) H hrel (i1.put (.pure (.v _)) (some d))
  refine ⟨n, f, f0, H', ?_, h2, h3⟩
  obtain ⟨a', e1', e2'⟩ := i1 g _ hg
  obtain rfl := e2'.v_inv
  rw [← heq, evOps_append (i2 (callA A n)), hr, evOps]
  subst hpk
  cases w <;> cases q <;> first | (exact absurd rfl hq) | skip
  ·simp only [evOp, evX, Bool.false_eq_true, if_false, e1', Bool.not_false] at h1 ⊢; exact h1
  ·simp only [evOp, evX, if_true, e1', Bool.not_true] at h1 ⊢; exact h1
theorem G.andS {d0 : Option Nat} {o0 : AOp} {ops l : List AOper} {d g r : Nat} {q p : Bool} (hg : lkP L g = some (.v (.bool q)))
 (hs : skipOk g true [] (cutPre g (⟨d0, o0, some (g, true)⟩ :: ops)) = true) (hn : newInG L (cutPre g (⟨d0, o0, some (g, true)⟩ :: ops)) = true) (hr : cutPost g (⟨d0, o0, some (g, true)⟩ :: ops) = ⟨some d, .pick (.t g) (.t r) (.c (.v (.bool false))), none⟩ :: l) (hcl : cleanL HG.D L = true) (hch : cleanH HG.D HG = true)
 (hB : q = true → WpOpsG A (strip g true (cutPre g (⟨d0, o0, some (g, true)⟩ :: ops))) L HG (sideG L HG r p)) (h : WpOpsG A l ((d, .v (.bool (q && p))) :: L) HG Q) : WpOpsG A (⟨d0, o0, some (g, true)⟩ :: ops) L HG Q :=
 G.side (w := true) rfl hg hs hn hr hcl hch hB h
/-! ## Numbers that fit -/
theorem G.addI {d : Nat} {x y : AX} {a b : Int} (hx : lkGX L x = some (.v (.int .i64 a))) (hy : lkGX L y = some (.v (.int .i64 b))) (h : -2 ^ 63 ≤ a + b ∧ a + b < 2 ^ 63) (k : WpOpsG A l ((d, .v (.int .i64 (a + b))) :: L) HG Q) : WpOpsG A (⟨some d, .bin .add x y, none⟩ :: l) L HG Q :=
 G.bin hx hy (r := .int .i64 (IntKind.i64.wrap (a + b))) rfl (by rw [IntKind.wrap_i64, show (a + b + 9223372036854775808) % 18446744073709551616 - 9223372036854775808 = a + b by omega]; exact k)
theorem G.subI {d : Nat} {x y : AX} {a b : Int} (hx : lkGX L x = some (.v (.int .i64 a))) (hy : lkGX L y = some (.v (.int .i64 b))) (h : -2 ^ 63 ≤ a - b ∧ a - b < 2 ^ 63) (k : WpOpsG A l ((d, .v (.int .i64 (a - b))) :: L) HG Q) : WpOpsG A (⟨some d, .bin .sub x y, none⟩ :: l) L HG Q :=
 G.bin hx hy (r := .int .i64 (IntKind.i64.wrap (a - b))) rfl (by rw [IntKind.wrap_i64, show (a - b + 9223372036854775808) % 18446744073709551616 - 9223372036854775808 = a - b by omega]; exact k)
def bytesG : List (List GV) → Option (List UInt8)
 | [] => some []
 | [.v (.int .u8 n)] :: r => match bytesG r with
   | some l => some (UInt8.ofNat n.toNat :: l)
   | none => none
 | _ => none
theorem bytesG_ok {Z : ZM} : ∀ {cs : List (List GV)} {bs : List UInt8} {ws : List AV}, bytesG cs = some bs → ws.length = cs.length → ArrAt Z ws 0 1 cs → bytesOf ws = some bs
 | [], bs, ws, h, hl, _ => by cases h; cases ws <;> simp at hl; rfl
 | c :: cs, bs, [], h, hl, _ => by simp at hl
 | c :: cs, bs, w :: ws, h, hl, ha => by
   unfold bytesG at h
   split at h
   ·rename_i e; cases e
   ·rename_i n r e
    cases e
    split at h
    ·rename_i l hr
     cases h
     obtain ⟨a, a1, a2⟩ := (ha 0 _ rfl).2 0 _ rfl
     simp at a1
     subst a1
     cases a2
     have ih := bytesG_ok (ws := ws) hr (by simpa using hl) (fun i c e => by
      obtain ⟨h1, h2⟩ := ha (i + 1) c (by simpa using e)
      refine ⟨h1, fun k x e' => ?_⟩
      obtain ⟨a, b1, b2⟩ := h2 k x e'
      have hk := (List.getElem?_eq_some_iff.1 e').1
      obtain rfl : k = 0 := by omega
      simp only [Nat.zero_add, Nat.mul_one, Nat.add_zero, List.getElem?_cons_succ] at b1 ⊢
      exact ⟨a, b1, b2⟩)
     simp only [bytesOf, ih, Option.map]
    ·cases h
   ·cases h
theorem G.convbs {d : Nat} {x : AX} {v : GV} {cs : List (List GV)} {bs : List UInt8} (hx : lkGX L x = some v) (hs : srcG HG 1 v = some cs) (hb : bytesG cs = some bs) (hstr : ∀ s, v ≠ .v (.string s)) (k : WpOpsG A l ((d, .v (.string ⟨bs.toArray⟩)) :: L) HG Q) : WpOpsG A (⟨some d, .convbs x, none⟩ :: l) L HG Q :=
 WpOpsG.pure (d := some d) (fun Z om fr H hr hf => by
  obtain ⟨u, h1, h2⟩ := hf.x hx
  obtain ⟨news, n1, n2, n3⟩ := src_ok hr h2 hs
  have hbo := bytesG_ok hb (by rw [n2, Nat.mul_one]) n3
  refine ⟨.v (.string ⟨bs.toArray⟩), ?_, .pure (.v _)⟩
  cases u with
  | sl b off len cap ex =>
    simp only [newsOf, Nat.mul_one, Option.map_eq_some_iff, Prod.mk.injEq] at n1
    obtain ⟨ws, g1, g2, rfl⟩ := n1
    simp only [evOp, h1, g1, hbo]
  | v y =>
    have hnil : ∀ z, newsOf H 1 (.v y) = some z → (∃ s, y = .string s) ∨ y = .slice none 0 0 := by
     intro z hz
     unfold newsOf at hz
     split at hz
     ·rename_i e; cases e; exact .inr rfl
     ·rename_i e; cases e
     ·rename_i s e; cases e; exact .inl ⟨s, rfl⟩
     ·cases hz
    rcases hnil _ n1 with ⟨s, rfl⟩ | rfl
    ·exfalso
     cases v with
     | v z => have := h2.v_inv; cases this; exact hstr s rfl
     | fsl w c => have := h2.fsl_inv; cases this
     | osl g => rcases h2.osl_inv with ⟨_, _, _, _, _, _, _, e⟩ | ⟨_, e⟩ <;> cases e
     | _ => simp [srcG] at hs
    ·simp only [newsOf, Option.some.injEq, Prod.mk.injEq] at n1
     have : cs = [] := List.length_eq_zero_iff.1 n1.1.symm
     subst this
     cases hb
     have he : ByteArray.empty = ⟨([] : List UInt8).toArray⟩ := rfl
     simp only [evOp, h1, he]
  | _ => simp [newsOf] at n1) k
theorem G.convsb {d g : Nat} {x : AX} {s : ByteArray} (hx : lkGX L x = some (.v (.string s))) (hg : (lkP HG g).isNone = true) (k : WpOpsG A l ((d, .osl g) :: L) ((g, .arr .yes 1 (s.data.toList.map fun b => [.v (.int .u8 b.toNat)])) :: HG) Q) : WpOpsG A (⟨some d, .convsb x, none⟩ :: l) L HG Q :=
 WpOpsG.step (d := some d) (fun Z om fr H hr hf => by
  obtain ⟨u, h1, h2⟩ := hf.x hx
  obtain rfl := h2.v_inv
  have hg' : lkP HG g = none := by simpa using hg
  obtain ⟨news, n1, n2, n3⟩ := src_ok hr h2 (w := 1) (ds := s.data.toList.map fun b => [.v (.int .u8 b.toNat)]) rfl
  simp only [newsOf, if_true, Option.some.injEq, Prod.mk.injEq] at n1
  obtain ⟨_, rfl⟩ := n1
  have hlen : (s.data.toList.map fun b => [GV.v (.int .u8 b.toNat)]).length = s.size := by simp only [List.length_map]; rfl
  obtain ⟨r1, r2⟩ := hr.alloc hg' (es := 1) (cs := s.data.toList.map fun b => .v (.int .u8 b.toNat)) (l := .sl H.next 0 (s.data.toList.map fun b => [GV.v (.int .u8 b.toNat)]).length s.size false 1) (nb := .arr .yes 1 (s.data.toList.map fun b => [.v (.int .u8 b.toNat)])) (fun _ h => h.symm)
   (.arr (Om.set_self ..) (Heap.alloc_self rfl) rfl rfl (by omega) (.eq (by simp only [List.length_map, Nat.zero_add, Nat.mul_one]; rfl)) (.inr hlen) n3)
  exact WpOp.eval (by simp only [evOp, h1, hlen]) ⟨Z, _, r1, hf.mono (.refl _) (Om.le_set _ _ _ (hr.dom g hg')), .osl (Om.set_self ..), r2⟩) k
end
end Go.AM
set_option linter.all false
namespace Go.AM
section
variable {A : AProg} {L : GFr} {HG : GHp} {l : List AOper} {Q : GFr → GHp → Prop}
/-! ## Rows of things of one kind -/
end
section
variable {A : AProg} {L : GFr} {HG : GHp} {l : List AOper} {Q : GFr → GHp → Prop}
end
/-! bits -/
section
variable {A : AProg} {L : GFr} {HG : GHp} {l : List AOper} {Q : GFr → GHp → Prop}
theorem G.remP {d : Nat} {w : IntKind} {x y : AX} {a b : Int} (hx : lkGX L x = some (.v (.int w a))) (hy : lkGX L y = some (.v (.int w b))) (hb : b ≠ 0) (k : WpOpsG A l ((d, .v (.int w (a.tmod b))) :: L) HG Q) : WpOpsG A (⟨some d, .bin .rem x y, none⟩ :: l) L HG Q :=
 G.bin hx hy (by simp only [binV, if_true, binI, if_neg hb]) k
end
end Go.AM
set_option linter.all false
namespace Go.AM
/-! ## Made, and never written -/
section
variable {A : AProg} {L : GFr} {HG : GHp} {l : List AOper} {Q : GFr → GHp → Prop}
def joinP (L1 : GFr) (H1 : GHp) : AE → GFr → GHp → Prop
 | .nm, L, H => hasP L L1 ∧ hasP H H1 ∧ pins H1 H = true
 | _, _, _ => False
theorem WpG.seqJ {a b : AC} {Q : AE → GFr → GHp → Prop} (L1 : GFr) (H1 : GHp) (hc : cleanL H1.D L1 = true ∧ cleanH H1.D H1 = true) (h : WpG A a L HG (joinP L1 H1)) (k : WpG A b L1 H1 Q) : WpG A (.seq a b) L HG Q :=
 WpG.seq (h.mono fun e L' H' j => by
  cases e with
  | nm => exact WpG.less (hasP_le j.1) (hasP_le j.2.1) hc.1 hc.2 j.2.2 k
  | ex i => exact j.elim
  | rt => exact j.elim)
end
end Go.AM
set_option linter.all false
namespace Go.AM
section
variable {A : AProg} {L : GFr} {HG : GHp} {l : List AOper}
theorem GRel.reblk {Z : ZM} {om : Om} {H : Heap} (hr : GRel Z om HG H) {g : Nat} {ob nb : GBlk} (e : lkP HG g = some ob) (hb : BR Z om H g nb) :
 GRel Z om ((g, nb) :: HG) H ∧ Ext Z om HG H Z om ((g, nb) :: HG) H := by
 have hS : ∀ k, (lkP ((g, nb) :: HG) k).isSome = true ↔ (lkP HG k).isSome = true := fun k => by
  rw [lkP_cons]
  split
  ·rename_i c; rw [← c, e]; simp
  ·exact Iff.rfl
 refine ⟨⟨fun k h => hr.dom k ?_, hr.zok, fun k blk h => ?_, fun g1 g2 b n e1 e2 => hr.sep g1 g2 b n ((hS _).1 e1) ((hS _).1 e2), fun k b h => hr.zsep k b ((hS _).1 h), fun k b blk m h i hb hm => ?_⟩,
  ⟨Nat.le_refl _, .refl _, fun _ _ _ => ⟨rfl, rfl⟩, fun b _ hf => ?_, fun _ _ _ h => h, fun b _ ho => ?_, fun _ _ h k => absurd h k⟩⟩
 ·have := (hS k)
  rw [h] at this
  cases hk : lkP HG k with
  | none => rfl
  | some b => rw [hk] at this; simp at this
 ·rw [lkP_cons] at h
  split at h
  ·rename_i c; cases h; rw [← c]; exact hb
  ·exact hr.own k blk h
 ·obtain ⟨a1, a2, a3⟩ := hr.mate k b blk m ((hS _).1 h) i hb hm
  exact ⟨a1, a2, fun g' e' => a3 g' ((hS _).1 e')⟩
 ·obtain ⟨k, e, f⟩ := hf; exact ⟨k, (hS k).1 e, f⟩
 ·obtain ⟨k, e, f⟩ := ho; exact ⟨k, (hS k).1 e, f⟩
end
end Go.AM
set_option linter.all false
namespace Go.AM
section
variable {A : AProg} {L : GFr} {HG : GHp} {l : List AOper}
theorem WpOp.ck {ts : List Nat} {o : AOp} {fr : T AV} {H : Heap} {Q : AV → Heap → Prop} (h : WpOp A o fr H (fun a H' => Unch ts fr H H' ∧ Q a H')) : WpOp A (.ck ts o) fr H Q :=
 let ⟨n, v, H', e, hU, hq⟩ := h; ⟨n, v, H', evOp_ck.2 ⟨e, hU⟩, hq⟩
end
end Go.AM
set_option linter.all false
namespace Go.AM
section
variable {A : AProg} {L : GFr} {HG : GHp} {l : List AOper} {Q : GFr → GHp → Prop}
/-! parts of a value's row -/
/-! more operations -/
theorem G.convis {d : Nat} {k' : IntKind} {x : AX} {n : Int} (hx : lkGX L x = some (.v (.int k' n))) (k : WpOpsG A l ((d, .v (.string (Utf8.encode n))) :: L) HG Q) : WpOpsG A (⟨some d, .convis x, none⟩ :: l) L HG Q :=
 WpOpsG.pure (d := some d) (fun Z om fr H hr hf => by
  obtain ⟨u, h1, h2⟩ := hf.x hx
  obtain rfl := h2.v_inv
  exact ⟨_, by simp only [evOp, h1], .pure (.v _)⟩) k
theorem G.aidx {d len : Nat} {k' : IntKind} {x i : AX} {n : Int} {cs : List GV} {v : GV} (hx : lkGX L x = some (.agg cs)) (hi : lkGX L i = some (.v (.int k' n))) (h0 : 0 ≤ n) (hn : n < len) (hv : cs[n.toNat]? = some v) (k : WpOpsG A l ((d, v) :: L) HG Q) : WpOpsG A (⟨some d, .aidx len x i, none⟩ :: l) L HG Q :=
 WpOpsG.pure (d := some d) (fun Z om fr H hr hf => by
  obtain ⟨u, h1, h2⟩ := hf.x hx
  obtain ⟨as, rfl, h3, h4⟩ := h2.agg_inv
  obtain ⟨w, k1, k2⟩ := hf.x hi
  obtain rfl := k2.v_inv
  have hlt : n.toNat < as.length := by rw [← h3]; exact (List.getElem?_eq_some_iff.1 hv).1
  have ha : as[n.toNat]? = some as[n.toNat] := by simp [hlt]
  exact ⟨as[n.toNat], by simp only [evOp, h1, k1, if_pos (And.intro h0 hn), ha], h4 _ _ _ hv ha⟩) k
theorem G.appz {d g w by_ : Nat} {z : List AV} {x y : AX} {n : Int} (hx : lkGX L x = some (.v (.slice none 0 0))) (hy : lkGX L y = some (.v (.int .i64 n))) (h0 : 0 < n) (hs : n * (by_ : Int) ≤ 2 ^ 47)
 (hz : Nat.beq z.length w = true) (hw : Nat.ble 1 w = true) (hp : GV.plL (cvt.cvts z) = true) (hg : (lkP HG g).isNone = true)
 (k : WpOpsG A l ((d, .osl g) :: L) ((g, .arr (.rm 0) w (List.replicate n.toNat (cvt.cvts z))) :: HG) Q) : WpOpsG A (⟨some d, .appz w by_ z x y, none⟩ :: l) L HG Q :=
 WpOpsG.step (d := some d) (fun Z om fr H hr hf => by
  obtain ⟨u, h1, h2⟩ := hf.x hx
  obtain rfl := h2.v_inv
  obtain ⟨v, h3, h4⟩ := hf.x hy
  obtain rfl := h4.v_inv
  have hg' : lkP HG g = none := by simpa using hg
  have hzw := Nat.eq_of_beq_eq_true hz
  have hw' := Nat.le_of_ble_eq_true hw
  obtain ⟨f1, f2⟩ := flatten_rep z w hzw n.toNat
  obtain ⟨q1, q2⟩ := cvts_ok (Z := Z) (om := om) z
  have ha : ArrAt Z (List.replicate n.toNat z).flatten 0 w (List.replicate n.toNat (cvt.cvts z)) := fun i c' e => by
   rw [List.getElem?_replicate] at e
   split at e
   ·rename_i hi
    cases e
    refine ⟨by rw [q1, hzw], fun k x e' => ?_⟩
    have hk : k < w := by rw [← hzw, ← q1]; exact (List.getElem?_eq_some_iff.1 e').1
    have hzk : z[k]? = some (z[k]'(by omega)) := List.getElem?_eq_getElem (by omega)
    exact ⟨z[k]'(by omega), by rw [Nat.zero_add, f2 i k (by omega) hk, hzk], (q2 k x _ e' hzk).toPR (GV.plL_at hp e')⟩
   ·cases e
  obtain ⟨r1, r2⟩ := hr.alloc hg' (es := w) (cs := (List.replicate n.toNat z).flatten) (l := .sl H.next 0 (List.replicate n.toNat (cvt.cvts z)).length n.toNat false w) (nb := .arr (.rm 0) w (List.replicate n.toNat (cvt.cvts z))) (fun _ h => h.symm)
   (.arr (Om.set_self ..) (Heap.alloc_self rfl) rfl rfl (by simp) (.eq (by simp only [Nat.zero_add]; exact f1)) (by show n.toNat = _ + 0; simp) ha)
  exact WpOp.eval (by simp only [evOp, h1, h3, if_pos (And.intro h0 hs), List.length_replicate]) ⟨Z, _, r1, hf.mono (.refl _) (Om.le_set _ _ _ (hr.dom g hg')), .osl (Om.set_self ..), r2⟩) k
end
end Go.AM
namespace Go.AM
section
variable {Z : ZM} {om : Om} {HG : GHp} {H : Heap}
theorem GRel.mat (h : GRel Z om HG H) {g w : Nat} {rows : List (Option (List (List GV)))} (e : lkP HG g = some (.mat w rows)) :
 (om g = some .nil ∧ rows = []) ∨ ∃ b o cap ex ps blk, om g = some (.mat b o cap ex ps) ∧ H.blks.get b = some blk ∧ blk.wr = true ∧ blk.es = 1 ∧ rows.length = ps.length ∧ rows.length ≤ cap ∧ SzOk ex blk.cells.length o cap 1 ∧ (ex = true ∨ rows.length = cap) ∧
   (∀ (i : Nat) (r : Option (List (List GV))) (p : RP), rows[i]? = some r → ps[i]? = some p → RowAt Z H w r p blk.cells[o + i]?) ∧ (∀ (i : Nat) (p : RP), ps[i]? = some p → ¬ p.has b) ∧ (∀ (i j : Nat) (p q : RP) (c : Nat), ps[i]? = some p → ps[j]? = some q → p.has c → q.has c → i = j) := by
 cases h.own g _ e with
 | mnil h1 => exact .inl ⟨h1, rfl⟩
 | mat h1 h2 h3 h4 h5 h6 h7 h8 h9 h10 h11 => exact .inr ⟨_, _, _, _, _, _, h1, h2, h3, h4, h5, h6, h7, h8, h9, h10, h11⟩
end
end Go.AM
set_option linter.all false
namespace Go.AM
/-! ## What is one's own is lent for the time of a call: it reads as a value -/
def Zs (H : Heap) : ZM := fun b => if b < H.next then (H.blks.get b).map fun blk => ⟨blk.cells, blk.es⟩ else none
section
variable {Z : ZM} {om : Om} {HG : GHp} {H : Heap}
theorem Zs.rel (H : Heap) : GRel (Zs H) (fun _ => none) [] H where
 dom := fun _ _ => rfl
 zok := fun b zb e => by
  unfold Zs at e
  split at e
  ·rename_i hb
   rw [Option.map_eq_some_iff] at e
   obtain ⟨blk, e1, rfl⟩ := e
   exact ⟨hb, blk, e1, rfl, rfl⟩
  ·cases e
 own := fun g b e => by cases e
 sep := fun g g' b _ e => by cases e
 zsep := fun g b e => by cases e
 mate := fun g b blk m e => by cases e
end
section
variable {A : AProg} {L : GFr} {HG : GHp} {l : List AOper} {Q : GFr → GHp → Prop}
end
end Go.AM
set_option linter.all false
namespace Go.AM
section
variable {A : AProg} {L : GFr} {HG : GHp} {l : List AOper} {Q : GFr → GHp → Prop}
end
end Go.AM
set_option linter.all false
set_option maxRecDepth 10000
namespace Go.AM
/-! calls that leave what is one's own at its place: what comes in is named 8, 9 -/
def WpCallK (A : AProg) (f : Nat) (vs : List GV) (HG : GHp) (Q : GV → GHp → Prop) : Prop :=
 ∀ Z om as H, GRel Z om HG H → VRs Z om vs as → WpCall A f as H fun a H' => ∃ Z' om' v HG', GRel Z' om' HG' H' ∧ VR Z' om' v a ∧ Ext Z om HG H Z' om' HG' H' ∧ (∀ g l, om g = some l → om' g = some l) ∧ Q v HG'
def nailP : GHp → Bool
 | [] => true
 | p :: r => (Nat.blt p.1 10 && Nat.ble 8 p.1) && nailP r
theorem nailP_at : ∀ {P : GHp}, nailP P = true → ∀ g, (lkP P g).isSome = true → 8 ≤ g ∧ g < 10
 | [], _, g, h => by cases h
 | p :: r, h, g, e => by
   rw [nailP, Bool.and_eq_true, Bool.and_eq_true] at h
   rw [lkP_cons] at e
   split at e
   ·rename_i c
    rw [c] at h
    exact ⟨Nat.le_of_ble_eq_true h.1.2, Nat.le_of_ble_eq_true h.1.1⟩
   ·exact nailP_at h.2 g e
theorem WpCallK.intro {A : AProg} {f : Nat} {fn : AFunc} {vs : List GV} {P : GHp} {Q : GV → GHp → Prop} (hf : A.get f = some fn) (hl : Nat.beq vs.length fn.nparams = true) (hP : nailP P = true) (h : WpG A fn.code (argG 0 vs) P (funG fn.results Q)) : WpCallK A f vs P Q := fun Z om as H hr hv => by
 refine WpCall.intro hf (by rw [← hv.length]; exact Nat.eq_of_beq_eq_true hl) ((h Z om _ H hr (FR.args hv)).mono ?_)
 rintro e fr' H' ⟨Z', om', L', HG', a, b, c, d⟩
 have main : (∃ vs HG2, ressG HG' L' fn.results = some vs ∧ HLe HG2 HG' ∧ GV.okL HG2.D vs = true ∧ cleanH HG2.D HG2 = true ∧ pins HG2 HG' = true ∧ Q (outG vs) HG2) →
  ∃ ws, getResults H' fr' fn.results = some ws ∧ ∃ Z' om' v HG', GRel Z' om' HG' H' ∧ VR Z' om' v (outA ws) ∧ Ext Z om P H Z' om' HG' H' ∧ (∀ g l, om g = some l → om' g = some l) ∧ Q v HG' := by
  rintro ⟨vs', HG2, h1, h2, h3, h4, h5, h6⟩
  obtain ⟨ws, k1, k2⟩ := ressG_ok a b h1
  have ex := c.trans (Ext.less a h2 h5)
  exact ⟨ws, k1, Z', _, _, HG2, a.less h2 h4, (k2.cut h3).out, ex, fun g l e => by
   have := nailP_at hP g (hr.some_dom e)
   exact ex.stab g l ⟨this.2, .inl this.1⟩ e, h6⟩
 cases e with
 | ex i => exact d.elim
 | nm => exact main d
 | rt => exact main d
section
variable {A : AProg} {L : GFr} {HG : GHp} {l : List AOper} {Q : GFr → GHp → Prop}
end
end Go.AM
set_option linter.all false
set_option maxRecDepth 10000
namespace Go.AM
section
variable {A : AProg} {L : GFr} {HG : GHp} {l : List AOper} {Q : GFr → GHp → Prop}
end
end Go.AM
set_option linter.all false
set_option maxRecDepth 10000
namespace Go.AM
/-! appending to a slice of one's own while the old one is kept: both are values from then on -/
section
variable {Z : ZM} {om : Om} {HG : GHp} {H : Heap}
end
section
variable {A : AProg} {L : GFr} {HG : GHp} {l : List AOper} {Q : GFr → GHp → Prop}
end
end Go.AM
namespace Go.AM
end Go.AM
set_option linter.all false
set_option maxRecDepth 10000
namespace Go.AM
/-! the first part of a slice of one's own: what points to a row stays -/
section
variable {A : AProg} {L : GFr} {HG : GHp} {l : List AOper} {Q : GFr → GHp → Prop}
end
end Go.AM
namespace Go.AM
end Go.AM
