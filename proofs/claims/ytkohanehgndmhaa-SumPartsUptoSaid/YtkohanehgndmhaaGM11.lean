/- The machine over plain data: rules for each operation, calls. No condition. -/
import Derived.Test.YtkohanehgndmhaaGM10
set_option linter.all false
namespace Go.AM
/-! ## Made, and never written -/
theorem GRel.lit {Z : ZM} {om : Om} {HG : GHp} {H : Heap} (h : GRel Z om HG H) {es : Nat} {cs : List AV} :
    ∃ Z', ZLe Z Z' ∧ Z' H.next = some ⟨cs, es⟩ ∧ GRel Z' om HG (H.alloc es cs) ∧ Ext Z om HG H Z' om HG (H.alloc es cs) := by
  have hz : ZLe Z (fun b => if b = H.next then some ⟨cs, es⟩ else Z b) := fun b zb e => by
    show (if b = H.next then _ else _) = _
    rw [if_neg (fun c => by rw [c] at e; have := (h.zok _ _ e).1; omega)]; exact e
  have hne : ∀ b, b < H.next → (H.alloc es cs).blks.get b = H.blks.get b := fun b hb => Heap.alloc_ne (by omega)
  have hold : ∀ b, b < H.next → (if b = H.next then some (⟨cs, es⟩ : ZB) else Z b) = Z b := fun b hb => if_neg (by omega)
  have hnx : (H.alloc es cs).next = H.next + 1 := rfl
  refine ⟨fun b => if b = H.next then some ⟨cs, es⟩ else Z b, hz, if_pos rfl, ⟨h.dom, fun b zb e => ?_, fun g blk e => ?_, h.sep, fun g b e i => ?_, fun g b blk m e i hb hm => ?_⟩, ⟨by omega, hz, fun b hb _ => ⟨hne b hb, hold b hb⟩, fun b hb hf => ?_, fun _ _ _ k => k, fun _ _ k => k, fun b hb e1 e2 => absurd ((hold b hb).trans e1) e2⟩⟩
  · have e' : (if b = H.next then some (⟨cs, es⟩ : ZB) else Z b) = some zb := e
    by_cases c : b = H.next
    · rw [if_pos c] at e'; cases e'; exact ⟨by omega, _, Heap.alloc_self c, rfl, rfl⟩
    · rw [if_neg c] at e'
      obtain ⟨a1, blk, a2, a3⟩ := h.zok b zb e'
      exact ⟨by omega, blk, by rw [hne b a1]; exact a2, a3⟩
  · exact (h.own g blk e).keep rfl (fun b hb => hne b (h.old (by rw [e]; rfl) hb)) (fun v a hv => hv.mono hz (fun _ _ k => k)) hz
  · have := h.zsep g b e i
    exact ⟨(hold b this.2).trans this.1, by omega⟩
  · rw [hne b (h.old e i)] at hb
    obtain ⟨a1, a2, a3⟩ := h.mate g b blk m e i hb hm
    exact ⟨by omega, (hold m a1).trans a2, a3⟩
  · obtain ⟨g, e, f⟩ := hf
    refine ⟨g, e, ?_⟩
    rcases f with f | ⟨b', blk, f, f2, f3⟩
    · exact .inl f
    · exact .inr ⟨b', blk, f, by rw [← hne b' (h.old e f)]; exact f2, f3⟩
section
variable {A : AProg} {L : GFr} {HG : GHp} {l : List AOper} {Q : GFr → GHp → Prop}
theorem G.bsliceF {d w len : Nat} {z : List AV} {ps : List (Nat × Nat × AX)} {cells : List GV} {cs : List (List GV)} (e : fillG L (cvt.cvts z) ps = some cells) (hc : chunkG w len cells = some cs) (hpl : GV.plL cells = true)
    (k : WpOpsG A l ((d, .fsl w cs) :: L) HG Q) : WpOpsG A (⟨some d, .bslice w len z ps, none⟩ :: l) L HG Q :=
  WpOpsG.step (d := some d) (fun Z om fr H hr hf => by
    obtain ⟨bs, h1, h2, h3⟩ := fillG_ok hf e (cvts_ok (Z := Z) (om := om) z).1 (cvts_ok z).2
    obtain ⟨c1, c2, c3⟩ := chunkG_ok hc
    have ha : ArrAt Z bs 0 w cs := fun i c e => ⟨(c3 i c e).1, fun k x e' => by
      have h4 := (c3 i c e).2 k x e'
      have hlt : i * w + k < bs.length := by rw [← h2]; exact (List.getElem?_eq_some_iff.1 h4).1
      exact ⟨bs[i * w + k], by simp [hlt], (h3 _ _ _ h4 (by simp [hlt])).toPR (GV.plL_at hpl h4)⟩⟩
    obtain ⟨Z', z1, z2, z3, z4⟩ := hr.lit (es := w) (cs := bs)
    exact WpOp.eval (by simp only [evOp, h1]) ⟨Z', om, z3, hf.mono z1 (fun _ _ h => h), .pure (PR.sl (ex := true) z2 rfl c1.symm (Nat.le_refl _) (ha.mono z1)), z4⟩) k
theorem G.convsbF {d : Nat} {x : AX} {s : ByteArray} (hx : lkGX L x = some (.v (.string s))) (k : WpOpsG A l ((d, .fsl 1 (s.data.toList.map encB)) :: L) HG Q) : WpOpsG A (⟨some d, .convsb x, none⟩ :: l) L HG Q :=
  WpOpsG.step (d := some d) (fun Z om fr H hr hf => by
    obtain ⟨u, h1, h2⟩ := hf.x hx
    obtain rfl := h2.v_inv
    obtain ⟨news, n1, n2, n3⟩ := src_ok hr h2 (w := 1) (ds := s.data.toList.map fun b => [.v (.int .u8 b.toNat)]) rfl
    simp only [newsOf, if_true, Option.some.injEq, Prod.mk.injEq] at n1
    obtain ⟨_, rfl⟩ := n1
    have hlen : (s.data.toList.map fun b => [GV.v (.int .u8 b.toNat)]).length = s.size := by simp only [List.length_map]; rfl
    obtain ⟨Z', z1, z2, z3, z4⟩ := hr.lit (es := 1) (cs := s.data.toList.map fun b => .v (.int .u8 b.toNat))
    exact WpOp.eval (by simp only [evOp, h1]) ⟨Z', om, z3, hf.mono z1 (fun _ _ h => h), .pure (PR.sl (ex := false) z2 rfl hlen.symm (Nat.le_refl _) (n3.mono z1)), z4⟩) k
/-- ways meet again -/
def joinP (L1 : GFr) (H1 : GHp) : AE → GFr → GHp → Prop
  | .nm, L, H => hasP L L1 ∧ hasP H H1 ∧ pins H1 H = true
  | _, _, _ => False
theorem WpG.seqJ {a b : AC} {Q : AE → GFr → GHp → Prop} (L1 : GFr) (H1 : GHp) (hc : cleanL H1.D L1 = true ∧ cleanH H1.D H1 = true) (h : WpG A a L HG (joinP L1 H1)) (k : WpG A b L1 H1 Q) : WpG A (.seq a b) L HG Q :=
  WpG.seq (h.mono fun e L' H' j => by
    cases e with
    | nm => exact WpG.less (hasP_le j.1) (hasP_le j.2.1) hc.1 hc.2 j.2.2 k
    | ex i => exact j.elim
    | rt => exact j.elim)
/-- a slice that a call made is taken as a value -/
theorem WpCallG.fz1 {f k w : Nat} {fl : Fl} {vs : List GV} {cs : List (List GV)} (hc : WpCallG A f vs [] (fun v H => v = .osl k ∧ H = [(k, .arr fl w cs)])) : WpCallG A f vs [] (fun v H => v = .fsl w cs ∧ H = []) := fun Z om as H hr hv => by
  refine (hc Z om as H hr hv).mono ?_
  rintro a H' ⟨Z', om', v, HG', a1, a2, a3, a4, rfl, rfl⟩
  obtain ⟨Z2, om2, b1, b2, b3, b4⟩ := a1.freeze (g := k) (w := w) (full := fl) (cs := cs) (by rw [lkP_cons, if_pos rfl])
  have e1 : fzH k (.fsl w cs) [(k, GBlk.arr fl w cs)] = [] := by
    rw [fzH]; simp only [Nat.beq_refl]; rfl
  have e2 : GV.fz k (.fsl w cs) (.osl k) = .fsl w cs := by rw [GV.fz]; simp only [Nat.beq_refl]
  rw [e1] at b2 b4
  have hv' := b3 _ _ a2
  rw [e2] at hv'
  refine ⟨Z2, om2, _, [], b2, hv', a3.trans b4, fun g b e => ?_, rfl, rfl⟩
  have := hr.dom g rfl
  rw [this] at e; cases e
end
end Go.AM
