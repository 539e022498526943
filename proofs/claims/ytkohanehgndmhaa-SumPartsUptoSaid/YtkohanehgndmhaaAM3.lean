/- The machine, and that it tells the truth of the program. No condition. -/
import Derived.Test.YtkohanehgndmhaaAM2
import Derived.WalkKit
set_option linter.all false
namespace Go.AM
open Go.RowKit

def FRel (φ : Phi) (fr : T AV) (tmps : Array Value) : Prop := ∀ t v, fr.get t = some v → ∃ x, tmps[t]? = some x ∧ VRel φ v x

theorem FRel.mono {φ φ' : Phi} (h : Le φ φ') {fr : T AV} {tmps : Array Value} (hf : FRel φ fr tmps) : FRel φ' fr tmps :=
  fun t v e => let ⟨x, h1, h2⟩ := hf t v e; ⟨x, h1, h2.mono h⟩

theorem plain1_one {x : Value} (h : Value.plain1 x = true) : x.oneCell' = true := by
  cases x <;> first | rfl | simp [Value.plain1] at h

theorem vrel_plain (φ : Phi) (cs : Array Value) (h : cs.all Value.plain1 = true) : VRel φ (.agg (cs.toList.map .v)) (.agg cs) := by
  have h' : ∀ x ∈ cs.toList, Value.plain1 x = true := by
    intro x hx
    rw [Array.all_eq_true_iff_forall_mem] at h
    exact h x (by simpa using hx)
  refine .agg (by simp) ?_ ?_
  · intro i c x hc hx
    rw [List.getElem?_map] at hc
    have hx' : cs.toList[i]? = some x := by simpa using hx
    rw [hx'] at hc
    simp only [Option.map_some, Option.some.injEq] at hc
    subst hc
    exact .v (plain1_one (h' x (List.mem_of_getElem? hx')))
  · intro c hc
    simp only [List.mem_map] at hc
    obtain ⟨x, _, rfl⟩ := hc
    rfl

theorem const_sound {φ : Phi} {x : Value} {v : AV} (h : constOf x = some v) : VRel φ v x := by
  unfold constOf at h
  split at h
  · split at h
    · rename_i hp
      cases h
      exact vrel_plain φ _ hp
    · cases h
  · split at h
    · rename_i hp
      cases h
      exact .v (plain1_one hp)
    · cases h

theorem ev_sound {φ : Phi} {fr : T AV} {a : Act} (hf : FRel φ fr a.tmps) {x : Operand} {ax : AX} (hc : cX x = some ax) {v : AV} (he : evX fr ax = some v) : VRel φ v (a.eval x) := by
  cases x with
  | tmp t =>
    cases hc
    obtain ⟨y, h1, h2⟩ := hf t v he
    simpa [Act.eval, Array.getD_eq_getD_getElem?, h1] using h2
  | const c =>
    simp only [cX, Option.map_eq_some_iff] at hc
    obtain ⟨av, h1, rfl⟩ := hc
    cases he
    exact const_sound h1
  | func f =>
    cases hc
    cases he
    exact .fn rfl (fun i c x h => by simp at h)
  | global g => cases hc

section
variable {P : Program} {B : Nat} {φ : Phi} {H H' : Heap} {w : World} {fr : T AV} {a : Act} {o : Oper} {ao : AOp} {v : AV}
  {call : Nat → List AV → Heap → Option (AV × Heap)}

def OpRes (P : Program) (B : Nat) (φ : Phi) (H : Heap) (w : World) (a : Act) (o : Oper) (v : AV) (H' : Heap) : Prop :=
  ∃ x w' φ', Step B φ H w φ' H' w' ∧ VRel φ' v x ∧ ((execOp a.eval o).run P w = .ok (.value x) w' ∨ ((execOp a.eval o).run P w = .ok .skip w' ∧ x = undef))

theorem OpRes.pure (h : HRel B φ H w) {x : Value} (hv : VRel φ v x) (hr : (execOp a.eval o).run P w = .ok (.value x) w) : OpRes P B φ H w a o v H :=
  ⟨x, w, φ, .refl h, hv, .inl hr⟩

theorem agg_run {t : TypeId} {b : Bool} (h : aggO P t = some b) (w : World) : (isAgg t).run P w = .ok b w := by
  unfold aggO at h
  simp only [Option.map_eq_some_iff] at h
  obtain ⟨d, hd, rfl⟩ := h
  simp only [isAgg, Sem.run_bind, run_underlying hd, Result.andThen_ok]
  cases d <;> rfl

theorem size_info {t : TypeId} {n : Nat} (h : sizeO P t = some n) : ∃ i, P.info? t = some i ∧ i.size = n := by
  simpa [sizeO, Option.map_eq_some_iff] using h

theorem size_run {t : TypeId} {n : Nat} (h : sizeO P t = some n) (w : World) : (sizeOf t).run P w = .ok n w := by
  obtain ⟨i, hi, rfl⟩ := size_info h
  simp [sizeOf, typeInfo, hi]

theorem zero_run {t : TypeId} {z : List AV} (h : zeroOf P t = some z) : ∃ (i : TypeInfo) (u : Value), P.info? t = some i ∧ i.zero = some u ∧ z = u.cells.toList.map .v ∧ u.cells.all Value.plain1 = true ∧
    ∀ w, (zeroValue t).run P w = .ok u w := by
  unfold zeroOf at h
  simp only [Option.bind_eq_bind, Option.bind_eq_some_iff] at h
  obtain ⟨i, hi, u, hu, h⟩ := h
  split at h
  · rename_i hp
    cases h
    exact ⟨i, u, hi, hu, rfl, hp, fun w => by simp [zeroValue, typeInfo, hi, hu]⟩
  · cases h

/-! reading memory -/
theorem takeN_some : ∀ {n : Nat} {l r : List AV}, takeN n l = some r → r = l.take n ∧ n ≤ l.length
  | 0, l, r, h => by simp only [takeN, Option.some.injEq] at h; subst h; simp
  | n + 1, [], r, h => by simp [takeN] at h
  | n + 1, x :: l, r, h => by
    simp only [takeN, Option.map_eq_some_iff] at h
    obtain ⟨r', h', rfl⟩ := h
    obtain ⟨rfl, hn⟩ := takeN_some h'
    exact ⟨by simp, by simp; omega⟩

/-- the cells that are read, as they lie in memory -/
theorem getN_cells (hr : HRel B φ H w) {b off n : Nat} {p : Pl} {vs : List AV} (hp : φ b = some p) (h : getN H b off n = some vs) :
    vs.length = n ∧ (∀ c ∈ vs, c.one = true) ∧ ∃ xs : List Value, xs.length = n ∧ (∀ (i : Nat) (c : AV) (x : Value), vs[i]? = some c → xs[i]? = some x → VRel φ c x) ∧
      (∀ (i : Nat) (x : Value), xs[i]? = some x → w.cell? ((⟨p.r, p.o + off, none⟩ : Addr).add i) = some x) := by
  unfold getN at h
  cases hb : H.blks.get b with
  | none => rw [hb] at h; cases h
  | some blk =>
    rw [hb] at h
    obtain ⟨rfl, hn⟩ := takeN_some h
    obtain ⟨_, cur, e, fz, h1, h2, h3, h4, _⟩ := hr.blk b blk p hb hp
    have hlen : ((blk.cells.drop off).take n).length = n := by simp at hn ⊢; omega
    have hone : ∀ (i : Nat) (c : AV), ((blk.cells.drop off).take n)[i]? = some c → ∃ x : Value, cur[p.o + (off + i)]? = some x ∧ VRel φ c x ∧ c.one = true := by
      intro i c hc
      rw [List.getElem?_take] at hc
      split at hc
      · rw [List.getElem?_drop] at hc
        exact h4 _ _ hc
      · cases hc
    refine ⟨hlen, ?_, (cur.toList.drop (p.o + off)).take n, ?_, ?_, ?_⟩
    · intro c hc
      obtain ⟨i, hi⟩ := List.getElem?_of_mem hc
      obtain ⟨_, _, _, h⟩ := hone i c hi
      exact h
    · simp at hn ⊢; omega
    · intro i c x hc hx
      obtain ⟨y, hy, hv, _⟩ := hone i c hc
      rw [List.getElem?_take] at hx
      split at hx
      · rw [List.getElem?_drop] at hx
        have : cur[p.o + (off + i)]? = some x := by rw [← Nat.add_assoc]; simpa using hx
        rw [this] at hy; cases hy
        exact hv
      · cases hx
    · intro i x hx
      rw [List.getElem?_take] at hx
      split at hx
      · rw [List.getElem?_drop] at hx
        have hadd : (⟨p.r, p.o + off, none⟩ : Addr).add i = ⟨p.r, p.o + off + i, none⟩ := by unfold Addr.add; split <;> simp_all
        rw [hadd]
        simp only [World.cell?, h1]
        simpa using hx
      · cases hx

theorem load_cells_run {ad : Addr} {xs : List Value} (h : ∀ (i : Nat) (x : Value), xs[i]? = some x → w.cell? (ad.add i) = some x) : (loadCells ad xs.length).run P w = .ok xs.toArray w :=
  run_loadCells_list w ad xs h

theorem ptr_inv {b off : Nat} {x : Value} (h : VRel φ (.ptr b off) x) : ∃ p, φ b = some p ∧ x = .pointer (some ⟨p.r, p.o + off, none⟩) := by
  cases h with
  | ptr h => exact ⟨_, h, rfl⟩

theorem v_inv {y x : Value} (h : VRel φ (.v y) x) : x = y ∧ y.oneCell' = true := by
  cases h with
  | v h => exact ⟨rfl, h⟩

/-- the same, in a word -/
theorem getN_rel (hr : HRel B φ H w) {b off n : Nat} {p : Pl} {vs : List AV} (hp : φ b = some p) (h : getN H b off n = some vs) :
    ∃ xs : List Value, xs.length = n ∧ CRel φ vs xs.toArray ∧ (∀ (i : Nat) (x : Value), xs[i]? = some x → w.cell? ((⟨p.r, p.o + off, none⟩ : Addr).add i) = some x) := by
  obtain ⟨h1, h2, xs, h3, h4, h5⟩ := getN_cells hr hp h
  exact ⟨xs, h3, ⟨by simp [h1, h3], fun i c y hc hy => ⟨h4 i c y hc (by simpa using hy), h2 c (List.mem_of_getElem? hc)⟩⟩, h5⟩

theorem load_sound (hr : HRel B φ H w) (hf : FRel φ fr a.tmps) {t : TypeId} {x : Operand} (ho : o.op = .load t x) (hc : cOp P o = some ao) (he : evOp call ao fr H = some (v, H')) :
    OpRes P B φ H w a o v H' := by
  simp only [cOp, ho, Option.bind_eq_bind, Option.bind_eq_some_iff] at hc
  obtain ⟨b, hb, hc⟩ := hc
  cases b with
  | true =>
    simp only [Option.bind_eq_some_iff] at hc
    obtain ⟨n, hn, ax, hx, hc⟩ := hc
    cases hc
    simp only [evOp] at he
    split at he
    · rename_i bb off hev
      split at he
      · rename_i vs hg
        cases he
        obtain ⟨p, hp, hpx⟩ := ptr_inv (ev_sound hf hx hev)
        obtain ⟨xs, h3, h4, h5⟩ := getN_rel hr hp hg
        refine OpRes.pure hr (x := .agg xs.toArray) h4.agg ?_
        have hl := load_cells_run (P := P) h5
        rw [h3] at hl
        simp [execOp, ho, Instr.loadAt, hpx, Instr.sureAddr, loadVar, agg_run hb, size_run hn, hl]
      · cases he
    · cases he
  | false =>
    simp only [Option.bind_eq_some_iff] at hc
    obtain ⟨ax, hx, hc⟩ := hc
    cases hc
    simp only [evOp] at he
    split at he
    · rename_i bb off hev
      split at he
      · rename_i u hg
        cases he
        obtain ⟨p, hp, hpx⟩ := ptr_inv (ev_sound hf hx hev)
        obtain ⟨xs, h3, h4, h5⟩ := getN_rel hr hp hg
        match xs, h3, h4, h5 with
        | [y], _, h4, h5 =>
          refine OpRes.pure hr (x := y) (h4.2 0 _ y rfl rfl).1 ?_
          have := h5 0 y rfl
          simp only [Addr.add, if_true] at this
          simp [execOp, ho, Instr.loadAt, hpx, Instr.sureAddr, loadVar, agg_run hb, this]
      · cases he
    · cases he

theorem move_sound (hr : HRel B φ H w) (hf : FRel φ fr a.tmps) {x : Operand} (ho : o.op = .move x ∨ o.op = .assign x) (hc : cOp P o = some ao) (he : evOp call ao fr H = some (v, H')) :
    OpRes P B φ H w a o v H' := by
  have hc' : (cX x).map .mv = some ao := by rcases ho with ho | ho <;> simpa only [cOp, ho] using hc
  simp only [Option.map_eq_some_iff] at hc'
  obtain ⟨ax, hx, rfl⟩ := hc'
  simp only [evOp] at he
  split at he
  · rename_i u hev
    cases he
    refine OpRes.pure hr (ev_sound hf hx hev) ?_
    rcases ho with ho | ho <;> simp [execOp, ho]
  · cases he

theorem pick_sound (hr : HRel B φ H w) (hf : FRel φ fr a.tmps) {c x y : Operand} (ho : o.op = .pick c x y) (hc : cOp P o = some ao) (he : evOp call ao fr H = some (v, H')) :
    OpRes P B φ H w a o v H' := by
  simp only [cOp, ho, Option.bind_eq_bind, Option.bind_eq_some_iff] at hc
  obtain ⟨cx, hcx, ax, hax, bx, hbx, hc⟩ := hc
  cases hc
  simp only [evOp] at he
  split at he
  · rename_i hev
    split at he
    · rename_i u hev2
      cases he
      refine OpRes.pure hr (ev_sound hf hax hev2) ?_
      have := (v_inv (ev_sound hf hcx hev)).1
      simp [execOp, ho, this, asBool]
    · cases he
  · rename_i hev
    split at he
    · rename_i u hev2
      cases he
      refine OpRes.pure hr (ev_sound hf hbx hev2) ?_
      have := (v_inv (ev_sound hf hcx hev)).1
      simp [execOp, ho, this, asBool]
    · cases he
  · cases he

/-- a new row holds what is put in -/
theorem new_row (hr : HRel B φ H w) (hφ : φ H.next = none) (es : Nat) {cs : List AV} {xs : Array Value} (h : CRel φ cs xs) (e : TypeId) :
    Step B φ H w (fun b => if b = H.next then some ⟨w.heap.size, 0, xs.size, es⟩ else φ b) (H.alloc es cs) (w.alloc (.cells xs e)) :=
  Step.alloc hr es cs xs e (0, 0) hφ (by rw [h.1]; exact Nat.le_refl _) h.at (.inr rfl) _ rfl rfl rfl rfl

theorem alloc_sound (hr : HRel B φ H w) (hφ : ∀ b, H.next ≤ b → b < H'.next → φ b = none) {t : TypeId} (ho : o.op = .alloc t) (hc : cOp P o = some ao) (he : evOp call ao fr H = some (v, H')) :
    OpRes P B φ H w a o v H' := by
  simp only [cOp, ho, Option.bind_eq_bind, Option.bind_eq_some_iff] at hc
  obtain ⟨z, hz, b, hb, hc⟩ := hc
  obtain ⟨i, u, hi, hu, rfl, hp, hzr⟩ := zero_run hz
  have hrel : CRel φ (u.cells.toList.map .v) u.cells := (vrel_plain φ u.cells hp).cs rfl
  have fin : ∀ (av : AV), ao = .box (.c av) → av.cs = some (u.cells.toList.map .v) → OpRes P B φ H w a o v H' := by
    intro av hao hav
    subst hao
    simp only [evOp, evX, hav] at he
    cases he
    refine ⟨.pointer (some ⟨w.heap.size, 0, none⟩), w.alloc (.cells u.cells t), _, new_row hr (hφ _ (Nat.le_refl _) (Nat.lt_succ_self _)) 0 hrel t, ?_, .inl ?_⟩
    · exact VRel.ptr (p := ⟨w.heap.size, 0, u.cells.size, 0⟩) (by simp)
    · simp [execOp, ho, Instr.alloc, hzr, newVar, newRow]
  cases b with
  | true =>
    simp only [Option.some.injEq] at hc
    exact fin _ hc.symm rfl
  | false =>
    simp only at hc
    split at hc
    · rename_i z hz'
      cases hc
      refine fin _ rfl ?_
      rw [hz']
      have : z.one = true := hrel.one z (by rw [hz']; simp)
      cases z <;> first | rfl | simp [AV.one] at this
    · cases hc

theorem box_sound (hr : HRel B φ H w) (hf : FRel φ fr a.tmps) (hφ : ∀ b, H.next ≤ b → b < H'.next → φ b = none) {t : TypeId} {x : Operand} (ho : o.op = .box t x) (hc : cOp P o = some ao) (he : evOp call ao fr H = some (v, H')) :
    OpRes P B φ H w a o v H' := by
  simp only [cOp, ho, Option.map_eq_some_iff] at hc
  obtain ⟨ax, hx, rfl⟩ := hc
  simp only [evOp] at he
  split at he
  · rename_i u hev
    split at he
    · rename_i vs hvs
      cases he
      have hrel := (ev_sound hf hx hev).cs hvs
      refine ⟨.pointer (some ⟨w.heap.size, 0, none⟩), w.alloc (.cells (a.eval x).cells t), _, new_row hr (hφ _ (Nat.le_refl _) (Nat.lt_succ_self _)) 0 hrel t, ?_, .inl ?_⟩
      · exact VRel.ptr (p := ⟨w.heap.size, 0, (a.eval x).cells.size, 0⟩) (by simp)
      · simp [execOp, ho, Instr.box, newVar, newRow]
    · cases he
  · cases he

/-! writing memory -/
theorem store_cells_run (g o : Nat) (t : TypeId) (fz : Nat × Nat) : ∀ (vs : List Value) (i : Nat) (cur : Array Value) (w : World), w.heap[g]? = some (.cells cur t fz) → (cur.size ≤ fz.1 ∨ fz.2 = fz.1) →
    o + i + vs.length ≤ cur.size → (∀ v ∈ vs, v.oneCell' = true) → (storeCells ⟨g, o, none⟩ vs i).run P w = .ok () (w.setRow g (splice cur (o + i) vs))
  | [], i, cur, w, hg, _, _, _ => by
    have : splice cur (o + i) [] = cur := by simp [splice]
    rw [this, setRow_self w g cur t fz hg]
    rfl
  | v :: rest, i, cur, w, hg, hz, hl, h1 => by
    have hi : o + i < cur.size := by simp at hl; omega
    have hadd : (⟨g, o, none⟩ : Addr).add i = ⟨g, o + i, none⟩ := by unfold Addr.add; split <;> simp_all
    have hcell : w.cell? ⟨g, o + i, none⟩ = some cur[o + i] := by simp [World.cell?, hg, hi]
    have hfro : w.frozen? ⟨g, o + i, none⟩ = false := by
      simp only [World.frozen?, hg]
      rcases hz with hz | hz
      · simp; omega
      · simp; omega
    have hst : (store ((⟨g, o, none⟩ : Addr).add i) v).run P w = .ok () (w.setRow g (cur.setIfInBounds (o + i) v)) := by
      rw [hadd, run_store P w _ v _ (h1 v (by simp)), hcell]
      simp [hfro, setCell_eq_setRow w g (o + i) cur t fz v hg]
    have ih := store_cells_run g o t fz rest (i + 1) (cur.setIfInBounds (o + i) v) (w.setRow g (cur.setIfInBounds (o + i) v)) (setRow_heap w g cur _ t _ hg) (by simpa using hz) (by simp at hl ⊢; omega) (fun x hx => h1 x (by simp [hx]))
    simp only [storeCells, Sem.run_bind, hst, Result.andThen_ok, ih, setRow_setRow]
    congr 2
    have e := list_seg_step cur.toList (o + i) v rest (by simp at hl ⊢; omega)
    simp only [splice]
    congr 1
    simpa [Array.toList_setIfInBounds, Nat.add_assoc] using e

/-- the mate of a block goes; what it is named then is no block's name -/
theorem solo (hr : HRel B φ H w) {b : Nat} {p : Pl} {blk : Blk} (hb : H.blks.get b = some blk) (hp : φ b = some p) (hwr : blk.wr = true) (m : Option Nat) (hm : ∀ b', m = some b' → H.next ≤ b')
    (H1 : Heap) (hn : H1.next = H.next) (g1 : ∀ j, H1.blks.get j = if j = b then some ⟨blk.cells, true, m, blk.es⟩ else if blk.mate = some j then none else H.blks.get j) :
    Step B φ H w φ H1 w ∧ Alone φ H1 b p := by
  have hbn : b < H.next := by
    rcases Nat.lt_or_ge b H.next with h | h
    · exact h
    · rw [hr.lt b h] at hb; cases hb
  refine ⟨Step.sub hr hn ?_, ?_⟩
  · intro j blk' hj
    rw [g1] at hj
    by_cases hjb : j = b
    · subst hjb
      simp only [if_true, Option.some.injEq] at hj
      subst hj
      refine ⟨blk, hb, rfl, hwr.symm, rfl, ?_⟩
      intro b' hne hb' _ hmm
      rw [g1, if_neg hne, if_pos hmm] at hb'
      simp at hb'
    · simp only [hjb, if_false] at hj
      split at hj
      · cases hj
      · exact ⟨blk', hj, rfl, rfl, rfl, fun _ _ _ h => h⟩
  · intro b' blk' p' hb' hne hp' e
    rw [g1, if_neg hne] at hb'
    split at hb'
    · cases hb'
    · rename_i hmm
      exact hr.sep b blk b' blk' p p' hb hb' (Ne.symm hne) hwr hmm hp hp' e.symm

theorem write_step (hr : HRel B φ H w) {b off : Nat} {p : Pl} {vs : List AV} {ys : Array Value} (hp : φ b = some p) (hv : CRel φ vs ys) (hw : H.write b off vs = some H') :
    ∃ w', Step B φ H w φ H' w' ∧ (storeCells ⟨p.r, p.o + off, none⟩ ys.toList).run P w = .ok () w' := by
  unfold Heap.write at hw
  split at hw
  · rename_i blk hb
    split at hw
    · rename_i hwr
      split at hw
      · rename_i cs hput
        cases hw
        obtain ⟨s1, hal⟩ := solo hr hb hp hwr none (by simp) ⟨H.next, (H.kill blk.mate).blks.set b (some ⟨blk.cells, true, none, blk.es⟩)⟩ rfl (fun j => by
          show ((H.kill blk.mate).blks.set b _).get j = _
          rw [T.get_set, Heap.get_kill])
        obtain ⟨es0, cur, e, fz, h1, h2, h3, h4, h5⟩ := hr.blk b blk p hb hp
        obtain ⟨k1, k2, k3⟩ := putAt_some hput
        have hle : p.o + off + ys.toList.length ≤ cur.size := by have := hv.1; simp; omega
        refine ⟨w.setRow p.r (splice cur (p.o + off) ys.toList), s1.trans (Step.put s1.rel (b := b) (blk := ⟨blk.cells, true, none, blk.es⟩) (by
          show ((H.kill blk.mate).blks.set b _).get b = _
          rw [T.get_set, if_pos rfl]) hp rfl hal cs cur _ e fz h1 (splice_size hle) (by omega) ?_ rfl (fun j => ?_)), ?_⟩
        · intro i c hc
          rw [splice_get hle]
          rw [k3] at hc
          have hl : ys.toList.length = vs.length := by rw [hv.1]; simp
          rw [hl]
          by_cases hi : off ≤ i ∧ i < off + vs.length
          · rw [if_pos hi] at hc
            rw [if_pos (by omega)]
            obtain ⟨x, g1, g2⟩ := hv.at _ c hc
            exact ⟨x, by rw [← g1]; simp; congr 1; omega, g2⟩
          · rw [if_neg hi] at hc
            rw [if_neg (by omega)]
            exact h4 i c hc
        · show ((H.kill blk.mate).blks.set b _).get j = if j = b then _ else ((H.kill blk.mate).blks.set b _).get j
          rw [T.get_set, T.get_set]
          by_cases hjb : j = b
          · simp [hjb]
          · simp [hjb]
        · have := store_cells_run (P := P) p.r (p.o + off) e fz ys.toList 0 cur w h1 (h5 hwr).2 (by simpa using hle) hv.oneCell
          simpa using this
      · cases hw
    · cases hw
  · cases hw

theorem store_sound (hr : HRel B φ H w) (hf : FRel φ fr a.tmps) {t : TypeId} {x y : Operand} (ho : o.op = .store t x y) (hc : cOp P o = some ao) (he : evOp call ao fr H = some (v, H')) :
    OpRes P B φ H w a o v H' := by
  simp only [cOp, ho, Option.bind_eq_bind, Option.bind_eq_some_iff] at hc
  obtain ⟨n, hn, ax, hax, ay, hay, hc⟩ := hc
  cases hc
  simp only [evOp] at he
  split at he
  · rename_i b off u hev hev2
    split at he
    · rename_i vs hvs
      split at he
      · rename_i hlen
        split at he
        · rename_i H1 hw
          cases he
          obtain ⟨p, hp, hpx⟩ := ptr_inv (ev_sound hf hax hev)
          have hrel := (ev_sound hf hay hev2).cs hvs
          obtain ⟨w', hs, hrun⟩ := write_step (P := P) hr hp hrel hw
          refine ⟨undef, w', φ, hs, .tup (by simp) (by simp), .inr ⟨?_, rfl⟩⟩
          have hsz : (a.eval y).cells.size = n := by rw [← hrel.1, hlen]
          simp [execOp, ho, Instr.storeAt, hpx, Instr.sureAddr, storeVar, size_run hn, hsz, hrun]
        · cases he
      · cases he
    · cases he
  · cases he

end
end Go.AM
