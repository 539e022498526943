/- The machine, and that it tells the truth of the program. No condition. -/
import Derived.Test.YtkohanehgndmhaaAM3
import Derived.Laws.MakeOwn
import Derived.Laws.BytesString
import Derived.Great.BuildSlice
set_option linter.all false
namespace Go.AM
open Go.RowKit
section
variable {P : Program} {B : Nat} {φ : Phi} {H H' : Heap} {w : World} {fr : T AV} {a : Act} {o : Oper} {ao : AOp} {v : AV}
  {call : Nat → List AV → Heap → Option (AV × Heap)}

theorem foldl_splice (off : Nat) : ∀ (l : List Value) (n : Nat) (cs : Array Value), off + n + l.length ≤ cs.size →
    (l.zipIdx n).foldl (fun cs (p : Value × Nat) => cs.setIfInBounds (off + p.2) p.1) cs = splice cs (off + n) l
  | [], n, cs, _ => by simp [splice]
  | v :: l, n, cs, h => by
    simp only [List.length_cons] at h
    rw [List.zipIdx_cons, List.foldl_cons, foldl_splice off l (n + 1) _ (by simp; omega)]
    have e := list_seg_step cs.toList (off + n) v l (by simp; omega)
    simp only [splice]
    congr 1
    simpa [Array.toList_setIfInBounds, Nat.add_assoc] using e

theorem fill_rel (hf : FRel φ fr a.tmps) {place : Nat → Option (Nat × Nat)} : ∀ {ps : List (Nat × Operand)} {ps' : List (Nat × Nat × AX)} {cs cs' : List AV} {cells : Array Value},
    CRel φ cs cells → cParts place ps = some ps' → fillA fr cs ps' = some cs' →
    ∃ cells', Instr.fill place cells (ps.map fun (i, x) => (i, a.eval x)) = some cells' ∧ CRel φ cs' cells'
  | [], ps', cs, cs', cells, hc, hp, hfill => by
    cases hp
    simp only [fillA, Option.some.injEq] at hfill
    subst hfill
    exact ⟨cells, rfl, hc⟩
  | (i, x) :: ps, ps', cs, cs', cells, hc, hp, hfill => by
    simp only [cParts, Option.bind_eq_bind, Option.bind_eq_some_iff, Option.some.injEq] at hp
    obtain ⟨⟨off, s⟩, hpl, ax, hx, r, hr, rfl⟩ := hp
    simp only [fillA] at hfill
    split at hfill
    · rename_i u hev
      split at hfill
      · rename_i vs hvs
        split at hfill
        · rename_i hlen
          split at hfill
          · rename_i cs1 hput
            have hrel := (ev_sound hf hx hev).cs hvs
            obtain ⟨k1, k2⟩ := hc.put hrel hput
            obtain ⟨cells', g1, g2⟩ := fill_rel hf k1 hr hfill
            refine ⟨cells', ?_, g2⟩
            have hsz : (a.eval x).cells.size = s := by rw [← hrel.1, hlen]
            simp only [List.map_cons, Instr.fill, hpl]
            rw [if_neg (by simp only [hsz]; simp only [hsz] at k2; simp; omega)]
            rw [← g1]
            congr 1
            have e := foldl_splice off (a.eval x).cells.toList 0 cells (by simpa using k2)
            simp only [Nat.add_zero] at e
            rw [← e, ← Array.foldl_toList]
            simp
          · cases hfill
        · cases hfill
      · cases hfill
    · cases hfill

theorem map_parts (a : Act) (ps : Array (Nat × Operand)) : (ps.map fun (i, x) => (i, a.eval x)).toList = ps.toList.map fun (i, x) => (i, a.eval x) := by simp

theorem build_sound (hr : HRel B φ H w) (hf : FRel φ fr a.tmps) {t : TypeId} {ps : Array (Nat × Operand)} (ho : o.op = .build t ps) (hc : cOp P o = some ao) (he : evOp call ao fr H = some (v, H')) :
    OpRes P B φ H w a o v H' := by
  simp only [cOp, ho, Option.bind_eq_bind, Option.bind_eq_some_iff] at hc
  obtain ⟨z, hz, d, hd, hc⟩ := hc
  obtain ⟨i, u, hi, hu, rfl, hp, hzr⟩ := zero_run hz
  have hrel : CRel φ (u.cells.toList.map .v) u.cells := (vrel_plain φ u.cells hp).cs rfl
  have fin : ∀ (place : Nat → Option (Nat × Nat)) (l : List (Nat × Nat × AX)), cParts place ps.toList = some l → ao = .build (u.cells.toList.map .v) l →
      (∀ cells, Instr.fill place u.cells (ps.map fun (i, x) => (i, a.eval x)).toList = some cells → P.built t (ps.map fun (i, x) => (i, a.eval x)).toList = some cells) → OpRes P B φ H w a o v H' := by
    intro place l hl hao hb
    subst hao
    simp only [evOp] at he
    split at he
    · rename_i cs hfill
      cases he
      obtain ⟨cells, g1, g2⟩ := fill_rel hf hrel hl hfill
      refine OpRes.pure hr g2.agg ?_
      have := run_build (P := P) w t _ cells (hb cells (by rw [map_parts]; exact g1))
      simp [execOp, ho, this]
    · cases he
  cases d with
  | struct fs =>
    simp only [Option.bind_eq_some_iff, Option.some.injEq] at hc
    obtain ⟨places, hpl, l, hl, rfl⟩ := hc
    refine fin _ l hl rfl (fun cells hfill => ?_)
    simp only [Program.built, hi, hd, hu, hpl]
    exact hfill
  | array n e =>
    simp only [Option.bind_eq_some_iff, Option.some.injEq] at hc
    obtain ⟨s, hs, l, hl, rfl⟩ := hc
    obtain ⟨ie, hie, rfl⟩ := size_info hs
    refine fin _ l hl rfl (fun cells hfill => ?_)
    simp only [Program.built, hi, hd, hu, hie]
    exact hfill
  | _ => cases hc

theorem flat_get {α : Type} (z : List α) (hz : 0 < z.length) : ∀ (n i : Nat), (List.replicate n z).flatten[i]? = if i < n * z.length then z[i % z.length]? else none
  | 0, i => by simp
  | n + 1, i => by
    rw [List.replicate_succ, List.flatten_cons]
    by_cases h : i < z.length
    · rw [List.getElem?_append_left h, if_pos (by rw [Nat.succ_mul]; omega), Nat.mod_eq_of_lt h]
    · rw [List.getElem?_append_right (by omega), flat_get z hz n]
      by_cases h2 : i < (n + 1) * z.length
      · rw [if_pos h2, if_pos (by rw [Nat.succ_mul] at h2; omega)]
        congr 1
        rw [← Nat.mod_eq_sub_mod (by omega)]
      · rw [if_neg h2, if_neg (by rw [Nat.succ_mul] at h2; omega)]

theorem flat_len {α : Type} (z : List α) (n : Nat) : (List.replicate n z).flatten.length = n * z.length := by simp

/-- so many zero values, as made -/
theorem zeros_rel {z : List AV} {xs : Array Value} (h : CRel φ z xs) (hz : 0 < z.length) (n : Nat) : CRel φ (List.replicate n z).flatten ((Array.range (n * z.length)).map (xs[· % xs.size]!)) := by
  refine ⟨by rw [flat_len]; simp, ?_⟩
  intro i c y hc hy
  rw [flat_get z hz] at hc
  split at hc
  · rename_i hi
    have hlt : i % z.length < xs.size := by rw [← h.1]; exact Nat.mod_lt _ hz
    have : y = xs[i % z.length] := by
      simp only [Array.getElem?_map, Array.getElem?_range, hi, if_true, Option.map_some, Option.some.injEq] at hy
      rw [← hy, ← h.1]
      simp [hlt]
    subst this
    exact h.2 _ c _ hc (by simp [hlt])
  · cases hc

theorem bslice_sound (hr : HRel B φ H w) (hf : FRel φ fr a.tmps) (hφ : ∀ b, H.next ≤ b → b < H'.next → φ b = none) {t : TypeId} {len : Nat} {ps : Array (Nat × Operand)} (ho : o.op = .buildSlice t len ps) (hc : cOp P o = some ao) (he : evOp call ao fr H = some (v, H')) :
    OpRes P B φ H w a o v H' := by
  simp only [cOp, ho, Option.bind_eq_bind, Option.bind_eq_some_iff] at hc
  obtain ⟨d, hd, hc⟩ := hc
  cases d with
  | slice e =>
    simp only [Option.bind_eq_some_iff] at hc
    obtain ⟨s, hs, z, hz, l, hl, hc⟩ := hc
    split at hc
    · rename_i hcond
      obtain ⟨hzl, hpos, hsmall⟩ := hcond
      cases hc
      obtain ⟨i, u, hi, hu, rfl, hp, hzr⟩ := zero_run hz
      obtain ⟨ie, hie, rfl⟩ := size_info hs
      rw [hi] at hie; cases hie
      have hrel : CRel φ (u.cells.toList.map .v) u.cells := (vrel_plain φ u.cells hp).cs rfl
      have hzs : u.cells.size = i.size := by simpa using hzl
      have hzr' := zeros_rel hrel (by rw [hzl]; exact hpos) len
      rw [hzl] at hzr'
      simp only [evOp] at he
      split at he
      · rename_i cs hfill
        cases he
        obtain ⟨cells, g1, g2⟩ := fill_rel hf hzr' hl hfill
        have hcs : cells.size = len * i.size := by
          rw [← g2.1]
          have : ∀ {l : List (Nat × Nat × AX)} {cs cs' : List AV}, fillA fr cs l = some cs' → cs'.length = cs.length := by
            intro l
            induction l with
            | nil => intro cs cs' h; simp only [fillA, Option.some.injEq] at h; rw [h]
            | cons q l ih =>
              intro cs cs' h
              obtain ⟨o, s, x⟩ := q
              simp only [fillA] at h
              split at h
              · split at h
                · split at h
                  · split at h
                    · rename_i hput
                      rw [ih h, (putAt_some hput).2.1]
                    · cases h
                  · cases h
                · cases h
              · cases h
          rw [this hfill, flat_len, hzl]
        refine ⟨.slice (some ⟨w.heap.size, 0, none⟩) len len, w.alloc (.cells cells e), _, new_row hr (hφ _ (Nat.le_refl _) (Nat.lt_succ_self _)) i.size g2 e, ?_, .inl ?_⟩
        · exact VRel.sl (p := ⟨w.heap.size, 0, cells.size, i.size⟩) (by simp) (Nat.le_refl _) (Nat.le_refl _) (fun _ => rfl) (by simp [hcs]) (.inr rfl)
        · by_cases hlen : len = 0
          · subst hlen
            have e0 : Array.range 0 = (#[] : Array Nat) := rfl
            have g1' : Instr.fill (fun j => some (j * i.size, i.size)) #[] (ps.toList.map fun (i, x) => (i, a.eval x)) = some cells := by simpa [e0] using g1
            simp [execOp, ho, Instr.buildSlice, run_underlying hd, sizeOf, typeInfo, hi, newRow, g1', e0]
          · have h0 : ¬ len * i.size = 0 := by
              intro h
              rcases Nat.mul_eq_zero.1 h with h | h <;> omega
            have := run_buildSlice (P := P) w t e len (ps.map fun (i, x) => (i, a.eval x)) cells i u hd hi hu (by omega) h0 (by rw [map_parts]; exact g1)
            simp [execOp, ho, this]
      · cases he
    · cases hc
  | _ => cases hc

theorem nilc_sound (hr : HRel B φ H w) (hf : FRel φ fr a.tmps) {x : Operand} (ho : o.op = .nilCheck x) (hc : cOp P o = some ao) (he : evOp call ao fr H = some (v, H')) :
    OpRes P B φ H w a o v H' := by
  simp only [cOp, ho, Option.map_eq_some_iff] at hc
  obtain ⟨ax, hx, rfl⟩ := hc
  simp only [evOp] at he
  split at he
  · rename_i b off hev
    cases he
    have h := ev_sound hf hx hev
    refine OpRes.pure hr h ?_
    obtain ⟨p, _, hpx⟩ := ptr_inv h
    simp [execOp, ho, hpx]
  · rename_i f c hev
    cases he
    have h := ev_sound hf hx hev
    refine OpRes.pure hr h ?_
    generalize hy : a.eval x = y at h
    cases h
    simp [execOp, ho, hy]
  · cases he

theorem ext_sound (hr : HRel B φ H w) (hf : FRel φ fr a.tmps) {x : Operand} {i : Nat} (ho : o.op = .extract x i) (hc : cOp P o = some ao) (he : evOp call ao fr H = some (v, H')) :
    OpRes P B φ H w a o v H' := by
  simp only [cOp, ho, Option.bind_eq_bind, Option.bind_eq_some_iff] at hc
  obtain ⟨ax, hx, hc⟩ := hc
  cases hc
  simp only [evOp] at he
  split at he
  · rename_i vs hev
    split at he
    · rename_i u hu
      cases he
      have h := ev_sound hf hx hev
      generalize hy : a.eval x = y at h
      cases h with
      | tup h1 h2 =>
        rename_i xs
        have hlt : i < vs.length := (List.getElem?_eq_some_iff.1 hu).1
        rw [h1] at hlt
        refine OpRes.pure hr (h2 i _ xs[i] hu (by simp [hlt])) ?_
        simp [execOp, ho, hy, Instr.extract, hlt]
    · cases he
  · cases he

theorem faddr_sound (hr : HRel B φ H w) (hf : FRel φ fr a.tmps) {t : TypeId} {x : Operand} {i : Nat} (ho : o.op = .fieldAddr t x i) (hc : cOp P o = some ao) (he : evOp call ao fr H = some (v, H')) :
    OpRes P B φ H w a o v H' := by
  simp only [cOp, ho, Option.bind_eq_bind, Option.bind_eq_some_iff] at hc
  obtain ⟨d, hd, hc⟩ := hc
  cases d with
  | struct fs =>
    simp only [Option.bind_eq_some_iff] at hc
    obtain ⟨f, hfi, s, hs, ax, hx, hc⟩ := hc
    split at hc
    · rename_i hpos
      cases hc
      simp only [evOp] at he
      split at he
      · rename_i b off hev
        cases he
        obtain ⟨p, hp, hpx⟩ := ptr_inv (ev_sound hf hx hev)
        refine OpRes.pure hr (x := .pointer (some ⟨p.r, p.o + (off + f.offset), none⟩)) (.ptr hp) ?_
        have hadd : (⟨p.r, p.o + off, none⟩ : Addr).add f.offset = ⟨p.r, p.o + (off + f.offset), none⟩ := by
          unfold Addr.add; split <;> simp_all [Nat.add_assoc]
        have hs0 : ¬ s = 0 := by omega
        simp [execOp, ho, Instr.fieldAt, run_underlying hd, hfi, hpx, Instr.sureAddr, fieldPlace, size_run hs, hs0, hadd]
      · cases he
    · cases hc
  | _ => cases hc

theorem field_sound (hr : HRel B φ H w) (hf : FRel φ fr a.tmps) {t : TypeId} {x : Operand} {i : Nat} (ho : o.op = .field t x i) (hc : cOp P o = some ao) (he : evOp call ao fr H = some (v, H')) :
    OpRes P B φ H w a o v H' := by
  simp only [cOp, ho, Option.bind_eq_bind, Option.bind_eq_some_iff] at hc
  obtain ⟨d, hd, hc⟩ := hc
  cases d with
  | struct fs =>
    simp only [Option.bind_eq_some_iff] at hc
    obtain ⟨f, hfi, g, hg, hc⟩ := hc
    cases g with
    | true =>
      simp only [Option.bind_eq_some_iff] at hc
      obtain ⟨s, hs, ax, hx, hc⟩ := hc
      cases hc
      simp only [evOp] at he
      split at he
      · rename_i cs hev
        split at he
        · rename_i vs hvs
          cases he
          have h := ev_sound hf hx hev
          generalize hy : a.eval x = y at h
          have hrel := h.cs rfl
          cases h with
          | agg h1 h2 h3 =>
            rename_i xs
            obtain ⟨rfl, hn⟩ := takeN_some hvs
            refine OpRes.pure hr (x := .agg (xs.extract f.offset (f.offset + s))) (CRel.agg ⟨?_, ?_⟩) ?_
            · simp at hn ⊢; omega
            · intro j c y hc hyy
              rw [List.getElem?_take] at hc
              split at hc
              · rename_i hj
                rw [List.getElem?_drop] at hc
                rw [Array.getElem?_extract] at hyy
                split at hyy
                · exact hrel.2 _ c y hc hyy
                · cases hyy
              · cases hc
            · simp [execOp, ho, hy, Instr.field, run_underlying hd, hfi, part, agg_run hg, size_run hs, asAgg]
        · cases he
      · cases he
    | false =>
      simp only [Option.bind_eq_some_iff] at hc
      obtain ⟨ax, hx, hc⟩ := hc
      cases hc
      simp only [evOp] at he
      split at he
      · rename_i cs hev
        split at he
        · rename_i u hu
          cases he
          have h := ev_sound hf hx hev
          generalize hy : a.eval x = y at h
          have hrel := h.cs rfl
          cases h with
          | agg h1 h2 h3 =>
            rename_i xs
            have hlt : f.offset < cs.length := (List.getElem?_eq_some_iff.1 hu).1
            rw [h1] at hlt
            refine OpRes.pure hr (h2 _ _ xs[f.offset] hu (by simp [hlt])) ?_
            simp [execOp, ho, hy, Instr.field, run_underlying hd, hfi, part, agg_run hg, asAgg, hlt]
        · cases he
      · cases he
  | _ => cases hc

end
end Go.AM
