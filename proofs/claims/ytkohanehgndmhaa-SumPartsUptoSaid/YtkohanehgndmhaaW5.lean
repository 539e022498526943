/- Rules for the machine. No condition. -/
import Derived.Test.YtkohanehgndmhaaW4
set_option linter.all false
namespace Go.AM
section
variable {H : Heap}
/-! ## What a heap holds -/
/-- a block, written anew -/
def Heap.upd (H : Heap) (b : Nat) (blk : Blk) (cs : List AV) : Heap := ⟨H.next, (H.kill blk.mate).blks.set b (some ⟨cs, true, none, blk.es⟩)⟩
theorem Heap.write_upd {b off : Nat} {vs cs : List AV} {blk : Blk} (hb : H.blks.get b = some blk) (hw : blk.wr = true) (hp : putAt blk.cells off vs = some cs) : H.write b off vs = some (H.upd b blk cs) := by
  simp only [Heap.write, hb, hw, if_true, hp, Heap.upd]
theorem Heap.alloc_next (es : Nat) (cs : List AV) : (H.alloc es cs).next = H.next + 1 := rfl
theorem Heap.upd_next (b : Nat) (blk : Blk) (cs : List AV) : (H.upd b blk cs).next = H.next := rfl
theorem Heap.mate2_next (b : Nat) (blk : Blk) (cs : List AV) : (H.mate2 b blk cs).next = H.next + 1 := rfl
theorem Heap.alloc_self {es : Nat} {cs : List AV} {k : Nat} (h : k = H.next) : (H.alloc es cs).blks.get k = some ⟨cs, true, none, es⟩ := by
  subst h; simp only [Heap.alloc, T.get_set, if_true]
theorem Heap.alloc_ne {es : Nat} {cs : List AV} {k : Nat} (h : k ≠ H.next) : (H.alloc es cs).blks.get k = H.blks.get k := by
  simp only [Heap.alloc, T.get_set, if_neg h]
theorem Heap.upd_self {b : Nat} {blk : Blk} {cs : List AV} {k : Nat} (h : k = b) : (H.upd b blk cs).blks.get k = some ⟨cs, true, none, blk.es⟩ := by
  subst h; simp only [Heap.upd, T.get_set, if_true]
theorem Heap.upd_ne {b : Nat} {blk : Blk} {cs : List AV} {k : Nat} (h : k ≠ b) (hm : blk.mate ≠ some k) : (H.upd b blk cs).blks.get k = H.blks.get k := by
  simp only [Heap.upd, T.get_set, if_neg h]
  cases hb : blk.mate with
  | none => rfl
  | some m =>
    simp only [Heap.kill, T.get_set]
    rw [if_neg (fun c => hm (by rw [hb, c]))]
/-- all that was is as it was -/
def Keep (H H' : Heap) : Prop := H.next ≤ H'.next ∧ ∀ (b : Nat) (blk : Blk), b < H.next → H.blks.get b = some blk → H'.blks.get b = some blk
theorem Keep.refl (H : Heap) : Keep H H := ⟨Nat.le_refl _, fun _ _ _ h => h⟩
theorem Keep.trans {a b c : Heap} (h : Keep a b) (k : Keep b c) : Keep a c := ⟨Nat.le_trans h.1 k.1, fun x y hx e => k.2 x y (Nat.lt_of_lt_of_le hx h.1) (h.2 x y hx e)⟩
theorem Keep.alloc (es : Nat) (cs : List AV) : Keep H (H.alloc es cs) := ⟨Nat.le_succ _, fun _ _ hx e => by rw [Heap.alloc_ne (Nat.ne_of_lt hx)]; exact e⟩
/-- a block of one's own may be written -/
theorem Keep.upd {H0 : Heap} {b : Nat} {blk : Blk} {cs : List AV} (h : Keep H0 H) (hb : H0.next ≤ b) (hm : ∀ m, blk.mate = some m → H0.next ≤ m) : Keep H0 (H.upd b blk cs) :=
  ⟨h.1, fun x y hx e => by rw [Heap.upd_ne (by omega) (fun c => by have := hm _ c; omega)]; exact h.2 x y hx e⟩
theorem Keep.mate2 {H0 : Heap} {b : Nat} {blk : Blk} {cs : List AV} (h : Keep H0 H) (hb : H0.next ≤ b) (hm : ∀ m, blk.mate = some m → H0.next ≤ m) : Keep H0 (H.mate2 b blk cs) := by
  refine ⟨Nat.le_trans h.1 (Nat.le_succ _), fun x y hx e => ?_⟩
  have h1 := h.1
  have h2 := h.2 x y hx e
  simp only [Heap.mate2, T.get_set]
  rw [if_neg (by omega), if_neg (by omega)]
  cases hk : blk.mate with
  | none => exact h2
  | some m =>
    have := hm m hk
    simp only [Heap.kill, T.get_set]
    rw [if_neg (by omega)]
    exact h2
end
section
variable {A : AProg} {L : List (Nat × AV)} {l : List AOper} {H : Heap} {Q : T AV → Heap → Prop}
theorem S.storeU {n b off : Nat} {x y : AX} {v : AV} {vs cs : List AV} {blk : Blk} (hx : lkX L x = some (.ptr b off)) (hy : lkX L y = some v) (hv : v.cs = some vs) (hn : Nat.beq vs.length n = true) (hb : H.blks.get b = some blk) (hw : blk.wr = true) (hp : putAt blk.cells off vs = some cs)
    (h : WpOps A l (mkF L) (H.upd b blk cs) Q) : WpOps A (⟨none, .store n x y, none⟩ :: l) (mkF L) H Q :=
  S.store hx hy hv (Nat.eq_of_beq_eq_true hn) (Heap.write_upd hb hw hp) h
/-- an index that is told as a whole number -/
theorem S.iaddrZ {d es b off len cap : Nat} {ex : Bool} {k : IntKind} {x i : AX} {m : Int} (hx : lkX L x = some (.sl b off len cap ex)) (hi : lkX L i = some (.v (.int k m))) (h0 : 0 ≤ m) (hn : m < len) (h : WpOps A l (mkF ((d, .ptr b (off + m.toNat * es)) :: L)) H Q) : WpOps A (⟨some d, .iaddr es x i, none⟩ :: l) (mkF L) H Q :=
  S.iaddr hx hi (n := m.toNat) (by omega) (by omega) h
theorem S.aaddrZ {d es b off len : Nat} {k : IntKind} {x i : AX} {m : Int} (hx : lkX L x = some (.ptr b off)) (hi : lkX L i = some (.v (.int k m))) (h0 : 0 ≤ m) (hn : m < len) (h : WpOps A l (mkF ((d, .ptr b (off + m.toNat * es)) :: L)) H Q) : WpOps A (⟨some d, .aaddr len es x i, none⟩ :: l) (mkF L) H Q :=
  S.aaddr hx hi (n := m.toNat) (by omega) (by omega) h
end
end Go.AM
