/- The machine, and that it tells the truth of the program. No condition. -/
import Derived.Test.YtkohanehgndmhaaAM1
import Derived.Below
import Derived.Laws.AppendOwn
set_option linter.all false
namespace Go.AM
open Go.RowKit

theorem T.get_n0 {α : Type} (t : T α) : t.get 0 = t.val := by cases t <;> rfl
theorem T.get_even {α : Type} (t : T α) (k : Nat) (h : Nat.mod k 2 = 0) : t.get (k + 1) = t.left.get (Nat.div k 2) := by
  cases t with
  | e => rfl
  | n l v r => simp only [T.get, h, T.left]
theorem T.get_odd {α : Type} (t : T α) (k : Nat) (h : Nat.mod k 2 = 1) : t.get (k + 1) = t.right.get (Nat.div k 2) := by
  cases t with
  | e => rfl
  | n l v r => simp only [T.get, h, T.right]
theorem mod2 (k : Nat) : Nat.mod k 2 = 0 ∨ Nat.mod k 2 = 1 := by
  have : Nat.mod k 2 < 2 := Nat.mod_lt _ (by decide)
  omega
theorem div2 (k : Nat) : Nat.div k 2 = k / 2 := rfl
theorem mod2' (k : Nat) : Nat.mod k 2 = k % 2 := rfl

theorem T.get_setF {α : Type} (x : Option α) : ∀ (f : Nat) (t : T α) (k j : Nat), k < f → (T.setF x f t k).get j = if j = k then x else t.get j := by
  intro f
  induction f with
  | zero => intro t k j h; omega
  | succ f ih =>
    intro t k j h
    cases k with
    | zero =>
      cases j with
      | zero => rw [if_pos rfl, T.get_n0]; rfl
      | succ j =>
        rw [if_neg (by omega)]
        rcases mod2 j with e | e
        · rw [T.get_even _ _ e, T.get_even _ _ e]; rfl
        · rw [T.get_odd _ _ e, T.get_odd _ _ e]; rfl
    | succ k =>
      have hk : Nat.div k 2 < f := by rw [div2]; omega
      rcases mod2 k with ek | ek
      · have e1 : T.setF x (f + 1) t (k + 1) = .n (T.setF x f t.left (Nat.div k 2)) t.val t.right := by
          simp only [T.setF, ek]
        rw [e1]
        cases j with
        | zero => rw [if_neg (by omega), T.get_n0, T.get_n0]; rfl
        | succ j =>
          rcases mod2 j with e | e
          · rw [T.get_even _ _ e, T.get_even _ _ e]
            show (T.setF x f t.left (Nat.div k 2)).get (Nat.div j 2) = _
            rw [ih _ _ _ hk]
            have : (Nat.div j 2 = Nat.div k 2) ↔ (j + 1 = k + 1) := by
              rw [div2, div2]; rw [mod2'] at ek e; omega
            by_cases hjk : j + 1 = k + 1
            · rw [if_pos hjk, if_pos (this.2 hjk)]
            · rw [if_neg hjk, if_neg (fun h => hjk (this.1 h))]
          · rw [T.get_odd _ _ e, T.get_odd _ _ e, if_neg (by rw [mod2'] at ek e; omega)]; rfl
      · have e1 : T.setF x (f + 1) t (k + 1) = .n t.left t.val (T.setF x f t.right (Nat.div k 2)) := by
          simp only [T.setF, ek]
        rw [e1]
        cases j with
        | zero => rw [if_neg (by omega), T.get_n0, T.get_n0]; rfl
        | succ j =>
          rcases mod2 j with e | e
          · rw [T.get_even _ _ e, T.get_even _ _ e, if_neg (by rw [mod2'] at ek e; omega)]; rfl
          · rw [T.get_odd _ _ e, T.get_odd _ _ e]
            show (T.setF x f t.right (Nat.div k 2)).get (Nat.div j 2) = _
            rw [ih _ _ _ hk]
            have : (Nat.div j 2 = Nat.div k 2) ↔ (j + 1 = k + 1) := by
              rw [div2, div2]; rw [mod2'] at ek e; omega
            by_cases hjk : j + 1 = k + 1
            · rw [if_pos hjk, if_pos (this.2 hjk)]
            · rw [if_neg hjk, if_neg (fun h => hjk (this.1 h))]

theorem T.get_set {α : Type} (x : Option α) (t : T α) (k j : Nat) : (t.set k x).get j = if j = k then x else t.get j :=
  T.get_setF x (k + 1) t k j (by omega)

theorem T.get_e {α : Type} (k : Nat) : (T.e : T α).get k = none := by cases k <;> rfl

/-! ### places and values -/
structure Pl where
  r : Nat
  o : Nat
  n : Nat
  es : Nat

abbrev Phi := Nat → Option Pl

inductive VRel (φ : Phi) : AV → Value → Prop where
  | v {x : Value} (h : x.oneCell' = true) : VRel φ (.v x) x
  | ptr {b off : Nat} {p : Pl} (h : φ b = some p) : VRel φ (.ptr b off) (.pointer (some ⟨p.r, p.o + off, none⟩))
  | sl {b off len cap : Nat} {ex : Bool} {p : Pl} {a : Addr} {c : Nat} (h : φ b = some p) (h1 : len ≤ cap) (h2 : cap ≤ c) (h3 : ex = true → c = cap)
      (h4 : off + c * p.es ≤ p.n) (h5 : c = 0 ∨ a = ⟨p.r, p.o + off, none⟩) : VRel φ (.sl b off len cap ex) (.slice (some a) len c)
  | agg {cs : List AV} {vs : Array Value} (h : cs.length = vs.size) (h1 : ∀ (i : Nat) (c : AV) (x : Value), cs[i]? = some c → vs[i]? = some x → VRel φ c x) (h2 : ∀ c ∈ cs, c.one = true) :
      VRel φ (.agg cs) (.agg vs)
  | tup {cs : List AV} {vs : Array Value} (h : cs.length = vs.size) (h1 : ∀ (i : Nat) (c : AV) (x : Value), cs[i]? = some c → vs[i]? = some x → VRel φ c x) : VRel φ (.tup cs) (.tuple vs)
  | fn {f : Nat} {cs : List AV} {vs : Array Value} (h : cs.length = vs.size) (h1 : ∀ (i : Nat) (c : AV) (x : Value), cs[i]? = some c → vs[i]? = some x → VRel φ c x) :
      VRel φ (.fn f cs) (.func (.func f) #[] vs)
  | ifc {t : Nat} {c : AV} {x : Value} (h : VRel φ c x) : VRel φ (.ifc t c) (.iface t x)

def Le (φ φ' : Phi) : Prop := ∀ b p, φ b = some p → φ' b = some p
theorem Le.refl (φ : Phi) : Le φ φ := fun _ _ h => h
theorem Le.trans {a b c : Phi} (h : Le a b) (k : Le b c) : Le a c := fun i p e => k i p (h i p e)

theorem VRel.mono {φ φ' : Phi} (hle : Le φ φ') {a : AV} {x : Value} (h : VRel φ a x) : VRel φ' a x := by
  induction h with
  | v h => exact .v h
  | ptr h => exact .ptr (hle _ _ h)
  | sl h h1 h2 h3 h4 h5 => exact .sl (hle _ _ h) h1 h2 h3 h4 h5
  | agg h _ h2 ih => exact .agg h ih h2
  | tup h _ ih => exact .tup h ih
  | fn h _ ih => exact .fn h ih
  | ifc _ ih => exact .ifc ih

theorem VRel.one {φ : Phi} {a : AV} {x : Value} (h : VRel φ a x) (h1 : a.one = true) : x.oneCell' = true := by
  cases h <;> first | assumption | rfl | (simp [AV.one] at h1)

/-- cells and what they stand for -/
def CRel (φ : Phi) (cs : List AV) (xs : Array Value) : Prop :=
  cs.length = xs.size ∧ ∀ (i : Nat) (c : AV) (y : Value), cs[i]? = some c → xs[i]? = some y → VRel φ c y ∧ c.one = true

theorem CRel.one {φ : Phi} {cs : List AV} {xs : Array Value} (h : CRel φ cs xs) : ∀ c ∈ cs, c.one = true := by
  intro c hc
  obtain ⟨i, hi⟩ := List.getElem?_of_mem hc
  have hlt : i < cs.length := (List.getElem?_eq_some_iff.1 hi).1
  rw [h.1] at hlt
  exact (h.2 i c xs[i] hi (by simp [hlt])).2

theorem CRel.oneCell {φ : Phi} {cs : List AV} {xs : Array Value} (h : CRel φ cs xs) : ∀ x ∈ xs.toList, x.oneCell' = true := by
  intro x hx
  obtain ⟨i, hi⟩ := List.getElem?_of_mem hx
  have hlt : i < xs.toList.length := (List.getElem?_eq_some_iff.1 hi).1
  have hlt' : i < cs.length := by rw [h.1]; simpa using hlt
  have := h.2 i cs[i] x (by simp [hlt']) (by simpa using hi)
  exact this.1.one this.2

/-- the cells of a value -/
theorem VRel.cs {φ : Phi} {a : AV} {x : Value} (h : VRel φ a x) {cs : List AV} (ha : a.cs = some cs) : CRel φ cs x.cells := by
  have single : ∀ (a : AV) (x : Value), VRel φ a x → a.one = true → a.cs = some [a] → x.cells = #[x] → ∀ cs, a.cs = some cs → CRel φ cs x.cells := by
    intro a x h h1 e1 e2 cs hcs
    rw [e1] at hcs; cases hcs
    rw [e2]
    refine ⟨rfl, ?_⟩
    intro i c y hc hy
    cases i with
    | zero => simp at hc hy; subst hc; subst hy; exact ⟨h, h1⟩
    | succ i => simp at hc
  cases h with
  | v h => exact single _ _ (.v h) rfl rfl (by cases x <;> simp_all [Value.cells, Value.oneCell']) _ ha
  | ptr h => exact single _ _ (.ptr h) rfl rfl rfl _ ha
  | sl h h1 h2 h3 h4 h5 => exact single _ _ (.sl h h1 h2 h3 h4 h5) rfl rfl rfl _ ha
  | agg h h1 h2 => cases ha; exact ⟨h, fun i c y hc hy => ⟨h1 i c y hc hy, h2 c (List.mem_of_getElem? hc)⟩⟩
  | tup h h1 => cases ha
  | fn h h1 => exact single _ _ (.fn h h1) rfl rfl rfl _ ha
  | ifc h => exact single _ _ (.ifc h) rfl rfl rfl _ ha

theorem CRel.agg {φ : Phi} {cs : List AV} {xs : Array Value} (h : CRel φ cs xs) : VRel φ (.agg cs) (.agg xs) :=
  .agg h.1 (fun i c x hc hx => (h.2 i c x hc hx).1) h.one

theorem CRel.mono {φ φ' : Phi} (hle : Le φ φ') {cs : List AV} {xs : Array Value} (h : CRel φ cs xs) : CRel φ' cs xs :=
  ⟨h.1, fun i c y hc hy => ⟨(h.2 i c y hc hy).1.mono hle, (h.2 i c y hc hy).2⟩⟩

/-- as Step.alloc wants it -/
theorem CRel.at {φ : Phi} {cs : List AV} {xs : Array Value} (h : CRel φ cs xs) : ∀ (i : Nat) (c : AV), cs[i]? = some c → ∃ x : Value, xs[i]? = some x ∧ VRel φ c x ∧ c.one = true := by
  intro i c hc
  have hlt : i < cs.length := (List.getElem?_eq_some_iff.1 hc).1
  rw [h.1] at hlt
  exact ⟨xs[i], by simp [hlt], h.2 i c _ hc (by simp [hlt])⟩

/-- a part of an array written anew -/
def splice (cur : Array Value) (o : Nat) (vs : List Value) : Array Value := (cur.toList.take o ++ vs ++ cur.toList.drop (o + vs.length)).toArray

theorem splice_size {cur : Array Value} {o : Nat} {vs : List Value} (h : o + vs.length ≤ cur.size) : (splice cur o vs).size = cur.size := by
  simp [splice]; omega

theorem splice_get {cur : Array Value} {o : Nat} {vs : List Value} (h : o + vs.length ≤ cur.size) (j : Nat) :
    (splice cur o vs)[j]? = if o ≤ j ∧ j < o + vs.length then vs[j - o]? else cur[j]? := by
  have e : (splice cur o vs)[j]? = (cur.toList.take o ++ (vs ++ cur.toList.drop (o + vs.length)))[j]? := by simp [splice]
  have hl : (cur.toList.take o).length = o := by simp; omega
  rw [e]
  by_cases h1 : j < o
  · rw [if_neg (by omega), List.getElem?_append_left (by omega), List.getElem?_take, if_pos h1]; simp
  · rw [List.getElem?_append_right (by omega), hl]
    by_cases h2 : j < o + vs.length
    · rw [if_pos (by omega), List.getElem?_append_left (by omega)]
    · rw [if_neg (by omega), List.getElem?_append_right (by omega), List.getElem?_drop]
      have : o + vs.length + (j - o - vs.length) = j := by omega
      rw [this]; simp

theorem putAt_some : ∀ {cs : List AV} {o : Nat} {vs cs' : List AV}, putAt cs o vs = some cs' →
    o + vs.length ≤ cs.length ∧ cs'.length = cs.length ∧ ∀ j, cs'[j]? = if o ≤ j ∧ j < o + vs.length then vs[j - o]? else cs[j]?
  | cs, 0, [], cs', h => by
    have : cs' = cs := by cases cs <;> simpa [putAt] using h.symm
    subst this
    refine ⟨by simp, rfl, fun j => ?_⟩
    rw [if_neg (by simp)]
  | [], 0, _ :: _, cs', h => by simp [putAt] at h
  | [], o + 1, vs, cs', h => by simp [putAt] at h
  | c :: cs, 0, v :: vs, cs', h => by
    simp only [putAt, Option.map_eq_some_iff] at h
    obtain ⟨r, hr, rfl⟩ := h
    obtain ⟨h1, h2, h3⟩ := putAt_some hr
    refine ⟨by simp at h1 ⊢; omega, by simp [h2], fun j => ?_⟩
    cases j with
    | zero => simp
    | succ j =>
      rw [List.getElem?_cons_succ, h3 j]
      by_cases hj : j < vs.length
      · rw [if_pos (by omega), if_pos (by simp; omega)]; simp
      · rw [if_neg (by omega), if_neg (by simp; omega)]; simp
  | c :: cs, o + 1, vs, cs', h => by
    simp only [putAt, Option.map_eq_some_iff] at h
    obtain ⟨r, hr, rfl⟩ := h
    obtain ⟨h1, h2, h3⟩ := putAt_some hr
    refine ⟨by simp; omega, by simp [h2], fun j => ?_⟩
    cases j with
    | zero => rw [if_neg (by omega)]; rfl
    | succ j =>
      rw [List.getElem?_cons_succ, h3 j]
      by_cases hj : o ≤ j ∧ j < o + vs.length
      · rw [if_pos hj, if_pos (by omega)]; congr 1; omega
      · rw [if_neg hj, if_neg (by omega)]; rfl

theorem CRel.put {φ : Phi} {cs cs' vs : List AV} {xs ys : Array Value} {o : Nat} (h : CRel φ cs xs) (hv : CRel φ vs ys) (hp : putAt cs o vs = some cs') :
    CRel φ cs' (splice xs o ys.toList) ∧ o + ys.size ≤ xs.size := by
  obtain ⟨h1, h2, h3⟩ := putAt_some hp
  have hle : o + ys.toList.length ≤ xs.size := by have := h.1; have := hv.1; simp; omega
  refine ⟨⟨by rw [h2, splice_size hle, h.1], ?_⟩, by simpa using hle⟩
  intro i c y hc hy
  rw [h3] at hc
  rw [splice_get hle] at hy
  have hl : ys.toList.length = vs.length := by rw [hv.1]; simp
  rw [hl] at hy
  by_cases hi : o ≤ i ∧ i < o + vs.length
  · rw [if_pos hi] at hc hy
    exact hv.2 _ c y hc (by simpa using hy)
  · rw [if_neg hi] at hc hy
    exact h.2 i c y hc hy

/-! ### blocks and heaps -/
structure BRel (B : Nat) (φ : Phi) (w : World) (blk : Blk) (p : Pl) : Prop where
  es : blk.es = p.es
  ex : ∃ cur e fz, w.heap[p.r]? = some (.cells cur e fz) ∧ cur.size = p.o + p.n ∧ blk.cells.length ≤ p.n ∧
    (∀ (i : Nat) (c : AV), blk.cells[i]? = some c → ∃ x : Value, cur[p.o + i]? = some x ∧ VRel φ c x ∧ c.one = true) ∧
    (blk.wr = true → B ≤ p.r ∧ (cur.size ≤ fz.1 ∨ fz.2 = fz.1))

structure HRel (B : Nat) (φ : Phi) (H : Heap) (w : World) : Prop where
  blk : ∀ b blk p, H.blks.get b = some blk → φ b = some p → BRel B φ w blk p
  sep : ∀ b blk b' blk' p p', H.blks.get b = some blk → H.blks.get b' = some blk' → b ≠ b' → blk.wr = true → blk.mate ≠ some b' → φ b = some p → φ b' = some p' → p.r ≠ p'.r
  size : B ≤ w.heap.size
  lt : ∀ b, H.next ≤ b → H.blks.get b = none

def Owned (φ : Phi) (H : Heap) (r : Nat) : Prop := ∃ b blk p, H.blks.get b = some blk ∧ blk.wr = true ∧ φ b = some p ∧ p.r = r

structure Step (B : Nat) (φ : Phi) (H : Heap) (w : World) (φ' : Phi) (H' : Heap) (w' : World) : Prop where
  le : Le φ φ'
  dom : ∀ b p, φ' b = some p → φ b = some p ∨ (H.next ≤ b ∧ b < H'.next)
  rel : HRel B φ' H' w'
  next : H.next ≤ H'.next
  os : w'.os = w.os
  tape : w'.tape = w.tape
  output : w'.output = w.output
  size : w.heap.size ≤ w'.heap.size
  rows : ∀ r, r < w.heap.size → ¬ Owned φ H r → w'.heap[r]? = w.heap[r]?
  own : ∀ r, Owned φ' H' r → Owned φ H r ∨ w.heap.size ≤ r

theorem Step.refl {B : Nat} {φ : Phi} {H : Heap} {w : World} (h : HRel B φ H w) : Step B φ H w φ H w :=
  ⟨.refl _, fun _ _ h => .inl h, h, Nat.le_refl _, rfl, rfl, rfl, Nat.le_refl _, fun _ _ _ => rfl, fun _ h => .inl h⟩

theorem Step.trans {B : Nat} {φ φ1 φ2 : Phi} {H H1 H2 : Heap} {w w1 w2 : World} (h : Step B φ H w φ1 H1 w1) (k : Step B φ1 H1 w1 φ2 H2 w2) : Step B φ H w φ2 H2 w2 where
  le := h.le.trans k.le
  dom := fun b p e => by
    rcases k.dom b p e with e | ⟨e1, e2⟩
    · rcases h.dom b p e with e | ⟨e1, e2⟩
      · exact .inl e
      · exact .inr ⟨e1, Nat.lt_of_lt_of_le e2 k.next⟩
    · exact .inr ⟨Nat.le_trans h.next e1, e2⟩
  rel := k.rel
  next := Nat.le_trans h.next k.next
  os := k.os.trans h.os
  tape := k.tape.trans h.tape
  output := k.output.trans h.output
  size := Nat.le_trans h.size k.size
  rows := fun r hr hn => (k.rows r (Nat.lt_of_lt_of_le hr h.size) (fun ho => by rcases h.own r ho with ho | ho; exact hn ho; omega)).trans (h.rows r hr hn)
  own := fun r ho => by
    rcases k.own r ho with ho | ho
    · exact h.own r ho
    · exact .inr (Nat.le_trans h.size ho)

theorem HRel.of_heap {B : Nat} {φ : Phi} {H : Heap} {w w' : World} (h : HRel B φ H w) (e : w'.heap = w.heap) : HRel B φ H w' where
  blk := fun b blk p hb hp => by
    obtain ⟨es, cur, e', fz, h1, h2⟩ := h.blk b blk p hb hp
    exact ⟨es, cur, e', fz, by rw [e]; exact h1, h2⟩
  sep := h.sep
  size := by rw [e]; exact h.size
  lt := h.lt

theorem Step.drew {B : Nat} {φ : Phi} {H : Heap} {w : World} (h : HRel B φ H w) (k : Nat) : Step B φ H w φ H { w with drawn := k } :=
  ⟨.refl _, fun _ _ h => .inl h, h.of_heap rfl, Nat.le_refl _, rfl, rfl, rfl, Nat.le_refl _, fun _ _ _ => rfl, fun _ h => .inl h⟩

/-- the row of a writable block is from B on -/
theorem HRel.owned_ge {B : Nat} {φ : Phi} {H : Heap} {w : World} (h : HRel B φ H w) {r : Nat} (ho : Owned φ H r) : B ≤ r ∧ r < w.heap.size := by
  obtain ⟨b, blk, p, hb, hw, hp, rfl⟩ := ho
  obtain ⟨_, cur, e, fz, h1, _, _, _, h2⟩ := h.blk b blk p hb hp
  exact ⟨(h2 hw).1, (Array.getElem?_eq_some_iff.1 h1).1⟩

theorem Step.below {B : Nat} {φ φ' : Phi} {H H' : Heap} {w w' : World} (hr : HRel B φ H w) (h : Step B φ H w φ' H' w') : Below B w w' :=
  ⟨h.os, h.tape, h.output, h.size, fun k hk => h.rows k (Nat.lt_of_lt_of_le hk hr.size) (fun ho => by have := (hr.owned_ge ho).1; omega)⟩

/-- a new row -/
theorem Step.alloc' {B : Nat} {φ : Phi} {H H' : Heap} {w : World} (h : HRel B φ H w) (es : Nat) (m : Option Nat) (cs : List AV) (hn : H'.next = H.next + 1)
    (hget : ∀ b, H'.blks.get b = if b = H.next then some ⟨cs, true, m, es⟩ else H.blks.get b) (cur : Array Value) (e : TypeId) (fz : Nat × Nat)
    (hφ : φ H.next = none) (hlen : cs.length ≤ cur.size) (hc : ∀ (i : Nat) (c : AV), cs[i]? = some c → ∃ x : Value, cur[i]? = some x ∧ VRel φ c x ∧ c.one = true)
    (hfz : cur.size ≤ fz.1 ∨ fz.2 = fz.1) (w' : World) (hw : w'.heap = w.heap.push (.cells cur e fz)) (h1 : w'.os = w.os) (h2 : w'.tape = w.tape) (h3 : w'.output = w.output) :
    Step B φ H w (fun b => if b = H.next then some ⟨w.heap.size, 0, cur.size, es⟩ else φ b) H' w' := by
  have hle : Le φ (fun b => if b = H.next then some ⟨w.heap.size, 0, cur.size, es⟩ else φ b) := by
    intro b p hp
    by_cases hb : b = H.next
    · subst hb; rw [hφ] at hp; cases hp
    · simp only [hb, if_false]; exact hp
  have hold : ∀ k, k < w.heap.size → w'.heap[k]? = w.heap[k]? := fun k hk => by rw [hw, Array.getElem?_push, if_neg (by omega)]
  have hnew : w'.heap[w.heap.size]? = some (.cells cur e fz) := by rw [hw, Array.getElem?_push, if_pos rfl]
  have hrow : ∀ b blk p, H.blks.get b = some blk → φ b = some p → p.r < w.heap.size := fun b blk p hb hp => by
    obtain ⟨_, cur, e, fz, h1, _⟩ := h.blk b blk p hb hp
    exact (Array.getElem?_eq_some_iff.1 h1).1
  refine ⟨hle, ?_, ?_, by omega, h1, h2, h3, by rw [hw]; simp, fun r hr _ => hold r hr, ?_⟩
  · intro b p hp
    by_cases hb : b = H.next
    · exact .inr ⟨by omega, by omega⟩
    · simp only [hb, if_false] at hp; exact .inl hp
  · refine ⟨?_, ?_, by rw [hw]; have := h.size; simp; omega, ?_⟩
    · intro b blk p hb hp
      rw [hget] at hb
      by_cases hbn : b = H.next
      · simp only [hbn, if_true, Option.some.injEq] at hb hp
        subst hb; subst hp
        refine ⟨rfl, cur, e, fz, hnew, by simp, hlen, ?_, fun _ => ⟨h.size, hfz⟩⟩
        intro i c hic
        obtain ⟨x, h1, h2, h3⟩ := hc i c hic
        exact ⟨x, by simpa using h1, h2.mono hle, h3⟩
      · simp only [hbn, if_false] at hb hp
        obtain ⟨es', cur', e', fz', g1, g2, g3, g4, g5⟩ := h.blk b blk p hb hp
        refine ⟨es', cur', e', fz', by rw [hold _ (hrow b blk p hb hp)]; exact g1, g2, g3, ?_, g5⟩
        intro i c hic
        obtain ⟨x, h1, h2, h3⟩ := g4 i c hic
        exact ⟨x, h1, h2.mono hle, h3⟩
    · intro b blk b' blk' p p' hb hb' hne hwr hm hp hp'
      rw [hget] at hb hb'
      by_cases hbn : b = H.next
      · by_cases hbn' : b' = H.next
        · exact absurd (hbn.trans hbn'.symm) hne
        · simp only [hbn, if_true, Option.some.injEq] at hp
          simp only [hbn', if_false] at hb' hp'
          subst hp
          have := hrow b' blk' p' hb' hp'
          simp only; omega
      · simp only [hbn, if_false] at hb hp
        by_cases hbn' : b' = H.next
        · simp only [hbn', if_true, Option.some.injEq] at hp'
          subst hp'
          have := hrow b blk p hb hp
          simp only; omega
        · simp only [hbn', if_false] at hb' hp'
          exact h.sep b blk b' blk' p p' hb hb' hne hwr hm hp hp'
    · intro b hb
      rw [hget, if_neg (by omega)]
      exact h.lt b (by omega)
  · rintro r ⟨b, blk, p, hb, hwr, hp, rfl⟩
    rw [hget] at hb
    by_cases hbn : b = H.next
    · simp only [hbn, if_true, Option.some.injEq] at hp
      subst hp
      exact .inr (Nat.le_refl _)
    · simp only [hbn, if_false] at hb hp
      exact .inl ⟨b, blk, p, hb, hwr, hp, rfl⟩

theorem Step.alloc {B : Nat} {φ : Phi} {H : Heap} {w : World} (h : HRel B φ H w) (es : Nat) (cs : List AV) (cur : Array Value) (e : TypeId) (fz : Nat × Nat)
    (hφ : φ H.next = none) (hlen : cs.length ≤ cur.size) (hc : ∀ (i : Nat) (c : AV), cs[i]? = some c → ∃ x : Value, cur[i]? = some x ∧ VRel φ c x ∧ c.one = true)
    (hfz : cur.size ≤ fz.1 ∨ fz.2 = fz.1) (w' : World) (hw : w'.heap = w.heap.push (.cells cur e fz)) (h1 : w'.os = w.os) (h2 : w'.tape = w.tape) (h3 : w'.output = w.output) :
    Step B φ H w (fun b => if b = H.next then some ⟨w.heap.size, 0, cur.size, es⟩ else φ b) (H.alloc es cs) w' :=
  Step.alloc' h es none cs rfl (fun _ => T.get_set _ _ _ _) cur e fz hφ hlen hc hfz w' hw h1 h2 h3

theorem Heap.get_kill (H : Heap) (m : Option Nat) (b : Nat) : (H.kill m).blks.get b = if m = some b then none else H.blks.get b := by
  cases m with
  | none => rfl
  | some m =>
    show (H.blks.set m none).get b = _
    rw [T.get_set]
    by_cases h : b = m
    · subst h; simp
    · rw [if_neg h, if_neg (by simpa using fun e => h e.symm)]

/-- blocks go; mates are named anew where none of those that stay is one -/
theorem Step.sub {B : Nat} {φ : Phi} {H H' : Heap} {w : World} (h : HRel B φ H w) (hn : H'.next = H.next)
    (hs : ∀ b blk', H'.blks.get b = some blk' → ∃ blk, H.blks.get b = some blk ∧ blk'.cells = blk.cells ∧ blk'.wr = blk.wr ∧ blk'.es = blk.es ∧
      (∀ b', b' ≠ b → (H'.blks.get b').isSome → blk'.mate ≠ some b' → blk.mate ≠ some b')) : Step B φ H w φ H' w := by
  refine ⟨.refl _, fun _ _ h => .inl h, ⟨?_, ?_, h.size, ?_⟩, by omega, rfl, rfl, rfl, Nat.le_refl _, fun _ _ _ => rfl, ?_⟩
  · intro b blk' p hb hp
    obtain ⟨blk, g, e1, e2, e3, _⟩ := hs b blk' hb
    obtain ⟨es, cur, e, fz, g1, g2, g3, g4, g5⟩ := h.blk b blk p g hp
    exact ⟨e3.trans es, cur, e, fz, g1, g2, by rw [e1]; exact g3, by rw [e1]; exact g4, by rw [e2]; exact g5⟩
  · intro b blk' b' blk'' p p' hb hb' hne hw hm hp hp'
    obtain ⟨blk, g, _, e2, _, e4⟩ := hs b blk' hb
    obtain ⟨blk2, g', _⟩ := hs b' blk'' hb'
    exact h.sep b blk b' blk2 p p' g g' hne (e2 ▸ hw) (e4 b' (Ne.symm hne) (by rw [hb']; rfl) hm) hp hp'
  · intro b hb
    cases hq : H'.blks.get b with
    | none => rfl
    | some blk' =>
      obtain ⟨blk, g, _⟩ := hs b blk' hq
      rw [h.lt b (by omega)] at g
      cases g
  · rintro r ⟨b, blk', p, hb, hw, hp, rfl⟩
    obtain ⟨blk, g, _, e2, _⟩ := hs b blk' hb
    exact .inl ⟨b, blk, p, g, e2 ▸ hw, hp, rfl⟩

/-- nobody else has b's row -/
def Alone (φ : Phi) (H : Heap) (b : Nat) (p : Pl) : Prop := ∀ b' blk' p', H.blks.get b' = some blk' → b' ≠ b → φ b' = some p' → p'.r ≠ p.r

/-- the row of a block that is alone in it is written -/
theorem Step.put {B : Nat} {φ : Phi} {H H' : Heap} {w : World} (h : HRel B φ H w) {b : Nat} {blk : Blk} {p : Pl} (hb : H.blks.get b = some blk) (hp : φ b = some p) (hwr : blk.wr = true)
    (ha : Alone φ H b p) (cs : List AV) (cur cur' : Array Value) (e : TypeId) (fz : Nat × Nat) (hr : w.heap[p.r]? = some (.cells cur e fz)) (hsz : cur'.size = cur.size)
    (hl : cs.length ≤ p.n) (hc : ∀ (i : Nat) (c : AV), cs[i]? = some c → ∃ x : Value, cur'[p.o + i]? = some x ∧ VRel φ c x ∧ c.one = true)
    (hn : H'.next = H.next) (hget : ∀ j, H'.blks.get j = if j = b then some ⟨cs, true, blk.mate, blk.es⟩ else H.blks.get j) : Step B φ H w φ H' (w.setRow p.r cur') := by
  have hheap : ∀ k, k ≠ p.r → (w.setRow p.r cur').heap[k]? = w.heap[k]? := fun k hk => by
    simp only [World.setRow, Array.getElem?_modify]
    rw [if_neg (by omega)]
  have hnew := setRow_heap w p.r cur cur' e fz hr
  obtain ⟨es0, cur0, e0, fz0, g1, g2, _, _, g5⟩ := h.blk b blk p hb hp
  rw [hr] at g1
  simp only [Option.some.injEq, Obj.cells.injEq] at g1
  obtain ⟨rfl, rfl, rfl⟩ := g1
  refine ⟨.refl _, fun _ _ h => .inl h, ⟨?_, ?_, by show B ≤ (w.setRow p.r cur').heap.size; simp [World.setRow]; exact h.size, ?_⟩, by omega, rfl, rfl, rfl, by simp [World.setRow], ?_, ?_⟩
  · intro j blk' p' hj hp'
    rw [hget] at hj
    by_cases hjb : j = b
    · subst hjb
      simp only [if_true, Option.some.injEq] at hj
      subst hj
      rw [hp] at hp'
      cases hp'
      exact ⟨es0, cur', e, fz, hnew, by omega, hl, hc, fun _ => by have := g5 hwr; rw [hsz]; exact this⟩
    · simp only [hjb, if_false] at hj
      obtain ⟨es, c2, e2, f2, k1, k2⟩ := h.blk j blk' p' hj hp'
      exact ⟨es, c2, e2, f2, by rw [hheap _ (ha j blk' p' hj hjb hp')]; exact k1, k2⟩
  · intro j blk1 j' blk2 p1 p2 hj hj' hne hw hm h1 h2
    rw [hget] at hj hj'
    by_cases hjb : j = b
    · subst hjb
      rw [hp] at h1; cases h1
      simp only [Ne.symm hne, if_false] at hj'
      exact fun e => ha j' blk2 p2 hj' (Ne.symm hne) h2 e.symm
    · simp only [hjb, if_false] at hj
      by_cases hjb' : j' = b
      · subst hjb'
        rw [hp] at h2; cases h2
        exact ha j blk1 p1 hj hjb h1
      · simp only [hjb', if_false] at hj'
        exact h.sep j blk1 j' blk2 p1 p2 hj hj' hne hw hm h1 h2
  · intro j hj
    rw [hget]
    by_cases hjb : j = b
    · subst hjb; rw [h.lt j (by omega)] at hb; cases hb
    · rw [if_neg hjb]; exact h.lt j (by omega)
  · intro r _ hno
    exact hheap r (fun e => hno ⟨b, blk, p, hb, hwr, hp, e.symm⟩)
  · rintro r ⟨j, blk', p', hj, hw, hp', rfl⟩
    rw [hget] at hj
    by_cases hjb : j = b
    · subst hjb; exact .inl ⟨j, blk, p', hb, hwr, hp', rfl⟩
    · simp only [hjb, if_false] at hj
      exact .inl ⟨j, blk', p', hj, hw, hp', rfl⟩

/-- a new block in the row of one that is alone in it but for the new one, its mate -/
theorem Step.alias {B : Nat} {φ : Phi} {H H' : Heap} {w : World} (h : HRel B φ H w) {b : Nat} {blk : Blk} {p : Pl} (hb : H.blks.get b = some blk) (hp : φ b = some p) (hwr : blk.wr = true)
    (ha : Alone φ H b p) (hm : blk.mate = some H.next) (off : Nat) (cs : List AV) (cur : Array Value) (e : TypeId) (fz : Nat × Nat) (hr : w.heap[p.r]? = some (.cells cur e fz))
    (hφ : φ H.next = none) (hoff : off ≤ p.n) (hl : off + cs.length ≤ p.n) (hc : ∀ (i : Nat) (c : AV), cs[i]? = some c → ∃ x : Value, cur[p.o + off + i]? = some x ∧ VRel φ c x ∧ c.one = true)
    (hn : H'.next = H.next + 1) (hget : ∀ j, H'.blks.get j = if j = H.next then some ⟨cs, true, some b, blk.es⟩ else H.blks.get j) :
    Step B φ H w (fun j => if j = H.next then some ⟨p.r, p.o + off, p.n - off, p.es⟩ else φ j) H' w := by
  have hle : Le φ (fun j => if j = H.next then some ⟨p.r, p.o + off, p.n - off, p.es⟩ else φ j) := by
    intro j q hq
    by_cases hj : j = H.next
    · subst hj; rw [hφ] at hq; cases hq
    · simp only [hj, if_false]; exact hq
  have hbn : b ≠ H.next := fun e => by subst e; rw [h.lt _ (Nat.le_refl _)] at hb; cases hb
  obtain ⟨es0, cur0, e0, fz0, g1, g2, _, _, g5⟩ := h.blk b blk p hb hp
  rw [hr] at g1
  simp only [Option.some.injEq, Obj.cells.injEq] at g1
  obtain ⟨rfl, rfl, rfl⟩ := g1
  refine ⟨hle, ?_, ⟨?_, ?_, h.size, ?_⟩, by omega, rfl, rfl, rfl, Nat.le_refl _, fun _ _ _ => rfl, ?_⟩
  · intro j q hq
    by_cases hj : j = H.next
    · exact .inr ⟨by omega, by omega⟩
    · simp only [hj, if_false] at hq; exact .inl hq
  · intro j blk' q hj hq
    rw [hget] at hj
    by_cases hjn : j = H.next
    · simp only [hjn, if_true, Option.some.injEq] at hj hq
      subst hj; subst hq
      refine ⟨es0, cur, e, fz, hr, by simp only; omega, by simp only; omega, ?_, fun _ => g5 hwr⟩
      intro i c hic
      obtain ⟨x, k1, k2, k3⟩ := hc i c hic
      exact ⟨x, k1, k2.mono hle, k3⟩
    · simp only [hjn, if_false] at hj hq
      obtain ⟨es, c2, e2, f2, k1, k2, k3, k4, k5⟩ := h.blk j blk' q hj hq
      refine ⟨es, c2, e2, f2, k1, k2, k3, ?_, k5⟩
      intro i c hic
      obtain ⟨x, m1, m2, m3⟩ := k4 i c hic
      exact ⟨x, m1, m2.mono hle, m3⟩
  · intro j blk1 j' blk2 p1 p2 hj hj' hne hw hmt h1 h2
    rw [hget] at hj hj'
    by_cases hjn : j = H.next
    · simp only [hjn, if_true, Option.some.injEq] at hj h1
      subst hj; subst h1
      have hjn' : j' ≠ H.next := fun e => hne (hjn.trans e.symm)
      simp only [hjn', if_false] at hj' h2
      exact fun e => ha j' blk2 p2 hj' (fun e => hmt (by rw [e])) h2 e.symm
    · simp only [hjn, if_false] at hj h1
      by_cases hjn' : j' = H.next
      · simp only [hjn', if_true, Option.some.injEq] at h2
        subst h2
        have hjb : j ≠ b := fun e => by
          subst e
          rw [hb] at hj; cases hj
          exact hmt (by rw [hm, hjn'])
        exact ha j blk1 p1 hj hjb h1
      · simp only [hjn', if_false] at hj' h2
        exact h.sep j blk1 j' blk2 p1 p2 hj hj' hne hw hmt h1 h2
  · intro j hj
    rw [hget, if_neg (by omega)]
    exact h.lt j (by omega)
  · rintro r ⟨j, blk', q, hj, hw, hq, rfl⟩
    rw [hget] at hj
    by_cases hjn : j = H.next
    · simp only [hjn, if_true, Option.some.injEq] at hq
      subst hq
      exact .inl ⟨b, blk, p, hb, hwr, hp, rfl⟩
    · simp only [hjn, if_false] at hj hq
      exact .inl ⟨j, blk', q, hj, hw, hq, rfl⟩


/-- a row that is marked behind its end -/
def markO (o : Obj) (n : Nat) : Obj := match o with
  | .cells c elem (lo, hi) => .cells c elem (if lo == hi then (n, n + 1) else (min lo n, max hi (n + 1)))
  | o => o
theorem Step.marks {B : Nat} {φ : Phi} {H : Heap} {w : World} (h : HRel B φ H w) {b : Nat} {blk : Blk} {p : Pl} (hb : H.blks.get b = some blk) (hp : φ b = some p) (hwr : blk.wr = true) {cur : Array Value} {e : TypeId} {fz : Nat × Nat}
    (hr : w.heap[p.r]? = some (.cells cur e fz)) (w' : World) (hw : w'.heap = w.heap.modify p.r (markO · cur.size)) (h1 : w'.os = w.os) (h2 : w'.tape = w.tape) (h3 : w'.output = w.output) : Step B φ H w φ H w' := by
  have hold : ∀ k, k ≠ p.r → w'.heap[k]? = w.heap[k]? := fun k hk => by
    rw [hw, Array.getElem?_modify, if_neg (fun c => hk c.symm)]
  have hnew : ∃ fz', w'.heap[p.r]? = some (.cells cur e fz') ∧ ((cur.size ≤ fz.1 ∨ fz.2 = fz.1) → (cur.size ≤ fz'.1 ∨ fz'.2 = fz'.1)) := by
    obtain ⟨lo, hi⟩ := fz
    refine ⟨if lo == hi then (cur.size, cur.size + 1) else (min lo cur.size, max hi (cur.size + 1)), by rw [hw, Array.getElem?_modify, if_pos rfl, hr]; rfl, fun k => ?_⟩
    by_cases c : lo = hi
    · rw [if_pos (by simpa using c)]; exact .inl (Nat.le_refl _)
    · rw [if_neg (by simpa using c)]
      rcases k with k | k
      · exact .inl (by show cur.size ≤ min lo cur.size; have : cur.size ≤ lo := k; omega)
      · exact absurd (show hi = lo from k).symm c
  obtain ⟨fz', hn1, hn2⟩ := hnew
  refine ⟨.refl _, fun _ _ k => .inl k, ⟨fun b' blk' p' k1 k2 => ?_, h.sep, by rw [hw, Array.size_modify]; exact h.size, h.lt⟩, Nat.le_refl _, h1, h2, h3, by rw [hw, Array.size_modify]; exact Nat.le_refl _, fun r _ ho => ?_, fun r ho => .inl ho⟩
  · obtain ⟨es, cur1, e1, fz1, q1, q2, q3, q4, q5⟩ := h.blk b' blk' p' k1 k2
    by_cases c : p'.r = p.r
    · rw [c, hr] at q1
      cases q1
      exact ⟨es, cur, e, fz', by rw [c]; exact hn1, q2, q3, q4, fun k => ⟨(q5 k).1, hn2 (q5 k).2⟩⟩
    · exact ⟨es, cur1, e1, fz1, by rw [hold _ c]; exact q1, q2, q3, q4, q5⟩
  · exact hold r (fun c => ho ⟨b, blk, p, hb, hwr, hp, c.symm⟩)
end Go.AM
