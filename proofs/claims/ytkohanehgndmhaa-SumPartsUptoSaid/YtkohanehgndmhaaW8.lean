/- Rules for the machine. No condition. -/
import Derived.Test.YtkohanehgndmhaaW7
set_option linter.all false
namespace Go.AM
/-! ## Slices that grow -/
/-- a slice of one's own, made since `H0`: nil, or the whole of a block that nobody else has but its elder -/
def Grow (H0 H : Heap) (v : AV) (es : Nat) (cs : List AV) (n : Nat) : Prop :=
  (n = 0 ∧ cs = [] ∧ v = .v (.slice none 0 0)) ∨
  ∃ (b : Nat) (m : Option Nat), v = .sl b 0 n n false ∧ H0.next ≤ b ∧ b < H.next ∧ H.blks.get b = some ⟨cs, true, m, es⟩ ∧ cs.length = n * es ∧ ∀ k, m = some k → H0.next ≤ k
theorem Grow.nil (H0 H : Heap) (es : Nat) : Grow H0 H (.v (.slice none 0 0)) es [] 0 := .inl ⟨rfl, rfl, rfl⟩
theorem Grow.keep {H0 H H' : Heap} {v : AV} {es n : Nat} {cs : List AV} (h : Grow H0 H v es cs n) (k : Keep H H') : Grow H0 H' v es cs n := by
  rcases h with h | ⟨b, m, h1, h2, h3, h4, h5, h6⟩
  · exact .inl h
  · exact .inr ⟨b, m, h1, h2, Nat.lt_of_lt_of_le h3 k.1, k.2 _ _ h3 h4, h5, h6⟩
theorem takeN_all : ∀ (l : List AV), takeN l.length l = some l
  | [] => rfl
  | x :: r => by simp [takeN, takeN_all r]
theorem Heap.mate2_new {H : Heap} {b : Nat} {blk : Blk} {cs : List AV} : (H.mate2 b blk cs).blks.get H.next = some ⟨cs, true, some b, blk.es⟩ := by
  simp only [Heap.mate2, T.get_set, if_true]
theorem Grow.app {H0 H : Heap} {v x : AV} {es by_ n m : Nat} {cs news : List AV} (h : Grow H0 H v es cs n) (hk : Keep H0 H) (hx : newsOf H es x = some (m, news)) (hm : 0 < m) (hl : news.length = m * es) (hs : (n + m) * by_ ≤ 2 ^ 47) :
    ∃ v' H', appendA H es by_ v x = some (v', H') ∧ Grow H0 H' v' es (cs ++ news) (n + m) ∧ Keep H0 H' := by
  obtain ⟨m, rfl⟩ : ∃ k, m = k + 1 := ⟨m - 1, by omega⟩
  rcases h with ⟨rfl, rfl, rfl⟩ | ⟨b, mt, rfl, h2, h3, h4, h5, h6⟩
  · refine ⟨.sl H.next 0 (m + 1) (m + 1) false, H.alloc es news, ?_, .inr ⟨H.next, none, by rw [Nat.zero_add], hk.1, Nat.lt_succ_self _, Heap.alloc_self rfl, by simpa using hl, fun k c => by cases c⟩, hk.trans (Keep.alloc ..)⟩
    simp only [appendA, hx]
    rw [if_pos (by simpa using hs)]
  · refine ⟨.sl H.next 0 (n + (m + 1)) (n + (m + 1)) false, H.mate2 b ⟨cs, true, mt, es⟩ (cs ++ news), ?_, .inr ⟨H.next, some b, rfl, hk.1, Nat.lt_succ_self _, Heap.mate2_new, by simp [h5, hl, Nat.add_mul], fun k c => by cases c; exact h2⟩, hk.mate2 h2 h6⟩
    simp only [appendA, hx, h4, List.drop_zero]
    rw [if_neg (by omega)]
    have : takeN (n * es) cs = some cs := by rw [← h5]; exact takeN_all cs
    simp only [this]
    simp only [hs, h5, Nat.zero_add, and_self, if_true, Bool.false_eq_true, if_false]
section
variable {A : AProg} {L : List (Nat × AV)} {l : List AOper} {H H0 : Heap} {Q : T AV → Heap → Prop}
theorem S.grow {d es by_ n m : Nat} {x y : AX} {s t : AV} {cs news : List AV} (hx : lkX L x = some s) (hy : lkX L y = some t) (hg : Grow H0 H s es cs n) (hk : Keep H0 H) (hn : newsOf H es t = some (m, news)) (hm : 0 < m) (hl : news.length = m * es) (hs : (n + m) * by_ ≤ 2 ^ 47)
    (h : ∀ v' H', Grow H0 H' v' es (cs ++ news) (n + m) → Keep H0 H' → WpOps A l (mkF ((d, v') :: L)) H' Q) : WpOps A (⟨some d, .app es by_ x y, none⟩ :: l) (mkF L) H Q := by
  obtain ⟨v', H', e, g, k⟩ := hg.app hk hn hm hl hs
  exact S.app hx hy e (h v' H' g k)
end
end Go.AM
namespace Go.AM
theorem newsOf_sl {H : Heap} {es b off len cap : Nat} {ex : Bool} {blk : Blk} {news : List AV} (hb : H.blks.get b = some blk) (hn : takeN (len * es) (blk.cells.drop off) = some news) : newsOf H es (.sl b off len cap ex) = some (len, news) := by
  simp only [newsOf, getN, hb, hn, Option.map]
end Go.AM
