/- The machine over plain data: rules for each operation, calls. No condition. -/
import Derived.Test.YtnkbbfnloecbcaaGMb
set_option linter.all false
set_option maxRecDepth 10000
namespace Go.AM
/-! ## Rows of rows of one's own -/
section
variable {Z : ZM} {om : Om} {HG : GHp} {H : Heap}
end
end Go.AM
set_option linter.all false
set_option maxRecDepth 10000
namespace Go.AM
section
variable {A : AProg} {L : GFr} {HG : GHp} {l : List AOper} {Q : GFr → GHp → Prop}
theorem ArrAt.put {Z : ZM} {cells bs : List AV} {o w i off : Nat} {cs : List (List GV)} {c c' vs : List GV} {ws : List AV} (h : ArrAt Z cells o w cs) (hc : cs[i]? = some c) (hp : putG c off vs = some c') (hl : vs.length = ws.length)
 (hv : ∀ (i : Nat) (v : GV) (a : AV), vs[i]? = some v → ws[i]? = some a → PR Z v a) (e3 : ∀ j, bs[j]? = if o + i * w + off ≤ j ∧ j < o + i * w + off + ws.length then ws[j - (o + i * w + off)]? else cells[j]?) : ArrAt Z bs o w (cs.set i c') := by
 have hlt : i < cs.length := (List.getElem?_eq_some_iff.1 hc).1
 obtain ⟨p1, p2, p3⟩ := putG_len hp
 have hcw := (h i c hc).1
 intro j d hd
 rw [List.getElem?_set] at hd
 by_cases hij : i = j
 ·subst hij
  rw [if_pos rfl, if_pos hlt] at hd
  cases hd
  refine ⟨by rw [p1, hcw], fun k' y hy' => ?_⟩
  rw [p3] at hy'
  rw [e3]
  have hk' : k' < w := by
   split at hy'
   ·omega
   ·rw [← hcw]; exact (List.getElem?_eq_some_iff.1 hy').1
  by_cases hr' : off ≤ k' ∧ k' < off + vs.length
  ·rw [if_pos hr'] at hy'
   rw [if_pos (by omega)]
   have hlt' : k' - off < ws.length := by omega
   refine ⟨ws[k' - off], ?_, hv _ _ _ hy' (by simp [hlt'])⟩
   have : o + i * w + k' - (o + i * w + off) = k' - off := by omega
   rw [this]; simp [hlt']
  ·rw [if_neg hr'] at hy'
   rw [if_neg (by omega)]
   exact (h i c hc).2 k' y hy'
 ·rw [if_neg hij] at hd
  refine ⟨(h j d hd).1, fun k' y hy' => ?_⟩
  rw [e3, if_neg ?_]
  ·exact (h j d hd).2 k' y hy'
  ·have hk' : k' < w := by rw [← (h j d hd).1]; exact (List.getElem?_eq_some_iff.1 hy').1
   intro hcon
   rcases Nat.lt_or_gt_of_ne hij with hlt2 | hlt2
   ·have := Nat.mul_le_mul_right w (show i + 1 ≤ j by omega)
    rw [Nat.add_mul] at this; omega
   ·have := Nat.mul_le_mul_right w (show j + 1 ≤ i by omega)
    rw [Nat.add_mul] at this; omega
end
end Go.AM
set_option linter.all false
set_option maxRecDepth 10000
namespace Go.AM
/-! rows of rows: made, given rows, made values -/
section
variable {Z : ZM} {om : Om} {HG : GHp} {H : Heap}
end
section
variable {A : AProg} {L : GFr} {HG : GHp} {l : List AOper} {Q : GFr → GHp → Prop}
end
end Go.AM
set_option linter.all false
set_option maxRecDepth 10000
namespace Go.AM
section
variable {Z : ZM} {om : Om} {HG : GHp} {H : Heap}
end
section
variable {A : AProg} {L : GFr} {HG : GHp} {l : List AOper}
end
/-! rows of rows become values -/
section
variable {Z : ZM} {om : Om} {HG : GHp} {H : Heap}
end
section
variable {A : AProg} {L : GFr} {HG : GHp} {l : List AOper}
end
end Go.AM
set_option linter.all false
set_option maxRecDepth 10000
namespace Go.AM
/-! square tables of yes and no -/
section
variable {A : AProg} {L : GFr} {HG : GHp} {l : List AOper} {Q : GFr → GHp → Prop}
end
end Go.AM
namespace Go.AM
def dstNe (g : Nat) : List AOper → Bool
 | [] => true
 | o :: r => (match o.dst with | some d => !Nat.beq d g | none => true) && dstNe g r
theorem dstNe_at {g : Nat} : ∀ {l : List AOper}, dstNe g l = true → ∀ o ∈ l, o.dst ≠ some g
 | [], _, o, h => by cases h
 | p :: r, h, o, ho => by
   rw [dstNe, Bool.and_eq_true] at h
   rcases List.mem_cons.1 ho with rfl | ho
   ·intro c
    have := h.1
    rw [c] at this
    simp at this
   ·exact dstNe_at h.2 o ho
theorem WpOpsG.known {A : AProg} {L : GFr} {HG : GHp} {l : List AOper} {Q : GFr → GHp → Prop} (g : Nat) (w : Bool) (hg : lkP L g = some (.v (.bool w))) (hd : dstNe g l = true) (h : WpOpsG A (strip g w l) L HG Q) : WpOpsG A l L HG Q := fun Z om fr H hr hf => by
 obtain ⟨n, f, f0, H', h1, h2, h3⟩ := h Z om fr H hr hf
 refine ⟨n, f, f0, H', ?_, h2, h3⟩
 obtain ⟨a, e1, e2⟩ := hf g _ hg
 obtain rfl := e2.v_inv
 rw [strip_ok e1 (dstNe_at hd)]
 exact h1
end Go.AM
set_option linter.all false
set_option maxRecDepth 10000
namespace Go.AM
section
variable {Z : ZM} {om : Om} {HG : GHp} {H : Heap}
end
section
variable {A : AProg} {L : GFr} {HG : GHp} {l : List AOper} {Q : GFr → GHp → Prop}
def SrcR (HG : GHp) (L : GFr) (w : Nat) (y : AX) (ds : List (List GV)) : Prop :=
 ∀ Z om fr H, GRel Z om HG H → FR Z om L fr → ∃ t news, evX fr y = some t ∧ newsOf H w t = some (ds.length, news) ∧ news.length = ds.length * w ∧ ArrAt Z news 0 w ds
theorem SrcR.of {w : Nat} {y : AX} {v : GV} {ds : List (List GV)} (hy : lkGX L y = some v) (hs : srcG HG w v = some ds) : SrcR HG L w y ds := fun Z om fr H hr hf => by
 obtain ⟨t, k1, k2⟩ := hf.x hy
 obtain ⟨news, n1, n2, n3⟩ := src_ok hr k2 hs
 exact ⟨t, news, k1, n1, n2, n3⟩
theorem SrcR.row {w g i : Nat} {y : AX} {rows : List (Option (List (List GV)))} {ds : List (List GV)} (hy : lkGX L y = some (.rsl g i)) (hg : lkP HG g = some (.mat w rows)) (hi : rows[i]? = some (some ds)) : SrcR HG L w y ds := fun Z om fr H hr hf => by
 obtain ⟨t, k1, k2⟩ := hf.x hy
 obtain ⟨b, o, cap, ex, ps, e, h3⟩ := k2.rsl_inv
 obtain ⟨p, blk, e1, e2, e3⟩ := hr.row hg hi e
 rcases h3 with ⟨b', o', len', cap', ex', w', h4, rfl⟩ | ⟨h4, rfl⟩
 ·rw [h4] at e1; cases e1
  rcases e3.inv with ⟨c, _⟩ | ⟨_, _, _, _, blk', c, _, r1, r2, r3, r4, r5, r6, r7⟩
  ·cases c
  ·cases c
   obtain ⟨ws, t1, t2, t3⟩ := r7.rows
   exact ⟨_, ws, k1, by simp only [newsOf, getN, r1, t1, Option.map], t2, t3⟩
 ·rw [h4] at e1; cases e1
  rcases e3.inv with ⟨_, rfl, _⟩ | ⟨_, _, _, _, _, c, _⟩
  ·exact ⟨_, [], k1, rfl, by simp, fun i c e => by simp at e⟩
  ·cases c
theorem ArrAt.any {Z : ZM} {cells : List AV} {o w k : Nat} {cs : List (List GV)} (h : ArrAt Z cells o w cs) : ArrAt Z cells o w (cs.map fun c => c.set k .any) := fun i c e => by
 rw [List.getElem?_map] at e
 cases hx : cs[i]? with
 | none => rw [hx] at e; cases e
 | some y =>
   rw [hx] at e; cases e
   refine ⟨by rw [List.length_set]; exact (h i y hx).1, fun j x e' => ?_⟩
   rw [List.getElem?_set] at e'
   split at e'
   ·rename_i c
    subst c
    split at e'
    ·rename_i hj
     cases e'
     obtain ⟨a, h1, _⟩ := (h i y hx).2 k y[k] (by simp [hj])
     exact ⟨a, h1, .any⟩
    ·cases e'
   ·exact (h i y hx).2 j x e'
end
end Go.AM
set_option linter.all false
set_option maxRecDepth 10000
namespace Go.AM
section
variable {Z : ZM} {om : Om} {HG : GHp} {H : Heap}
end
section
variable {A : AProg} {L : GFr} {HG : GHp} {l : List AOper} {Q : GFr → GHp → Prop}
end
end Go.AM
set_option linter.all false
set_option maxRecDepth 10000
namespace Go.AM
theorem zN : (∀ (p : Prop) [Decidable p], (decide p = true) = p) ∧ (∀ (p : Prop) [Decidable p], decide p = false ↔ ¬ p) ∧ (∀ a b : Bool, ((a || b) = true) = (a = true ∨ b = true)) ∧ (∀ a b : Bool, ((a && b) = true) = (a = true ∧ b = true)) ∧
 (∀ a b : Bool, (a || b) = false ↔ a = false ∧ b = false) ∧ (∀ a b : Bool, (a && b) = false ↔ a = false ∨ b = false) ∧ (∀ (α : Type) [BEq α] [LawfulBEq α] (a b : α), (a != b) = true ↔ a ≠ b) ∧ (∀ (α : Type) [BEq α] [LawfulBEq α] (a b : α), (a == b) = true ↔ a = b) ∧
 (∀ (α : Type) [BEq α] [LawfulBEq α] (a b : α), (a == b) = false ↔ a ≠ b) ∧ (∀ (α : Type) [BEq α] [LawfulBEq α] (a b : α), (a != b) = false ↔ a = b) ∧ (∀ (α : Type) (a b : α), (a ≠ b) = ¬ (a = b)) ∧ (∀ a : Bool, ((!a) = true) = (a = false)) ∧ (∀ a : Bool, ((!a) = false) = (a = true)) ∧
 (∀ a b : Int, ¬ a < b ↔ b ≤ a) ∧ (∀ a b : Int, ¬ a ≤ b ↔ b < a) ∧ (∀ (p : Prop) [Decidable p], ¬ ¬ p ↔ p) ∧ (∀ (α β : Type) (l : List α) (f : α → β), (l.map f).length = l.length) ∧ (∀ (α : Type) (a : α) (l : List α), (a :: l).length = l.length + 1) ∧ (∀ (α : Type), ([] : List α).length = 0) := by
 refine ⟨?_, ?_, ?_, ?_, ?_, ?_, ?_, ?_, ?_, ?_, ?_, ?_, ?_, ?_, ?_, ?_, ?_, ?_, ?_⟩
 all_goals intros
 all_goals first | exact decide_eq_true_eq | exact decide_eq_false_iff_not | exact Bool.or_eq_true _ _ | exact Bool.and_eq_true _ _ | exact Bool.or_eq_false_iff | exact Bool.and_eq_false_iff | exact bne_iff_ne | exact beq_iff_eq | exact beq_eq_false_iff_ne | exact bne_eq_false_iff_eq | rfl | exact Bool.not_eq_true' _ | exact Bool.not_eq_false' _ | exact Int.not_lt | exact Int.not_le | exact Decidable.not_not | exact List.length_map _ | exact List.length_cons
theorem ArrAt.takeK {Z : ZM} {cells : List AV} {o w k : Nat} {cs : List (List GV)} (h : ArrAt Z cells o w cs) : ArrAt Z cells o w (cs.take k) := fun i c e => h i c (by
 rw [List.getElem?_take] at e
 split at e
 ·exact e
 ·cases e)
section
variable {A : AProg} {L : GFr} {HG : GHp} {l : List AOper} {Q : GFr → GHp → Prop}
end
theorem ArrAt.cpy {Z : ZM} {cells bs news : List AV} {o w n : Nat} {cs ds : List (List GV)} (c8 : ArrAt Z cells o w cs) (n3 : ArrAt Z news 0 w (ds.take (n + 1))) (n2 : news.length = (n + 1) * w) (hm : min ds.length cs.length = n + 1)
 (e3 : ∀ i, bs[i]? = if o ≤ i ∧ i < o + news.length then news[i - o]? else cells[i]?) : ArrAt Z bs o w (ds.take cs.length ++ cs.drop ds.length) := fun i c e => by
 by_cases hi : i < n + 1
 ·have e' : (ds.take (n + 1))[i]? = some c := by
   rw [List.getElem?_append_left (by rw [List.length_take]; omega), List.getElem?_take, if_pos (by omega)] at e
   rw [List.getElem?_take, if_pos hi]; exact e
  refine ⟨(n3 i c e').1, fun k x ek => ?_⟩
  obtain ⟨a, q1, q2⟩ := (n3 i c e').2 k x ek
  have hk : k < w := by rw [← (n3 i c e').1]; exact (List.getElem?_eq_some_iff.1 ek).1
  have := Nat.mul_le_mul_right w (show i + 1 ≤ n + 1 by omega)
  rw [Nat.add_mul] at this
  refine ⟨a, ?_, q2⟩
  rw [e3, if_pos (by omega), ← q1]; congr 1; omega
 ·have e' : cs[i]? = some c := by
   rw [List.getElem?_append_right (by rw [List.length_take]; omega), List.getElem?_drop, List.length_take] at e
   have hcl : i < cs.length := by
    have := (List.getElem?_eq_some_iff.1 e).1
    omega
   rw [← e]; congr 1; omega
  refine ⟨(c8 i c e').1, fun k x ek => ?_⟩
  obtain ⟨a, q1, q2⟩ := (c8 i c e').2 k x ek
  have := Nat.mul_le_mul_right w (show n + 1 ≤ i by omega)
  refine ⟨a, ?_, q2⟩
  rw [e3, if_neg (by omega)]; exact q1
section
variable {A : AProg} {L : GFr} {HG : GHp} {l : List AOper} {Q : GFr → GHp → Prop}
end
end Go.AM
set_option linter.all false
set_option maxRecDepth 10000
namespace Go.AM
section
variable {A : AProg} {l : List AOper} {L : GFr} {HG : GHp} {Q : GFr → GHp → Prop}
theorem VR.ifc_inv2 {Z : ZM} {om : Om} {t : Nat} {c : GV} {a : AV} (h : VR Z om (.ifc t c) a) : ∃ b, a = .ifc t b ∧ VR Z om c b := by
 cases h with
 | pure h => cases h with
   | ifc h => exact ⟨_, rfl, .pure h⟩
 | ifc h => exact ⟨_, rfl, h⟩
theorem G.mkifc {d t : Nat} {x : AX} {v : GV} (hx : lkGX L x = some v) (k : WpOpsG A l ((d, .ifc t v) :: L) HG Q) : WpOpsG A (⟨some d, .mkifc t x, none⟩ :: l) L HG Q :=
 WpOpsG.pure (d := some d) (fun Z om fr H hr hf => by
  obtain ⟨u, h1, h2⟩ := hf.x hx
  exact ⟨.ifc t u, by simp only [evOp, h1], .ifc h2⟩) k
theorem G.asrt {d t : Nat} {x : AX} {v : GV} (hx : lkGX L x = some (.ifc t v)) (k : WpOpsG A l ((d, v) :: L) HG Q) : WpOpsG A (⟨some d, .asrt t x, none⟩ :: l) L HG Q :=
 WpOpsG.pure (d := some d) (fun Z om fr H hr hf => by
  obtain ⟨u, h1, h2⟩ := hf.x hx
  obtain ⟨b, rfl, h3⟩ := h2.ifc_inv2
  exact ⟨b, by simp only [evOp, h1, if_pos], h3⟩) k
theorem G.invk {d : Option Nat} {tb : List (Nat × Nat)} {t f : Nat} {x : AX} {xs : List AX} {c : GV} {vs : List GV} {P : GHp} {K : GV → GHp → Prop} (hx0 : lkGX L x = some (.ifc t c)) (hl : tb.lookup t = some f) (hx : lkGXs L xs = some vs)
 (hP : hasP HG P) (h1 : GV.okL P.D (c :: vs) = true) (h2 : cleanH P.D P = true) (hc : WpCallG A f (c :: vs) P K)
 (k : ∀ v H1, K v H1 → newOk P HG H1 = true ∧ WpOpsG A l (putP (stPs P L) d v) (H1 ++ dropP P (stPh P HG)) Q) : WpOpsG A (⟨d, .invk tb x xs, none⟩ :: l) L HG Q :=
 G.callX (fun Z om fr H hr hf => by
  obtain ⟨as, e, v⟩ := hf.xs hx
  obtain ⟨u, e0, v0⟩ := hf.x hx0
  obtain ⟨b, rfl, v1⟩ := v0.ifc_inv2
  exact ⟨b :: as, .cons v1 v, fun h => WpOp.invk e0 hl e h⟩) hP h1 h2 hc k
end
end Go.AM
set_option linter.all false
namespace Go.AM
theorem ArrAt.dropK {Z : ZM} {cells : List AV} {o w k : Nat} {cs : List (List GV)} (h : ArrAt Z cells o w cs) : ArrAt Z cells (o + k * w) w (cs.drop k) := fun i c e => by
 rw [List.getElem?_drop] at e
 refine ⟨(h _ c e).1, fun j x ej => ?_⟩
 obtain ⟨a, h1, h2⟩ := (h _ c e).2 j x ej
 refine ⟨a, ?_, h2⟩
 rw [← h1, Nat.add_mul]; congr 1; omega
section
variable {A : AProg} {L : GFr} {HG : GHp} {l : List AOper} {Q : GFr → GHp → Prop}
theorem get_put_ne {fr : T AV} {d k : Nat} {v : AV} (h : k ≠ d) : (putD fr (some d) v).get k = fr.get k := by simp only [putD, T.get_set]; rw [if_neg h]
theorem get_put {fr : T AV} {d : Nat} {v : AV} : (putD fr (some d) v).get d = some v := by simp [putD, T.get_set]
theorem G.del {a b c e f h i j m q g w by_ k : Nat} {full : Fl} {cs : List (List GV)} (hx : lkP L i = some (.osl g)) (hy : lkP L j = some (.v (.int .i64 (k : Int)))) (hx2 : lkP L m = some (.osl g)) (hy2 : lkP L q = some (.v (.int .i64 (k : Int)))) (hg : lkP HG g = some (.arr full w cs))
 (hk : k < cs.length) (hk2 : (k : Int) + 1 < 2 ^ 63) (hd : m ≠ a ∧ q ≠ a ∧ q ≠ b ∧ b ≠ c ∧ b ≠ e ∧ a ≠ b ∧ a ≠ c ∧ a ≠ e ∧ a ≠ f) (hn : ((lkP L a).isNone && (lkP L b).isNone && (lkP L c).isNone && (lkP L e).isNone && (lkP L f).isNone) = true)
 (K : WpOpsG A l ((h, .osl g) :: stL g L) ((g, .arr .no w (cs.take k ++ cs.drop (k + 1))) :: stH g HG) Q) (hmv : (Nat.ble 8 g && Nat.blt g 10) = false := by rfl) :
 WpOpsG A (⟨some a, .slice w (.t i) none (some (.t j)), none⟩ :: ⟨some b, .mv (.t m), none⟩ :: ⟨some c, .mv (.t q), none⟩ :: ⟨some e, .bin .add (.t c) (.c (.v (.int .i64 1))), none⟩ :: ⟨some f, .slice w (.t b) (some (.t e)) none, none⟩ :: ⟨some h, .app w by_ (.t a) (.t f), none⟩ :: l) L HG Q := fun Z om fr H hr hf => by
 obtain ⟨u, h1, h2⟩ := hf i _ hx
 obtain ⟨u2, h3, h4⟩ := hf m _ hx2
 obtain ⟨y1, h5, h6⟩ := hf j _ hy
 obtain ⟨y2, h7, h8⟩ := hf q _ hy2
 obtain rfl := h6.v_inv
 obtain rfl := h8.v_inv
 obtain ⟨d1, d2, d3, d4, d5, d6, d7, d8, d9⟩ := hd
 have eS : (lkP HG g).isSome = true := by rw [hg]; rfl
 rcases hr.arr hg with ⟨c1, rfl⟩ | ⟨bb, o, cap, ex, blk, c1, c2, c3, c4, c5, c6, c7, c8⟩
 ·simp at hk
 have sl : ∀ u, VR Z om (.osl g) u → u = .sl bb o cs.length cap ex := fun u hu => by
  rcases hu.osl_inv with ⟨_, _, _, _, _, _, e', rfl⟩ | ⟨e', rfl⟩
  ·rw [c1] at e'; cases e'; rfl
  ·rw [c1] at e'; cases e'
 obtain rfl := sl _ h2
 obtain rfl := sl _ h4
 have hid : idOf om g bb := idOf_eq c1 rfl
 have hblt : bb < H.next := hr.old eS hid
 have hda := c8.dropK (k := k + 1)
 obtain ⟨news, t1, t2, t3⟩ := hda.rows
 rw [List.length_drop] at t1 t2
 have hm : cs.length - (k + 1) + (k + 1) = cs.length := by omega
 have q1 := Nat.mul_le_mul_right w (show k + (cs.length - (k + 1)) ≤ cap by omega)
 rw [Nat.add_mul] at q1
 have hfit : o + k * w + news.length ≤ blk.cells.length := by have := c6.1; omega
 obtain ⟨bs, e1⟩ := putAt_ok hfit
 obtain ⟨_, e2, e3⟩ := putAt_some e1
 have hmate := fun m (hm : blk.mate = some m) => hr.mate g bb blk m eS hid c2 hm
 have hlen : (cs.take k ++ cs.drop (k + 1)).length = k + (cs.length - (k + 1)) := by simp; omega
 have hnew : ArrAt Z bs o w (cs.take k ++ cs.drop (k + 1)) := fun ii c0 ec => by
  by_cases hi : ii < k
  ·rw [List.getElem?_append_left (by rw [List.length_take]; omega), List.getElem?_take, if_pos hi] at ec
   refine ⟨(c8 ii c0 ec).1, fun kk x e' => ?_⟩
   obtain ⟨av, p1, p2⟩ := (c8 ii c0 ec).2 kk x e'
   refine ⟨av, ?_, p2⟩
   have hkk : kk < w := by rw [← (c8 ii c0 ec).1]; exact (List.getElem?_eq_some_iff.1 e').1
   have := Nat.mul_le_mul_right w (show ii + 1 ≤ k by omega)
   rw [Nat.add_mul] at this
   rw [e3, if_neg (by omega)]; exact p1
  ·have hl0 : (cs.take k).length = k := by rw [List.length_take]; omega
   rw [List.getElem?_append_right (by rw [hl0]; omega), hl0] at ec
   refine ⟨(t3 _ c0 ec).1, fun kk x e' => ?_⟩
   obtain ⟨av, p1, p2⟩ := (t3 _ c0 ec).2 kk x e'
   have hkk : kk < w := by rw [← (t3 _ c0 ec).1]; exact (List.getElem?_eq_some_iff.1 e').1
   have hi2 := (List.getElem?_eq_some_iff.1 ec).1
   rw [List.length_drop] at hi2
   have q2 := Nat.mul_le_mul_right w (show k ≤ ii by omega)
   have q3 := Nat.mul_le_mul_right w (show ii - k + 1 ≤ cs.length - (k + 1) by omega)
   rw [Nat.add_mul] at q3
   have q4 : (ii - k) * w = ii * w - k * w := Nat.sub_mul ..
   refine ⟨av, ?_, p2⟩
   rw [e3, if_pos (by omega), ← p1]; congr 1; omega
 have FRs : ∀ {om' : Om} {fr' : T AV} {hv : AV}, FR Z om' (stL g L) fr → VR Z om' (.osl g) hv → FR Z om' ((h, .osl g) :: stL g L) (putD (putD (putD (putD (putD (putD fr (some a) (.sl bb o k cap ex)) (some b) (.sl bb o cs.length cap ex)) (some c) (.v (.int .i64 k))) (some e) (.v (.int .i64 ((k : Int) + 1)))) (some f) (.sl bb (o + (k + 1) * w) (cs.length - (k + 1)) (cap - (k + 1)) ex)) (some h) hv) := fun {om' fr' hv} hfs hvr s v es => by
  rw [lkP_cons] at es
  split at es
  ·rename_i cc
   cases es
   subst cc
   exact ⟨hv, get_put, hvr⟩
  ·rename_i cc
   simp only [Bool.and_eq_true] at hn
   have hnone : ∀ z, (lkP L z).isNone = true → s ≠ z := fun z hz ce => by
    subst ce
    rw [lkP_stL] at es
    cases hl : lkP L s with
    | none => rw [hl] at es; cases es
    | some x => rw [hl] at hz; cases hz
   rw [get_put_ne (fun c => cc c.symm), get_put_ne (hnone _ hn.2), get_put_ne (hnone _ hn.1.2), get_put_ne (hnone _ hn.1.1.2), get_put_ne (hnone _ hn.1.1.1.2), get_put_ne (hnone _ hn.1.1.1.1)]
   exact hfs s v es
 have bnd : natOf (k : Int) cap = some k := by unfold natOf; rw [if_pos ⟨by omega, by omega⟩, Int.toNat_natCast]
 have bnd2 : natOf ((k : Int) + 1) cs.length = some (k + 1) := by unfold natOf; rw [if_pos ⟨by omega, by omega⟩, show ((k : Int) + 1).toNat = k + 1 by omega]
 have hbin : binV .add (.int .i64 (k : Int)) (.int .i64 1) = some (.int .i64 ((k : Int) + 1)) := by
  show some (Value.int .i64 (IntKind.i64.wrap ((k : Int) + 1))) = _
  rw [IntKind.wrap_i64, show ((k : Int) + 1 + 9223372036854775808) % 18446744073709551616 - 9223372036854775808 = (k : Int) + 1 by omega]
 have hgn : getN H bb (o + (k + 1) * w) ((cs.length - (k + 1)) * w) = some news := by simp only [getN, c2, t1]
 have hnn0 : newsOf H w (.sl bb (o + (k + 1) * w) (cs.length - (k + 1)) (cap - (k + 1)) ex) = some (cs.length - (k + 1), news) := by simp only [newsOf, hgn, Option.map]
 refine WpOps.cons rfl (WpOp.eval (v := .sl bb o k cap ex) (H' := H) (by simp only [evOp, evX, h1, boundX, h5, bnd, c2, c4, if_true, Nat.zero_mul, Nat.add_zero, Nat.sub_zero]) ?_)
 refine WpOps.cons rfl (WpOp.eval (v := .sl bb o cs.length cap ex) (H' := H) (by simp only [evOp, evX]; rw [get_put_ne d1, h3]) ?_)
 refine WpOps.cons rfl (WpOp.eval (v := .v (.int .i64 k)) (H' := H) (by simp only [evOp, evX]; rw [get_put_ne d3, get_put_ne d2, h7]) ?_)
 refine WpOps.cons rfl (WpOp.eval (v := .v (.int .i64 ((k : Int) + 1))) (H' := H) (by simp only [evOp, evX]; rw [get_put]; simp only [hbin]) ?_)
 refine WpOps.cons rfl (WpOp.eval (v := .sl bb (o + (k + 1) * w) (cs.length - (k + 1)) (cap - (k + 1)) ex) (H' := H) (by simp only [evOp, evX]; rw [get_put_ne d5, get_put_ne d4, get_put]; simp only [boundX, evX, get_put, bnd2, c2, c4, if_true]) ?_)
 by_cases h0 : cs.length - (k + 1) = 0
 ·have ecs : cs.take k ++ cs.drop (k + 1) = cs.take k := by rw [List.drop_eq_nil_of_le (by omega), List.append_nil]
  have hnn : newsOf H w (.sl bb (o + (k + 1) * w) (cs.length - (k + 1)) (cap - (k + 1)) ex) = some (0, news) := hnn0.trans (by rw [h0])
  have hle : (cs.take k).length = k := by rw [List.length_take]; omega
  obtain ⟨r1, r2⟩ := hr.move hmv hg (l' := .sl bb o k cap ex w) (H' := H) (nb := .arr .no w (cs.take k ++ cs.drop (k + 1))) (Nat.le_refl _) (fun _ _ _ _ => rfl) (fun b' hb => by cases hb; exact .inl hid)
   (fun b' blk' m i hb hm => by cases i; exact .inr ⟨hid, blk', hb, hm⟩)
   (.arr (by rw [ecs, hle]; exact Om.set_self ..) c2 c3 c4 (by rw [hlen]; omega) c6 trivial (by rw [ecs]; exact c8.takeK))
  have hvr : VR Z (om.set g (.sl bb o k cap ex w)) (.osl g) (.sl bb o k cap ex) := .osl (Om.set_self ..)
  refine WpOps.cons rfl (WpOp.eval (v := .sl bb o k cap ex) (H' := H) (by simp only [evOp, evX]; rw [get_put_ne d9, get_put_ne d8, get_put_ne d7, get_put_ne d6, get_put, get_put]; simp only [appendA, hnn, Nat.add_zero]; rw [if_pos (by omega)]) ?_)
  refine (K Z _ _ H r1 (FRs (fr' := fr) (hf.st (.refl _) fun k n => Om.set_ne n) hvr)).mono ?_
  rintro fr' H2 ⟨Z2, om2, L2, HG2, a2, b2, cc2, dd2⟩
  exact ⟨Z2, om2, L2, HG2, a2, b2, r2.trans cc2, dd2⟩
 ·obtain ⟨n, hn0⟩ : ∃ n, cs.length - (k + 1) = n + 1 := ⟨cs.length - (k + 1) - 1, by omega⟩
  have hnn : newsOf H w (.sl bb (o + (k + 1) * w) (cs.length - (k + 1)) (cap - (k + 1)) ex) = some (n + 1, news) := hnn0.trans (by rw [hn0])
  rw [hn0] at hlen
  obtain ⟨r1, r2⟩ := hr.move hmv hg (l' := .sl bb o (k + (n + 1)) cap ex w) (H' := H.upd bb blk bs) (nb := .arr .no w (cs.take k ++ cs.drop (k + 1))) (Nat.le_refl _)
   (fun b' hb' n1 n2 => Heap.upd_ne (fun c => n1 (by rw [c]; exact hid)) (n2 bb blk hid c2)) (fun b' hb' => .inl (by cases hb'; exact hid))
   (fun b' blk' m i hb' hm => by cases i; rw [Heap.upd_self rfl] at hb'; cases hb'; cases hm)
   (.arr (blk := ⟨bs, true, none, blk.es⟩) (by rw [hlen]; exact Om.set_self ..) (Heap.upd_self rfl) rfl c4 (by rw [hlen]; omega) (by show SzOk _ bs.length _ _ _; rw [e2]; exact c6) trivial hnew)
  have hvr : VR Z (om.set g (.sl bb o (k + (n + 1)) cap ex w)) (.osl g) (.sl bb o (k + (n + 1)) cap ex) := .osl (Om.set_self ..)
  refine WpOps.cons rfl (WpOp.eval (v := .sl bb o (k + (n + 1)) cap ex) (H' := H.upd bb blk bs) (by simp only [evOp, evX]; rw [get_put_ne d9, get_put_ne d8, get_put_ne d7, get_put_ne d6, get_put, get_put]; simp only [appendA, hnn]; rw [if_pos (by omega)]; simp only [Heap.write_upd c2 c3 e1]) ?_)
  refine (K Z _ _ _ r1 (FRs (fr' := fr) (hf.st (.refl _) fun k n => Om.set_ne n) hvr)).mono ?_
  rintro fr' H2 ⟨Z2, om2, L2, HG2, a2, b2, cc2, dd2⟩
  exact ⟨Z2, om2, L2, HG2, a2, b2, r2.trans cc2, dd2⟩
end
end Go.AM
