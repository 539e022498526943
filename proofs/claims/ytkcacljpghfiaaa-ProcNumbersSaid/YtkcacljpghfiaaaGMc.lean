/- The machine over plain data: rules for each operation, calls. No condition. -/
import Derived.Test.YtkcacljpghfiaaaGMb
set_option linter.all false
set_option maxRecDepth 10000
namespace Go.AM
/-! ## Rows of rows of one's own -/
section
variable {Z : ZM} {om : Om} {HG : GHp} {H : Heap}
end
end Go.AM
set_option linter.all false
set_option maxRecDepth 10000
namespace Go.AM
section
variable {A : AProg} {L : GFr} {HG : GHp} {l : List AOper} {Q : GFr → GHp → Prop}
theorem ArrAt.put {Z : ZM} {cells bs : List AV} {o w i off : Nat} {cs : List (List GV)} {c c' vs : List GV} {ws : List AV} (h : ArrAt Z cells o w cs) (hc : cs[i]? = some c) (hp : putG c off vs = some c') (hl : vs.length = ws.length)
 (hv : ∀ (i : Nat) (v : GV) (a : AV), vs[i]? = some v → ws[i]? = some a → PR Z v a) (e3 : ∀ j, bs[j]? = if o + i * w + off ≤ j ∧ j < o + i * w + off + ws.length then ws[j - (o + i * w + off)]? else cells[j]?) : ArrAt Z bs o w (cs.set i c') := by
 have hlt : i < cs.length := (List.getElem?_eq_some_iff.1 hc).1
 obtain ⟨p1, p2, p3⟩ := putG_len hp
 have hcw := (h i c hc).1
 intro j d hd
 rw [List.getElem?_set] at hd
 by_cases hij : i = j
 ·subst hij
  rw [if_pos rfl, if_pos hlt] at hd
  cases hd
  refine ⟨by rw [p1, hcw], fun k' y hy' => ?_⟩
  rw [p3] at hy'
  rw [e3]
  have hk' : k' < w := by
   split at hy'
   ·omega
   ·rw [← hcw]; exact (List.getElem?_eq_some_iff.1 hy').1
  by_cases hr' : off ≤ k' ∧ k' < off + vs.length
  ·rw [if_pos hr'] at hy'
   rw [if_pos (by omega)]
   have hlt' : k' - off < ws.length := by omega
   refine ⟨ws[k' - off], ?_, hv _ _ _ hy' (by simp [hlt'])⟩
   have : o + i * w + k' - (o + i * w + off) = k' - off := by omega
   rw [this]; simp [hlt']
  ·rw [if_neg hr'] at hy'
   rw [if_neg (by omega)]
   exact (h i c hc).2 k' y hy'
 ·rw [if_neg hij] at hd
  refine ⟨(h j d hd).1, fun k' y hy' => ?_⟩
  rw [e3, if_neg ?_]
  ·exact (h j d hd).2 k' y hy'
  ·have hk' : k' < w := by rw [← (h j d hd).1]; exact (List.getElem?_eq_some_iff.1 hy').1
   intro hcon
   rcases Nat.lt_or_gt_of_ne hij with hlt2 | hlt2
   ·have := Nat.mul_le_mul_right w (show i + 1 ≤ j by omega)
    rw [Nat.add_mul] at this; omega
   ·have := Nat.mul_le_mul_right w (show j + 1 ≤ i by omega)
    rw [Nat.add_mul] at this; omega
end
end Go.AM
set_option linter.all false
set_option maxRecDepth 10000
namespace Go.AM
/-! rows of rows: made, given rows, made values -/
section
variable {Z : ZM} {om : Om} {HG : GHp} {H : Heap}
end
section
variable {A : AProg} {L : GFr} {HG : GHp} {l : List AOper} {Q : GFr → GHp → Prop}
end
end Go.AM
set_option linter.all false
set_option maxRecDepth 10000
namespace Go.AM
section
variable {Z : ZM} {om : Om} {HG : GHp} {H : Heap}
end
section
variable {A : AProg} {L : GFr} {HG : GHp} {l : List AOper}
end
/-! rows of rows become values -/
section
variable {Z : ZM} {om : Om} {HG : GHp} {H : Heap}
end
section
variable {A : AProg} {L : GFr} {HG : GHp} {l : List AOper}
end
end Go.AM
set_option linter.all false
set_option maxRecDepth 10000
namespace Go.AM
/-! square tables of yes and no -/
section
variable {A : AProg} {L : GFr} {HG : GHp} {l : List AOper} {Q : GFr → GHp → Prop}
end
end Go.AM
namespace Go.AM
def dstNe (g : Nat) : List AOper → Bool
 | [] => true
 | o :: r => (match o.dst with | some d => !Nat.beq d g | none => true) && dstNe g r
theorem dstNe_at {g : Nat} : ∀ {l : List AOper}, dstNe g l = true → ∀ o ∈ l, o.dst ≠ some g
 | [], _, o, h => by cases h
 | p :: r, h, o, ho => by
   rw [dstNe, Bool.and_eq_true] at h
   rcases List.mem_cons.1 ho with rfl | ho
   ·intro c
    have := h.1
    rw [c] at this
    simp at this
   ·exact dstNe_at h.2 o ho
theorem WpOpsG.known {A : AProg} {L : GFr} {HG : GHp} {l : List AOper} {Q : GFr → GHp → Prop} (g : Nat) (w : Bool) (hg : lkP L g = some (.v (.bool w))) (hd : dstNe g l = true) (h : WpOpsG A (strip g w l) L HG Q) : WpOpsG A l L HG Q := fun Z om fr H hr hf => by
 obtain ⟨n, f, f0, H', h1, h2, h3⟩ := h Z om fr H hr hf
 refine ⟨n, f, f0, H', ?_, h2, h3⟩
 obtain ⟨a, e1, e2⟩ := hf g _ hg
 obtain rfl := e2.v_inv
 rw [strip_ok e1 (dstNe_at hd)]
 exact h1
end Go.AM
set_option linter.all false
set_option maxRecDepth 10000
namespace Go.AM
section
variable {Z : ZM} {om : Om} {HG : GHp} {H : Heap}
end
section
variable {A : AProg} {L : GFr} {HG : GHp} {l : List AOper} {Q : GFr → GHp → Prop}
def SrcR (HG : GHp) (L : GFr) (w : Nat) (y : AX) (ds : List (List GV)) : Prop :=
 ∀ Z om fr H, GRel Z om HG H → FR Z om L fr → ∃ t news, evX fr y = some t ∧ newsOf H w t = some (ds.length, news) ∧ news.length = ds.length * w ∧ ArrAt Z news 0 w ds
theorem SrcR.of {w : Nat} {y : AX} {v : GV} {ds : List (List GV)} (hy : lkGX L y = some v) (hs : srcG HG w v = some ds) : SrcR HG L w y ds := fun Z om fr H hr hf => by
 obtain ⟨t, k1, k2⟩ := hf.x hy
 obtain ⟨news, n1, n2, n3⟩ := src_ok hr k2 hs
 exact ⟨t, news, k1, n1, n2, n3⟩
theorem SrcR.row {w g i : Nat} {y : AX} {rows : List (Option (List (List GV)))} {ds : List (List GV)} (hy : lkGX L y = some (.rsl g i)) (hg : lkP HG g = some (.mat w rows)) (hi : rows[i]? = some (some ds)) : SrcR HG L w y ds := fun Z om fr H hr hf => by
 obtain ⟨t, k1, k2⟩ := hf.x hy
 obtain ⟨b, o, cap, ex, ps, e, h3⟩ := k2.rsl_inv
 obtain ⟨p, blk, e1, e2, e3⟩ := hr.row hg hi e
 rcases h3 with ⟨b', o', len', cap', ex', w', h4, rfl⟩ | ⟨h4, rfl⟩
 ·rw [h4] at e1; cases e1
  rcases e3.inv with ⟨c, _⟩ | ⟨_, _, _, _, blk', c, _, r1, r2, r3, r4, r5, r6, r7⟩
  ·cases c
  ·cases c
   obtain ⟨ws, t1, t2, t3⟩ := r7.rows
   exact ⟨_, ws, k1, by simp only [newsOf, getN, r1, t1, Option.map], t2, t3⟩
 ·rw [h4] at e1; cases e1
  rcases e3.inv with ⟨_, rfl, _⟩ | ⟨_, _, _, _, _, c, _⟩
  ·exact ⟨_, [], k1, rfl, by simp, fun i c e => by simp at e⟩
  ·cases c
theorem ArrAt.any {Z : ZM} {cells : List AV} {o w k : Nat} {cs : List (List GV)} (h : ArrAt Z cells o w cs) : ArrAt Z cells o w (cs.map fun c => c.set k .any) := fun i c e => by
 rw [List.getElem?_map] at e
 cases hx : cs[i]? with
 | none => rw [hx] at e; cases e
 | some y =>
   rw [hx] at e; cases e
   refine ⟨by rw [List.length_set]; exact (h i y hx).1, fun j x e' => ?_⟩
   rw [List.getElem?_set] at e'
   split at e'
   ·rename_i c
    subst c
    split at e'
    ·rename_i hj
     cases e'
     obtain ⟨a, h1, _⟩ := (h i y hx).2 k y[k] (by simp [hj])
     exact ⟨a, h1, .any⟩
    ·cases e'
   ·exact (h i y hx).2 j x e'
end
end Go.AM
set_option linter.all false
set_option maxRecDepth 10000
namespace Go.AM
section
variable {Z : ZM} {om : Om} {HG : GHp} {H : Heap}
end
section
variable {A : AProg} {L : GFr} {HG : GHp} {l : List AOper} {Q : GFr → GHp → Prop}
end
end Go.AM
set_option linter.all false
set_option maxRecDepth 10000
namespace Go.AM
theorem zN : (∀ (p : Prop) [Decidable p], (decide p = true) = p) ∧ (∀ (p : Prop) [Decidable p], decide p = false ↔ ¬ p) ∧ (∀ a b : Bool, ((a || b) = true) = (a = true ∨ b = true)) ∧ (∀ a b : Bool, ((a && b) = true) = (a = true ∧ b = true)) ∧
 (∀ a b : Bool, (a || b) = false ↔ a = false ∧ b = false) ∧ (∀ a b : Bool, (a && b) = false ↔ a = false ∨ b = false) ∧ (∀ (α : Type) [BEq α] [LawfulBEq α] (a b : α), (a != b) = true ↔ a ≠ b) ∧ (∀ (α : Type) [BEq α] [LawfulBEq α] (a b : α), (a == b) = true ↔ a = b) ∧
 (∀ (α : Type) [BEq α] [LawfulBEq α] (a b : α), (a == b) = false ↔ a ≠ b) ∧ (∀ (α : Type) [BEq α] [LawfulBEq α] (a b : α), (a != b) = false ↔ a = b) ∧ (∀ (α : Type) (a b : α), (a ≠ b) = ¬ (a = b)) ∧ (∀ a : Bool, ((!a) = true) = (a = false)) ∧ (∀ a : Bool, ((!a) = false) = (a = true)) ∧
 (∀ a b : Int, ¬ a < b ↔ b ≤ a) ∧ (∀ a b : Int, ¬ a ≤ b ↔ b < a) ∧ (∀ (p : Prop) [Decidable p], ¬ ¬ p ↔ p) ∧ (∀ (α β : Type) (l : List α) (f : α → β), (l.map f).length = l.length) ∧ (∀ (α : Type) (a : α) (l : List α), (a :: l).length = l.length + 1) ∧ (∀ (α : Type), ([] : List α).length = 0) := by
 refine ⟨?_, ?_, ?_, ?_, ?_, ?_, ?_, ?_, ?_, ?_, ?_, ?_, ?_, ?_, ?_, ?_, ?_, ?_, ?_⟩
 all_goals intros
 all_goals first | exact decide_eq_true_eq | exact decide_eq_false_iff_not | exact Bool.or_eq_true _ _ | exact Bool.and_eq_true _ _ | exact Bool.or_eq_false_iff | exact Bool.and_eq_false_iff | exact bne_iff_ne | exact beq_iff_eq | exact beq_eq_false_iff_ne | exact bne_eq_false_iff_eq | rfl | exact Bool.not_eq_true' _ | exact Bool.not_eq_false' _ | exact Int.not_lt | exact Int.not_le | exact Decidable.not_not | exact List.length_map _ | exact List.length_cons
section
variable {A : AProg} {L : GFr} {HG : GHp} {l : List AOper} {Q : GFr → GHp → Prop}
end
theorem ArrAt.cpy {Z : ZM} {cells bs news : List AV} {o w n : Nat} {cs ds : List (List GV)} (c8 : ArrAt Z cells o w cs) (n3 : ArrAt Z news 0 w (ds.take (n + 1))) (n2 : news.length = (n + 1) * w) (hm : min ds.length cs.length = n + 1)
 (e3 : ∀ i, bs[i]? = if o ≤ i ∧ i < o + news.length then news[i - o]? else cells[i]?) : ArrAt Z bs o w (ds.take cs.length ++ cs.drop ds.length) := fun i c e => by
 by_cases hi : i < n + 1
 ·have e' : (ds.take (n + 1))[i]? = some c := by
   rw [List.getElem?_append_left (by rw [List.length_take]; omega), List.getElem?_take, if_pos (by omega)] at e
   rw [List.getElem?_take, if_pos hi]; exact e
  refine ⟨(n3 i c e').1, fun k x ek => ?_⟩
  obtain ⟨a, q1, q2⟩ := (n3 i c e').2 k x ek
  have hk : k < w := by rw [← (n3 i c e').1]; exact (List.getElem?_eq_some_iff.1 ek).1
  have := Nat.mul_le_mul_right w (show i + 1 ≤ n + 1 by omega)
  rw [Nat.add_mul] at this
  refine ⟨a, ?_, q2⟩
  rw [e3, if_pos (by omega), ← q1]; congr 1; omega
 ·have e' : cs[i]? = some c := by
   rw [List.getElem?_append_right (by rw [List.length_take]; omega), List.getElem?_drop, List.length_take] at e
   have hcl : i < cs.length := by
    have := (List.getElem?_eq_some_iff.1 e).1
    omega
   rw [← e]; congr 1; omega
  refine ⟨(c8 i c e').1, fun k x ek => ?_⟩
  obtain ⟨a, q1, q2⟩ := (c8 i c e').2 k x ek
  have := Nat.mul_le_mul_right w (show n + 1 ≤ i by omega)
  refine ⟨a, ?_, q2⟩
  rw [e3, if_neg (by omega)]; exact q1
section
variable {A : AProg} {L : GFr} {HG : GHp} {l : List AOper} {Q : GFr → GHp → Prop}
end
end Go.AM
set_option linter.all false
set_option maxRecDepth 10000
namespace Go.AM
section
variable {A : AProg} {l : List AOper} {L : GFr} {HG : GHp} {Q : GFr → GHp → Prop}
theorem VR.ifc_inv2 {Z : ZM} {om : Om} {t : Nat} {c : GV} {a : AV} (h : VR Z om (.ifc t c) a) : ∃ b, a = .ifc t b ∧ VR Z om c b := by
 cases h with
 | pure h => cases h with
   | ifc h => exact ⟨_, rfl, .pure h⟩
 | ifc h => exact ⟨_, rfl, h⟩
theorem G.mkifc {d t : Nat} {x : AX} {v : GV} (hx : lkGX L x = some v) (k : WpOpsG A l ((d, .ifc t v) :: L) HG Q) : WpOpsG A (⟨some d, .mkifc t x, none⟩ :: l) L HG Q :=
 WpOpsG.pure (d := some d) (fun Z om fr H hr hf => by
  obtain ⟨u, h1, h2⟩ := hf.x hx
  exact ⟨.ifc t u, by simp only [evOp, h1], .ifc h2⟩) k
theorem G.asrt {d t : Nat} {x : AX} {v : GV} (hx : lkGX L x = some (.ifc t v)) (k : WpOpsG A l ((d, v) :: L) HG Q) : WpOpsG A (⟨some d, .asrt t x, none⟩ :: l) L HG Q :=
 WpOpsG.pure (d := some d) (fun Z om fr H hr hf => by
  obtain ⟨u, h1, h2⟩ := hf.x hx
  obtain ⟨b, rfl, h3⟩ := h2.ifc_inv2
  exact ⟨b, by simp only [evOp, h1, if_pos], h3⟩) k
theorem G.invk {d : Option Nat} {tb : List (Nat × Nat)} {t f : Nat} {x : AX} {xs : List AX} {c : GV} {vs : List GV} {P : GHp} {K : GV → GHp → Prop} (hx0 : lkGX L x = some (.ifc t c)) (hl : tb.lookup t = some f) (hx : lkGXs L xs = some vs)
 (hP : hasP HG P) (h1 : GV.okL P.D (c :: vs) = true) (h2 : cleanH P.D P = true) (hc : WpCallG A f (c :: vs) P K)
 (k : ∀ v H1, K v H1 → newOk P HG H1 = true ∧ WpOpsG A l (putP (stPs P L) d v) (H1 ++ dropP P (stPh P HG)) Q) : WpOpsG A (⟨d, .invk tb x xs, none⟩ :: l) L HG Q :=
 G.callX (fun Z om fr H hr hf => by
  obtain ⟨as, e, v⟩ := hf.xs hx
  obtain ⟨u, e0, v0⟩ := hf.x hx0
  obtain ⟨b, rfl, v1⟩ := v0.ifc_inv2
  exact ⟨b :: as, .cons v1 v, fun h => WpOp.invk e0 hl e h⟩) hP h1 h2 hc k
end
end Go.AM
