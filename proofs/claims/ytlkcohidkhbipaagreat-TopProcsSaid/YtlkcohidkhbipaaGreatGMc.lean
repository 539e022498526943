/- The machine over plain data: rules for each operation, calls. No condition. -/
import Derived.Test.YtlkcohidkhbipaaGreatGMb
set_option linter.all false
set_option maxRecDepth 10000
namespace Go.AM
/-! ## Rows of rows of one's own -/
def mpL (f : GV → GV) : GFr → GFr
 | [] => []
 | p :: r => (p.1, f p.2) :: mpL f r
theorem lkP_mpL {f : GV → GV} : ∀ {L : GFr} {k : Nat}, lkP (mpL f L) k = (lkP L k).map f
 | [], _ => rfl
 | p :: r, k => by
   rw [mpL, lkP_cons, lkP_cons, lkP_mpL]
   split <;> rfl
theorem FR.mp {Z Z' : ZM} {om om' : Om} {f : GV → GV} {L : GFr} {fr : T AV} (h : FR Z om L fr) (hv : ∀ v a, VR Z om v a → VR Z' om' (f v) a) : FR Z' om' (mpL f L) fr := fun k v e => by
 rw [lkP_mpL] at e
 cases hx : lkP L k with
 | none => rw [hx] at e; cases e
 | some x =>
   rw [hx] at e; cases e
   obtain ⟨a, h1, h2⟩ := h k x hx
   exact ⟨a, h1, hv _ _ h2⟩
section
variable {Z : ZM} {om : Om} {HG : GHp} {H : Heap}
end
end Go.AM
set_option linter.all false
set_option maxRecDepth 10000
namespace Go.AM
section
variable {A : AProg} {L : GFr} {HG : GHp} {l : List AOper} {Q : GFr → GHp → Prop}
theorem ArrAt.put {Z : ZM} {cells bs : List AV} {o w i off : Nat} {cs : List (List GV)} {c c' vs : List GV} {ws : List AV} (h : ArrAt Z cells o w cs) (hc : cs[i]? = some c) (hp : putG c off vs = some c') (hl : vs.length = ws.length)
 (hv : ∀ (i : Nat) (v : GV) (a : AV), vs[i]? = some v → ws[i]? = some a → PR Z v a) (e3 : ∀ j, bs[j]? = if o + i * w + off ≤ j ∧ j < o + i * w + off + ws.length then ws[j - (o + i * w + off)]? else cells[j]?) : ArrAt Z bs o w (cs.set i c') := by
 have hlt : i < cs.length := (List.getElem?_eq_some_iff.1 hc).1
 obtain ⟨p1, p2, p3⟩ := putG_len hp
 have hcw := (h i c hc).1
 intro j d hd
 rw [List.getElem?_set] at hd
 by_cases hij : i = j
 ·subst hij
  rw [if_pos rfl, if_pos hlt] at hd
  cases hd
  refine ⟨by rw [p1, hcw], fun k' y hy' => ?_⟩
  rw [p3] at hy'
  rw [e3]
  have hk' : k' < w := by
   split at hy'
   ·omega
   ·rw [← hcw]; exact (List.getElem?_eq_some_iff.1 hy').1
  by_cases hr' : off ≤ k' ∧ k' < off + vs.length
  ·rw [if_pos hr'] at hy'
   rw [if_pos (by omega)]
   have hlt' : k' - off < ws.length := by omega
   refine ⟨ws[k' - off], ?_, hv _ _ _ hy' (by simp [hlt'])⟩
   have : o + i * w + k' - (o + i * w + off) = k' - off := by omega
   rw [this]; simp [hlt']
  ·rw [if_neg hr'] at hy'
   rw [if_neg (by omega)]
   exact (h i c hc).2 k' y hy'
 ·rw [if_neg hij] at hd
  refine ⟨(h j d hd).1, fun k' y hy' => ?_⟩
  rw [e3, if_neg ?_]
  ·exact (h j d hd).2 k' y hy'
  ·have hk' : k' < w := by rw [← (h j d hd).1]; exact (List.getElem?_eq_some_iff.1 hy').1
   intro hcon
   rcases Nat.lt_or_gt_of_ne hij with hlt2 | hlt2
   ·have := Nat.mul_le_mul_right w (show i + 1 ≤ j by omega)
    rw [Nat.add_mul] at this; omega
   ·have := Nat.mul_le_mul_right w (show j + 1 ≤ i by omega)
    rw [Nat.add_mul] at this; omega
end
end Go.AM
set_option linter.all false
set_option maxRecDepth 10000
namespace Go.AM
/-! rows of rows: made, given rows, made values -/
section
variable {Z : ZM} {om : Om} {HG : GHp} {H : Heap}
end
section
variable {A : AProg} {L : GFr} {HG : GHp} {l : List AOper} {Q : GFr → GHp → Prop}
end
end Go.AM
set_option linter.all false
set_option maxRecDepth 10000
namespace Go.AM
section
variable {Z : ZM} {om : Om} {HG : GHp} {H : Heap}
end
section
variable {A : AProg} {L : GFr} {HG : GHp} {l : List AOper}
end
/-! rows of rows become values -/
section
variable {Z : ZM} {om : Om} {HG : GHp} {H : Heap}
end
section
variable {A : AProg} {L : GFr} {HG : GHp} {l : List AOper}
end
end Go.AM
set_option linter.all false
set_option maxRecDepth 10000
namespace Go.AM
/-! square tables of yes and no -/
section
variable {A : AProg} {L : GFr} {HG : GHp} {l : List AOper} {Q : GFr → GHp → Prop}
end
end Go.AM
namespace Go.AM
end Go.AM
set_option linter.all false
set_option maxRecDepth 10000
namespace Go.AM
section
variable {Z : ZM} {om : Om} {HG : GHp} {H : Heap}
end
section
variable {A : AProg} {L : GFr} {HG : GHp} {l : List AOper} {Q : GFr → GHp → Prop}
def SrcR (HG : GHp) (L : GFr) (w : Nat) (y : AX) (ds : List (List GV)) : Prop :=
 ∀ Z om fr H, GRel Z om HG H → FR Z om L fr → ∃ t news, evX fr y = some t ∧ newsOf H w t = some (ds.length, news) ∧ news.length = ds.length * w ∧ ArrAt Z news 0 w ds
theorem SrcR.of {w : Nat} {y : AX} {v : GV} {ds : List (List GV)} (hy : lkGX L y = some v) (hs : srcG HG w v = some ds) : SrcR HG L w y ds := fun Z om fr H hr hf => by
 obtain ⟨t, k1, k2⟩ := hf.x hy
 obtain ⟨news, n1, n2, n3⟩ := src_ok hr k2 hs
 exact ⟨t, news, k1, n1, n2, n3⟩
theorem ArrAt.any {Z : ZM} {cells : List AV} {o w k : Nat} {cs : List (List GV)} (h : ArrAt Z cells o w cs) : ArrAt Z cells o w (cs.map fun c => c.set k .any) := fun i c e => by
 rw [List.getElem?_map] at e
 cases hx : cs[i]? with
 | none => rw [hx] at e; cases e
 | some y =>
   rw [hx] at e; cases e
   refine ⟨by rw [List.length_set]; exact (h i y hx).1, fun j x e' => ?_⟩
   rw [List.getElem?_set] at e'
   split at e'
   ·rename_i c
    subst c
    split at e'
    ·rename_i hj
     cases e'
     obtain ⟨a, h1, _⟩ := (h i y hx).2 k y[k] (by simp [hj])
     exact ⟨a, h1, .any⟩
    ·cases e'
   ·exact (h i y hx).2 j x e'
end
end Go.AM
set_option linter.all false
set_option maxRecDepth 10000
namespace Go.AM
section
variable {Z : ZM} {om : Om} {HG : GHp} {H : Heap}
end
section
variable {A : AProg} {L : GFr} {HG : GHp} {l : List AOper} {Q : GFr → GHp → Prop}
end
end Go.AM
set_option linter.all false
set_option maxRecDepth 10000
namespace Go.AM
section
variable {A : AProg} {L : GFr} {HG : GHp} {l : List AOper} {Q : GFr → GHp → Prop}
end
theorem ArrAt.cpy {Z : ZM} {cells bs news : List AV} {o w n : Nat} {cs ds : List (List GV)} (c8 : ArrAt Z cells o w cs) (n3 : ArrAt Z news 0 w (ds.take (n + 1))) (n2 : news.length = (n + 1) * w) (hm : min ds.length cs.length = n + 1)
 (e3 : ∀ i, bs[i]? = if o ≤ i ∧ i < o + news.length then news[i - o]? else cells[i]?) : ArrAt Z bs o w (ds.take cs.length ++ cs.drop ds.length) := fun i c e => by
 by_cases hi : i < n + 1
 ·have e' : (ds.take (n + 1))[i]? = some c := by
   rw [List.getElem?_append_left (by rw [List.length_take]; omega), List.getElem?_take, if_pos (by omega)] at e
   rw [List.getElem?_take, if_pos hi]; exact e
  refine ⟨(n3 i c e').1, fun k x ek => ?_⟩
  obtain ⟨a, q1, q2⟩ := (n3 i c e').2 k x ek
  have hk : k < w := by rw [← (n3 i c e').1]; exact (List.getElem?_eq_some_iff.1 ek).1
  have := Nat.mul_le_mul_right w (show i + 1 ≤ n + 1 by omega)
  rw [Nat.add_mul] at this
  refine ⟨a, ?_, q2⟩
  rw [e3, if_pos (by omega), ← q1]; congr 1; omega
 ·have e' : cs[i]? = some c := by
   rw [List.getElem?_append_right (by rw [List.length_take]; omega), List.getElem?_drop, List.length_take] at e
   have hcl : i < cs.length := by
    have := (List.getElem?_eq_some_iff.1 e).1
    omega
   rw [← e]; congr 1; omega
  refine ⟨(c8 i c e').1, fun k x ek => ?_⟩
  obtain ⟨a, q1, q2⟩ := (c8 i c e').2 k x ek
  have := Nat.mul_le_mul_right w (show n + 1 ≤ i by omega)
  refine ⟨a, ?_, q2⟩
  rw [e3, if_neg (by omega)]; exact q1
section
variable {A : AProg} {L : GFr} {HG : GHp} {l : List AOper} {Q : GFr → GHp → Prop}
end
end Go.AM
set_option linter.all false
set_option maxRecDepth 10000
namespace Go.AM
section
variable {A : AProg} {l : List AOper} {L : GFr} {HG : GHp} {Q : GFr → GHp → Prop}
theorem VR.ifc_inv2 {Z : ZM} {om : Om} {t : Nat} {c : GV} {a : AV} (h : VR Z om (.ifc t c) a) : ∃ b, a = .ifc t b ∧ VR Z om c b := by
 cases h with
 | pure h => cases h with
   | ifc h => exact ⟨_, rfl, .pure h⟩
 | ifc h => exact ⟨_, rfl, h⟩
theorem G.mkifc {d t : Nat} {x : AX} {v : GV} (hx : lkGX L x = some v) (k : WpOpsG A l ((d, .ifc t v) :: L) HG Q) : WpOpsG A (⟨some d, .mkifc t x, none⟩ :: l) L HG Q :=
 WpOpsG.pure (d := some d) (fun Z om fr H hr hf => by
  obtain ⟨u, h1, h2⟩ := hf.x hx
  exact ⟨.ifc t u, by simp only [evOp, h1], .ifc h2⟩) k
theorem G.asrt {d t : Nat} {x : AX} {v : GV} (hx : lkGX L x = some (.ifc t v)) (k : WpOpsG A l ((d, v) :: L) HG Q) : WpOpsG A (⟨some d, .asrt t x, none⟩ :: l) L HG Q :=
 WpOpsG.pure (d := some d) (fun Z om fr H hr hf => by
  obtain ⟨u, h1, h2⟩ := hf.x hx
  obtain ⟨b, rfl, h3⟩ := h2.ifc_inv2
  exact ⟨b, by simp only [evOp, h1, if_pos], h3⟩) k
theorem G.invk {d : Option Nat} {tb : List (Nat × Nat)} {t f : Nat} {x : AX} {xs : List AX} {c : GV} {vs : List GV} {P : GHp} {K : GV → GHp → Prop} (hx0 : lkGX L x = some (.ifc t c)) (hl : tb.lookup t = some f) (hx : lkGXs L xs = some vs)
 (hP : hasP HG P) (h1 : GV.okL P.D (c :: vs) = true) (h2 : cleanH P.D P = true) (hc : WpCallG A f (c :: vs) P K)
 (k : ∀ v H1, K v H1 → newOk P HG H1 = true ∧ WpOpsG A l (putP (stPs P L) d v) (H1 ++ dropP P (stPh P HG)) Q) : WpOpsG A (⟨d, .invk tb x xs, none⟩ :: l) L HG Q :=
 G.callX (fun Z om fr H hr hf => by
  obtain ⟨as, e, v⟩ := hf.xs hx
  obtain ⟨u, e0, v0⟩ := hf.x hx0
  obtain ⟨b, rfl, v1⟩ := v0.ifc_inv2
  exact ⟨b :: as, .cons v1 v, fun h => WpOp.invk e0 hl e h⟩) hP h1 h2 hc k
end
end Go.AM
set_option linter.all false
namespace Go.AM
section
variable {A : AProg} {L : GFr} {HG : GHp} {l : List AOper} {Q : GFr → GHp → Prop}
end
end Go.AM
set_option linter.all false
namespace Go.AM
/-! maps of one's own -/
def encM (l : List (Int × Int)) : List GV := [.v (mapV l)]
def getM (l : List (Int × Int)) (n : Int) : Int := match mapF n l 0 with | some p => p.2 | none => 0
def idxM (l : List (Int × Int)) (n : Int) : Nat := match mapF n l 0 with | some p => p.1 | none => l.length
def entM (l : List (Int × Int)) (n : Int) : List (Int × Int) := match mapF n l 0 with | some _ => l | none => l ++ [(n, 0)]
theorem encM_C {Z : ZM} {om : Om} {l : List (Int × Int)} {as : List AV} (hl : (encM l).length = as.length) (h : ∀ (i : Nat) (c : GV) (a : AV), (encM l)[i]? = some c → as[i]? = some a → VR Z om c a) : as = mapC l := by
 match as, hl, h with
 | [], hl, _ => simp [encM] at hl
 | [a], _, h =>
   obtain rfl := (h 0 _ a rfl rfl).v_inv
   rfl
 | _ :: _ :: _, hl, _ => simp [encM] at hl
theorem encM_V {Z : ZM} {om : Om} (l : List (Int × Int)) (i : Nat) (c : GV) (a : AV) (e : (encM l)[i]? = some c) (f : (mapC l)[i]? = some a) : VR Z om c a := by
 match i, e, f with
 | 0, e, f => cases e; cases f; exact .pure (.v _)
 | i + 1, e, f => simp [encM] at e
theorem encM_len (l : List (Int × Int)) : (encM l).length = (mapC l).length := rfl
def updM (l : List (Int × Int)) (n z : Int) : List (Int × Int) := match mapF n l 0 with | some p => l.set p.1 (n, z) | none => l ++ [(n, z)]
section
variable {A : AProg} {L : GFr} {HG : GHp} {l : List AOper} {Q : GFr → GHp → Prop}
theorem map_ok {Z : ZM} {om : Om} {H : Heap} {fr : T AV} (hr : GRel Z om HG H) (hf : FR Z om L fr) {g : Nat} {x : AX} {m : List (Int × Int)} (hx : lkGX L x = some (.ifc MAPT (.bptr g 0))) (hg : lkP HG g = some (.box (encM m))) :
 ∃ b blk, evX fr x = some (.ifc MAPT (.ptr b 0)) ∧ om g = some (.box b) ∧ H.blks.get b = some blk ∧ mapG H (.ifc MAPT (.ptr b 0)) = some (b, blk, m) := by
 obtain ⟨u, h1, h2⟩ := hf.x hx
 obtain ⟨c, rfl, h3⟩ := h2.ifc_inv2
 obtain ⟨b, hb, rfl⟩ := h3.bptr_inv
 obtain ⟨b', blk, c1, c2, c3, c4, c5⟩ := hr.box hg
 rw [hb] at c1; cases c1
 refine ⟨b, blk, h1, hb, c2, ?_⟩
 have := encM_C c4 c5
 unfold mapG
 simp only [if_true, c2, this, mapD_C]
theorem G.mkmap {d g : Nat} (hg : (lkP HG g).isNone = true) (k : WpOpsG A l ((d, .ifc MAPT (.bptr g 0)) :: L) ((g, .box (encM [])) :: HG) Q) : WpOpsG A (⟨some d, .mkmap, none⟩ :: l) L HG Q :=
 WpOpsG.step (d := some d) (fun Z om fr H hr hf => by
  have hg' : lkP HG g = none := by simpa using hg
  have hle := Om.le_set om g (.box H.next) (hr.dom g hg')
  obtain ⟨r1, r2⟩ := hr.alloc hg' (es := 0) (cs := mapC []) (l := .box H.next) (nb := .box (encM [])) (fun _ h => h.symm)
   (.box (Om.set_self ..) (Heap.alloc_self rfl) rfl rfl fun i c a e f => encM_V _ i c a e f)
  exact WpOp.eval (by simp only [evOp]) ⟨Z, _, r1, hf.mono (.refl _) hle, .ifc (.bptr (Om.set_self ..)), r2⟩) k
theorem G.mlook {d g : Nat} {x y : AX} {m : List (Int × Int)} {n : Int} (hx : lkGX L x = some (.ifc MAPT (.bptr g 0))) (hy : lkGX L y = some (.v (.int .i64 n))) (hg : lkP HG g = some (.box (encM m)))
 (k : WpOpsG A l ((d, .v (.int .i64 (getM m n))) :: L) HG Q) : WpOpsG A (⟨some d, .mlook x y, none⟩ :: l) L HG Q :=
 WpOpsG.pure (d := some d) (fun Z om fr H hr hf => by
  obtain ⟨b, blk, h1, _, _, h4⟩ := map_ok hr hf hx hg
  obtain ⟨u, k1, k2⟩ := hf.x hy
  obtain rfl := k2.v_inv
  refine ⟨.v (.int .i64 (getM m n)), ?_, .pure (.v _)⟩
  simp only [evOp, h1, k1, h4]
  unfold getM
  cases mapF n m 0 <;> rfl) k
theorem G.ment {d g : Nat} {x y : AX} {m : List (Int × Int)} {n : Int} (hx : lkGX L x = some (.ifc MAPT (.bptr g 0))) (hy : lkGX L y = some (.v (.int .i64 n))) (hg : lkP HG g = some (.box (encM m)))
 (k : WpOpsG A l ((d, .tup [.v (.int .i64 (getM m n)), .v (.int .i64 (idxM m n : Int))]) :: L) ((g, .box (encM (entM m n))) :: HG) Q) : WpOpsG A (⟨some d, .ment x y, none⟩ :: l) L HG Q :=
 WpOpsG.step (d := some d) (fun Z om fr H hr hf => by
  obtain ⟨b, blk, h1, hb, c2, h4⟩ := map_ok hr hf hx hg
  obtain ⟨u, k1, k2⟩ := hf.x hy
  obtain rfl := k2.v_inv
  have hid : idOf om g b := idOf_eq hb rfl
  have hv : VR Z om (.tup [.v (.int .i64 (getM m n)), .v (.int .i64 (idxM m n : Int))]) (.tup [.v (.int .i64 (getM m n)), .v (.int .i64 (idxM m n : Int))]) := .tup rfl fun i c a e f => by
   match i, e, f with
   | 0, e, f => cases e; cases f; exact .pure (.v _)
   | 1, e, f => cases e; cases f; exact .pure (.v _)
  cases hF : mapF n m 0 with
  | some p =>
    have e1 : entM m n = m := by unfold entM; rw [hF]
    obtain ⟨r1, r2⟩ := hr.reblk hg (hr.own g _ hg)
    rw [e1]
    refine WpOp.eval (v := .tup [.v (.int .i64 (getM m n)), .v (.int .i64 (idxM m n : Int))]) (H' := H) ?_ ⟨Z, om, r1, hf, hv, r2⟩
    simp only [evOp, h1, k1, h4, hF, getM, idxM]
  | none =>
    have e1 : entM m n = m ++ [(n, 0)] := by unfold entM; rw [hF]
    obtain ⟨r1, r2⟩ := hr.upd (g := g) (by rw [hg]; rfl) hid c2 (cs := mapC (m ++ [(n, 0)])) (nb := .box (encM (m ++ [(n, 0)]))) (.box hb (Heap.upd_self rfl) rfl (encM_len _) fun i c a e f => encM_V _ i c a e f)
    rw [e1]
    refine WpOp.eval (v := .tup [.v (.int .i64 (getM m n)), .v (.int .i64 (idxM m n : Int))]) (H' := H.upd b blk (mapC (m ++ [(n, 0)]))) ?_ ⟨Z, om, r1, hf, hv, r2⟩
    simp only [evOp, h1, k1, h4, hF, getM, idxM]) k
theorem G.mst {g i : Nat} {x y z : AX} {m : List (Int × Int)} {n : Int} {e : Int × Int} (hx : lkGX L x = some (.ifc MAPT (.bptr g 0))) (hy : lkGX L y = some (.v (.int .i64 (i : Int)))) (hz : lkGX L z = some (.v (.int .i64 n))) (hg : lkP HG g = some (.box (encM m))) (he : m[i]? = some e)
 (k : WpOpsG A l L ((g, .box (encM (m.set i (e.1, n)))) :: HG) Q) : WpOpsG A (⟨none, .mst x y z, none⟩ :: l) L HG Q :=
 WpOpsG.step (d := none) (v := .tup []) (fun Z om fr H hr hf => by
  obtain ⟨b, blk, h1, hb, c2, h4⟩ := map_ok hr hf hx hg
  obtain ⟨u, k1, k2⟩ := hf.x hy
  obtain rfl := k2.v_inv
  obtain ⟨u2, j1, j2⟩ := hf.x hz
  obtain rfl := j2.v_inv
  have hid : idOf om g b := idOf_eq hb rfl
  obtain ⟨r1, r2⟩ := hr.upd (g := g) (by rw [hg]; rfl) hid c2 (cs := mapC (m.set i (e.1, n))) (nb := .box (encM (m.set i (e.1, n)))) (.box hb (Heap.upd_self rfl) rfl (encM_len _) fun i c a e f => encM_V _ i c a e f)
  refine WpOp.eval (v := .tup []) (H' := H.upd b blk (mapC (m.set i (e.1, n)))) ?_ ⟨Z, om, r1, hf, .tup (as := []) rfl (fun i c a h => by cases i <;> cases h), r2⟩
  simp only [evOp, h1, k1, j1, h4, Int.toNat_natCast, he]
  rw [if_pos (by omega)]) k
theorem G.mup {g : Nat} {x y z : AX} {m : List (Int × Int)} {n v : Int} (hx : lkGX L x = some (.ifc MAPT (.bptr g 0))) (hy : lkGX L y = some (.v (.int .i64 n))) (hz : lkGX L z = some (.v (.int .i64 v))) (hg : lkP HG g = some (.box (encM m)))
 (k : WpOpsG A l L ((g, .box (encM (updM m n v))) :: HG) Q) : WpOpsG A (⟨none, .mup x y z, none⟩ :: l) L HG Q :=
 WpOpsG.step (d := none) (v := .tup []) (fun Z om fr H hr hf => by
  obtain ⟨b, blk, h1, hb, c2, h4⟩ := map_ok hr hf hx hg
  obtain ⟨u, k1, k2⟩ := hf.x hy
  obtain rfl := k2.v_inv
  obtain ⟨u2, j1, j2⟩ := hf.x hz
  obtain rfl := j2.v_inv
  have hid : idOf om g b := idOf_eq hb rfl
  obtain ⟨r1, r2⟩ := hr.upd (g := g) (by rw [hg]; rfl) hid c2 (cs := mapC (updM m n v)) (nb := .box (encM (updM m n v))) (.box hb (Heap.upd_self rfl) rfl (encM_len _) fun i c a e f => encM_V _ i c a e f)
  refine WpOp.eval (v := .tup []) (H' := H.upd b blk (mapC (updM m n v))) ?_ ⟨Z, om, r1, hf, .tup (as := []) rfl (fun i c a h => by cases i <;> cases h), r2⟩
  simp only [evOp, h1, k1, j1, h4, updM]
  cases mapF n m 0 <;> rfl) k
end
end Go.AM
