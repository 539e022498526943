/- The machine over plain data: rules for each operation, calls. No condition. -/
import Derived.Test.YtkohanehgndmhaaGM2
set_option linter.all false
namespace Go.AM
section
variable {A : AProg} {L : GFr} {HG : GHp} {l : List AOper} {Q : GFr → GHp → Prop}
/-! ## One rule for each operation that does nothing to the heap -/
def GV.cs : GV → Option (List GV)
  | .agg cs => some cs
  | .tup _ => none
  | .any => none
  | x => some [x]
theorem VR.cs {Z : ZM} {om : Om} {g : GV} {a : AV} (h : VR Z om g a) {cs : List GV} (e : g.cs = some cs) : ∃ as, a.cs = some as ∧ cs.length = as.length ∧ ∀ (i : Nat) (c : GV) (x : AV), cs[i]? = some c → as[i]? = some x → VR Z om c x := by
  have one : ∀ {g : GV} {a : AV}, VR Z om g a → g.cs = some [g] → a.cs = some [a] → ∀ cs, g.cs = some cs → ∃ as, a.cs = some as ∧ cs.length = as.length ∧ ∀ (i : Nat) (c : GV) (x : AV), cs[i]? = some c → as[i]? = some x → VR Z om c x := by
    intro g a h e1 e2 cs e
    rw [e1] at e; cases e
    refine ⟨[a], e2, rfl, fun i c x h1 h2 => ?_⟩
    cases i with
    | zero => simp at h1 h2; subst h1; subst h2; exact h
    | succ i => simp at h1
  cases g with
  | agg cs' => cases e; obtain ⟨as, rfl, h1, h2⟩ := h.agg_inv; exact ⟨as, rfl, h1, h2⟩
  | tup _ => cases e
  | any => cases e
  | v x => obtain rfl := h.v_inv; exact one h rfl rfl _ e
  | fn f c => obtain ⟨as, rfl, _⟩ := h.fn_inv; exact one h rfl rfl _ e
  | ifc t x => obtain ⟨as, rfl, _⟩ := h.ifc_inv; exact one h rfl rfl _ e
  | fsl w c =>
    have h' := h.fsl_inv
    cases h' with
    | fsl f h1 h2 h3 h4 h5 h6 h7 => exact one h rfl rfl _ e
    | fnil => exact one h rfl rfl _ e
  | fptr c o =>
    have h' := h.fptr_inv
    cases h' with
    | fptr f h1 h2 h3 => exact one h rfl rfl _ e
  | osl g =>
    rcases h.osl_inv with ⟨_, _, _, _, _, _, _, rfl⟩ | ⟨_, rfl⟩
    · exact one h rfl rfl _ e
    · exact one h rfl rfl _ e
  | bptr g o => obtain ⟨_, _, rfl⟩ := h.bptr_inv; exact one h rfl rfl _ e
  | eptr g i o => obtain ⟨_, _, _, _, _, _, _, rfl⟩ := h.eptr_inv; exact one h rfl rfl _ e

theorem G.mv {d : Nat} {x : AX} {v : GV} (hx : lkGX L x = some v) (k : WpOpsG A l ((d, v) :: L) HG Q) : WpOpsG A (⟨some d, .mv x, none⟩ :: l) L HG Q :=
  WpOpsG.pure (d := some d) (fun Z om fr H _ hf => let ⟨a, h1, h2⟩ := hf.x hx; ⟨a, by simp only [evOp, h1], h2⟩) k
theorem G.pick {d : Nat} {c a b : AX} {q : Bool} {v w : GV} (hc : lkGX L c = some (.v (.bool q))) (ha : lkGX L a = some v) (hb : lkGX L b = some w) (k : WpOpsG A l ((d, if q then v else w) :: L) HG Q) : WpOpsG A (⟨some d, .pick c a b, none⟩ :: l) L HG Q :=
  WpOpsG.pure (d := some d) (v := if q then v else w) (fun Z om fr H _ hf => by
    obtain ⟨u, h1, h2⟩ := hf.x hc
    obtain rfl := h2.v_inv
    obtain ⟨x, a1, a2⟩ := hf.x ha
    obtain ⟨y, b1, b2⟩ := hf.x hb
    cases q
    · exact ⟨y, by simp only [evOp, h1, b1], b2⟩
    · exact ⟨x, by simp only [evOp, h1, a1], a2⟩) k
theorem G.pickT {d : Nat} {c a b : AX} {v : GV} (hc : lkGX L c = some (.v (.bool true))) (ha : lkGX L a = some v) (k : WpOpsG A l ((d, v) :: L) HG Q) : WpOpsG A (⟨some d, .pick c a b, none⟩ :: l) L HG Q :=
  WpOpsG.pure (d := some d) (fun Z om fr H _ hf => by
    obtain ⟨u, h1, h2⟩ := hf.x hc
    obtain rfl := h2.v_inv
    obtain ⟨x, a1, a2⟩ := hf.x ha
    exact ⟨x, by simp only [evOp, h1, a1], a2⟩) k
theorem G.pickF {d : Nat} {c a b : AX} {v : GV} (hc : lkGX L c = some (.v (.bool false))) (hb : lkGX L b = some v) (k : WpOpsG A l ((d, v) :: L) HG Q) : WpOpsG A (⟨some d, .pick c a b, none⟩ :: l) L HG Q :=
  WpOpsG.pure (d := some d) (fun Z om fr H _ hf => by
    obtain ⟨u, h1, h2⟩ := hf.x hc
    obtain rfl := h2.v_inv
    obtain ⟨x, a1, a2⟩ := hf.x hb
    exact ⟨x, by simp only [evOp, h1, a1], a2⟩) k
theorem G.bin {d : Nat} {o : BinOp} {x y : AX} {a b r : Value} (hx : lkGX L x = some (.v a)) (hy : lkGX L y = some (.v b)) (hr : binV o a b = some r) (k : WpOpsG A l ((d, .v r) :: L) HG Q) : WpOpsG A (⟨some d, .bin o x y, none⟩ :: l) L HG Q :=
  WpOpsG.pure (d := some d) (fun Z om fr H _ hf => by
    obtain ⟨u, h1, h2⟩ := hf.x hx
    obtain rfl := h2.v_inv
    obtain ⟨w, k1, k2⟩ := hf.x hy
    obtain rfl := k2.v_inv
    exact ⟨.v r, by simp only [evOp, h1, k1, hr], .pure (.v _)⟩) k
theorem G.un {d : Nat} {o : UnOp} {x : AX} {a r : Value} (hx : lkGX L x = some (.v a)) (hr : unV o a = some r) (k : WpOpsG A l ((d, .v r) :: L) HG Q) : WpOpsG A (⟨some d, .un o x, none⟩ :: l) L HG Q :=
  WpOpsG.pure (d := some d) (fun Z om fr H _ hf => by
    obtain ⟨u, h1, h2⟩ := hf.x hx
    obtain rfl := h2.v_inv
    exact ⟨.v r, by simp only [evOp, h1, hr], .pure (.v _)⟩) k
theorem G.convi {d : Nat} {k k' : IntKind} {x : AX} {n : Int} (hx : lkGX L x = some (.v (.int k' n))) (h : WpOpsG A l ((d, .v (.int k (k.wrap n))) :: L) HG Q) : WpOpsG A (⟨some d, .convi k x, none⟩ :: l) L HG Q :=
  WpOpsG.pure (d := some d) (fun Z om fr H _ hf => by
    obtain ⟨u, h1, h2⟩ := hf.x hx
    obtain rfl := h2.v_inv
    exact ⟨_, by simp only [evOp, h1], .pure (.v _)⟩) h
theorem G.convss {d : Nat} {x : AX} {s : ByteArray} (hx : lkGX L x = some (.v (.string s))) (h : WpOpsG A l ((d, .v (.string s)) :: L) HG Q) : WpOpsG A (⟨some d, .convss x, none⟩ :: l) L HG Q :=
  WpOpsG.pure (d := some d) (fun Z om fr H _ hf => by
    obtain ⟨u, h1, h2⟩ := hf.x hx
    obtain rfl := h2.v_inv
    exact ⟨_, by simp only [evOp, h1], .pure (.v _)⟩) h
theorem G.mn {d : Nat} {x y : AX} {k k' : IntKind} {a b : Int} (hx : lkGX L x = some (.v (.int k a))) (hy : lkGX L y = some (.v (.int k' b))) (h : WpOpsG A l ((d, .v (.int k (min a b))) :: L) HG Q) : WpOpsG A (⟨some d, .mn x y, none⟩ :: l) L HG Q :=
  WpOpsG.pure (d := some d) (fun Z om fr H _ hf => by
    obtain ⟨u, h1, h2⟩ := hf.x hx
    obtain rfl := h2.v_inv
    obtain ⟨w, k1, k2⟩ := hf.x hy
    obtain rfl := k2.v_inv
    have : (if b < a then b else a) = min a b := by split <;> omega
    exact ⟨.v (.int k (min a b)), by simp only [evOp, h1, k1, this], .pure (.v _)⟩) h
theorem G.mx {d : Nat} {x y : AX} {k k' : IntKind} {a b : Int} (hx : lkGX L x = some (.v (.int k a))) (hy : lkGX L y = some (.v (.int k' b))) (h : WpOpsG A l ((d, .v (.int k (max a b))) :: L) HG Q) : WpOpsG A (⟨some d, .mx x y, none⟩ :: l) L HG Q :=
  WpOpsG.pure (d := some d) (fun Z om fr H _ hf => by
    obtain ⟨u, h1, h2⟩ := hf.x hx
    obtain rfl := h2.v_inv
    obtain ⟨w, k1, k2⟩ := hf.x hy
    obtain rfl := k2.v_inv
    have : (if b > a then b else a) = max a b := by split <;> omega
    exact ⟨.v (.int k (max a b)), by simp only [evOp, h1, k1, this], .pure (.v _)⟩) h
theorem G.ext {d i : Nat} {x : AX} {vs : List GV} {v : GV} (hx : lkGX L x = some (.tup vs)) (hv : vs[i]? = some v) (k : WpOpsG A l ((d, v) :: L) HG Q) : WpOpsG A (⟨some d, .ext x i, none⟩ :: l) L HG Q :=
  WpOpsG.pure (d := some d) (fun Z om fr H _ hf => by
    obtain ⟨u, h1, h2⟩ := hf.x hx
    obtain ⟨as, rfl, k1, k2⟩ := h2.tup_inv
    have hi : i < as.length := by rw [← k1]; exact (List.getElem?_eq_some_iff.1 hv).1
    exact ⟨as[i], by simp only [evOp, h1, List.getElem?_eq_getElem hi], k2 i v _ hv (by simp [hi])⟩) k
theorem G.field1 {d off : Nat} {x : AX} {cs : List GV} {v : GV} (hx : lkGX L x = some (.agg cs)) (hv : cs[off]? = some v) (k : WpOpsG A l ((d, v) :: L) HG Q) : WpOpsG A (⟨some d, .field1 off x, none⟩ :: l) L HG Q :=
  WpOpsG.pure (d := some d) (fun Z om fr H _ hf => by
    obtain ⟨u, h1, h2⟩ := hf.x hx
    obtain ⟨as, rfl, k1, k2⟩ := h2.agg_inv
    have hi : off < as.length := by rw [← k1]; exact (List.getElem?_eq_some_iff.1 hv).1
    exact ⟨as[off], by simp only [evOp, h1, List.getElem?_eq_getElem hi], k2 off v _ hv (by simp [hi])⟩) k
def takeG : Nat → List GV → Option (List GV)
  | 0, _ => some []
  | n + 1, v :: vs => match takeG n vs with | some r => some (v :: r) | none => none
  | _ + 1, [] => none
theorem takeG_ok {P : GV → AV → Prop} : ∀ {n : Nat} {cs vs : List GV} {as : List AV}, takeG n cs = some vs → cs.length ≤ as.length → (∀ (i : Nat) (c : GV) (a : AV), cs[i]? = some c → as[i]? = some a → P c a) →
    ∃ ws, takeN n as = some ws ∧ vs.length = ws.length ∧ ∀ (i : Nat) (c : GV) (a : AV), vs[i]? = some c → ws[i]? = some a → P c a
  | 0, cs, vs, as, h, _, _ => by cases h; exact ⟨[], by simp [takeN], rfl, fun i c a e => by cases i <;> cases e⟩
  | n + 1, [], vs, as, h, _, _ => by cases h
  | n + 1, c :: cs, vs, [], h, hl, _ => by simp at hl
  | n + 1, c :: cs, vs, a :: as, h, hl, hp => by
    rw [takeG] at h
    cases hr : takeG n cs with
    | none => rw [hr] at h; cases h
    | some r =>
      rw [hr] at h
      cases h
      obtain ⟨ws, h1, h2, h3⟩ := takeG_ok (as := as) hr (by simpa using hl) (fun i c a e f => hp (i + 1) c a (by simpa using e) (by simpa using f))
      refine ⟨a :: ws, by simp [takeN, h1], by simp [h2], fun i c' a' e f => ?_⟩
      cases i with
      | zero => simp at e f; subst e; subst f; exact hp 0 _ _ rfl rfl
      | succ i => exact h3 i c' a' (by simpa using e) (by simpa using f)
theorem G.fieldN {d off n : Nat} {x : AX} {cs vs : List GV} (hx : lkGX L x = some (.agg cs)) (hv : takeG n (cs.drop off) = some vs) (k : WpOpsG A l ((d, .agg vs) :: L) HG Q) : WpOpsG A (⟨some d, .fieldN off n x, none⟩ :: l) L HG Q :=
  WpOpsG.pure (d := some d) (fun Z om fr H _ hf => by
    obtain ⟨u, h1, h2⟩ := hf.x hx
    obtain ⟨as, rfl, k1, k2⟩ := h2.agg_inv
    obtain ⟨ws, g1, g2, g3⟩ := takeG_ok (as := as.drop off) (P := VR Z om) hv (by simp [k1]) (fun i c a e f => k2 (off + i) c a (by simpa using e) (by simpa using f))
    exact ⟨.agg ws, by simp only [evOp, h1, g1], .agg g2 g3⟩) k
/-- values written into a row of cells -/
def putG : List GV → Nat → List GV → Option (List GV)
  | cs, 0, [] => some cs
  | _ :: cs, 0, v :: vs => match putG cs 0 vs with | some r => some (v :: r) | none => none
  | c :: cs, o + 1, vs => match putG cs o vs with | some r => some (c :: r) | none => none
  | [], 0, _ :: _ => none
  | [], _ + 1, _ => none
theorem putG_ok {P : GV → AV → Prop} : ∀ {cs : List GV} {o : Nat} {vs r : List GV} {as ws : List AV}, putG cs o vs = some r → cs.length = as.length → vs.length = ws.length →
    (∀ (i : Nat) (c : GV) (a : AV), cs[i]? = some c → as[i]? = some a → P c a) → (∀ (i : Nat) (c : GV) (a : AV), vs[i]? = some c → ws[i]? = some a → P c a) →
    ∃ bs, putAt as o ws = some bs ∧ r.length = bs.length ∧ ∀ (i : Nat) (c : GV) (a : AV), r[i]? = some c → bs[i]? = some a → P c a
  | cs, 0, [], r, as, [], h, hl, _, hp, _ => by
    have : r = cs := by cases cs <;> simpa [putG] using h.symm
    subst this
    exact ⟨as, by cases as <;> rfl, hl, hp⟩
  | _, _, [], _, _, _ :: _, _, _, hl, _, _ => by simp at hl
  | _, _, _ :: _, _, _, [], _, _, hl, _, _ => by simp at hl
  | [], 0, _ :: _, _, _, _, h, _, _, _, _ => by simp [putG] at h
  | [], _ + 1, _, _, _, _, h, _, _, _, _ => by simp [putG] at h
  | _ :: _, _, _, _, [], _, _, hl, _, _, _ => by simp at hl
  | c :: cs, 0, v :: vs, r, a :: as, w :: ws, h, hl, hm, hp, hq => by
    rw [putG] at h
    cases hr : putG cs 0 vs with
    | none => rw [hr] at h; cases h
    | some r' =>
      rw [hr] at h
      cases h
      obtain ⟨bs, h1, h2, h3⟩ := putG_ok (as := as) (ws := ws) hr (by simpa using hl) (by simpa using hm) (fun i c a e f => hp (i + 1) c a (by simpa using e) (by simpa using f)) (fun i c a e f => hq (i + 1) c a (by simpa using e) (by simpa using f))
      refine ⟨w :: bs, by simp [putAt, h1], by simp [h2], fun i c' a' e f => ?_⟩
      cases i with
      | zero => simp at e f; subst e; subst f; exact hq 0 _ _ rfl rfl
      | succ i => exact h3 i c' a' (by simpa using e) (by simpa using f)
  | c :: cs, o + 1, vs, r, a :: as, ws, h, hl, hm, hp, hq => by
    rw [putG] at h
    cases hr : putG cs o vs with
    | none => rw [hr] at h; cases h
    | some r' =>
      rw [hr] at h
      cases h
      obtain ⟨bs, h1, h2, h3⟩ := putG_ok (as := as) (ws := ws) hr (by simpa using hl) hm (fun i c a e f => hp (i + 1) c a (by simpa using e) (by simpa using f)) hq
      refine ⟨a :: bs, by simp [putAt, h1], by simp [h2], fun i c' a' e f => ?_⟩
      cases i with
      | zero => simp at e f; subst e; subst f; exact hp 0 _ _ rfl rfl
      | succ i => exact h3 i c' a' (by simpa using e) (by simpa using f)
def fillG (L : GFr) (cs : List GV) : List (Nat × Nat × AX) → Option (List GV)
  | [] => some cs
  | (o, s, x) :: r => match lkGX L x with
    | some v => match v.cs with
      | some vs => match Nat.beq vs.length s with
        | true => match putG cs o vs with
          | some cs => fillG L cs r
          | none => none
        | false => none
      | none => none
    | none => none
theorem fillG_ok {Z : ZM} {om : Om} {fr : T AV} (hf : FR Z om L fr) : ∀ {ps : List (Nat × Nat × AX)} {cs r : List GV} {as : List AV}, fillG L cs ps = some r → cs.length = as.length →
    (∀ (i : Nat) (c : GV) (a : AV), cs[i]? = some c → as[i]? = some a → VR Z om c a) → ∃ bs, fillA fr as ps = some bs ∧ r.length = bs.length ∧ ∀ (i : Nat) (c : GV) (a : AV), r[i]? = some c → bs[i]? = some a → VR Z om c a
  | [], cs, r, as, h, hl, hp => by cases h; exact ⟨as, rfl, hl, hp⟩
  | (o, s, x) :: ps, cs, r, as, h, hl, hp => by
    rw [fillG] at h
    cases hx : lkGX L x with
    | none => simp only [hx] at h; cases h
    | some v =>
      simp only [hx] at h
      cases hv : v.cs with
      | none => simp only [hv] at h; cases h
      | some vs =>
        simp only [hv] at h
        cases hb : Nat.beq vs.length s with
        | false => simp only [hb] at h; cases h
        | true =>
          simp only [hb] at h
          cases hq : putG cs o vs with
          | none => simp only [hq] at h; cases h
          | some cs' =>
            simp only [hq] at h
            obtain ⟨a, a1, a2⟩ := hf.x hx
            obtain ⟨ws, b1, b2, b3⟩ := a2.cs hv
            obtain ⟨bs, c1, c2, c3⟩ := putG_ok hq hl b2 hp b3
            obtain ⟨ds, d1, d2, d3⟩ := fillG_ok hf h c2 c3
            refine ⟨ds, ?_, d2, d3⟩
            have hs : ws.length = s := by rw [← b2]; exact Nat.eq_of_beq_eq_true hb
            simp only [fillA, a1, b1, hs, if_true, c1, d1]
theorem G.build {d : Nat} {z : List AV} {ps : List (Nat × Nat × AX)} {cs : List GV} (e : fillG L (cvt.cvts z) ps = some cs) (k : WpOpsG A l ((d, .agg cs) :: L) HG Q) : WpOpsG A (⟨some d, .build z ps, none⟩ :: l) L HG Q :=
  WpOpsG.pure (d := some d) (fun Z om fr H _ hf => by
    obtain ⟨bs, h1, h2, h3⟩ := fillG_ok hf e (cvts_ok (Z := Z) (om := om) z).1 (cvts_ok z).2
    exact ⟨.agg bs, by simp only [evOp, h1], .agg h2 h3⟩) k
/-- comparing -/
def cellsEqG : List SK → List GV → List GV → Option Bool
  | [], [], [] => some true
  | k :: ks, (.v a) :: r, (.v b) :: s => match scalarEq k a b with
    | some p => match cellsEqG ks r s with
      | some q => some (p && q)
      | none => none
    | none => none
  | _, _, _ => none
theorem cellsEqG_ok {Z : ZM} {om : Om} : ∀ {ks : List SK} {xs ys : List GV} {as bs : List AV} {r : Bool}, cellsEqG ks xs ys = some r → xs.length = as.length → ys.length = bs.length →
    (∀ (i : Nat) (c : GV) (a : AV), xs[i]? = some c → as[i]? = some a → VR Z om c a) → (∀ (i : Nat) (c : GV) (a : AV), ys[i]? = some c → bs[i]? = some a → VR Z om c a) → cellsEq ks as bs = some r
  | [], [], [], as, bs, r, h, h1, h2, _, _ => by
    cases h
    cases as <;> cases bs <;> simp at h1 h2
    rfl
  | k :: ks, x :: xs, y :: ys, [], _, _, _, h1, _, _, _ => by simp at h1
  | k :: ks, x :: xs, y :: ys, _, [], _, _, _, h2, _, _ => by simp at h2
  | k :: ks, x :: xs, y :: ys, a :: as, b :: bs, r, h, h1, h2, p, q => by
    cases x <;> cases y <;> try (simp [cellsEqG] at h; done)
    rename_i u w
    have ha := (p 0 _ a rfl rfl).v_inv
    have hb := (q 0 _ b rfl rfl).v_inv
    subst ha; subst hb
    rw [cellsEqG] at h
    rw [cellsEq]
    cases hs : scalarEq k u w with
    | none => rw [hs] at h; cases h
    | some t =>
      rw [hs] at h
      simp only [] at h ⊢
      cases hr : cellsEqG ks xs ys with
      | none => rw [hr] at h; cases h
      | some t' =>
        rw [hr] at h
        cases h
        have ih := cellsEqG_ok (as := as) (bs := bs) hr (by simpa using h1) (by simpa using h2) (fun i c a e f => p (i + 1) c a (by simpa using e) (by simpa using f)) (fun i c a e f => q (i + 1) c a (by simpa using e) (by simpa using f))
        cases t
        · rfl
        · simpa using ih
  | [], _ :: _, _, _, _, _, h, _, _, _, _ => by simp [cellsEqG] at h
  | [], [], _ :: _, _, _, _, h, _, _, _, _ => by simp [cellsEqG] at h
  | _ :: _, [], _, _, _, _, h, _, _, _, _ => by simp [cellsEqG] at h
  | _ :: _, _ :: _, [], _, _, _, h, _, _, _, _ => by simp [cellsEqG] at h
def gEq (agg : Bool) (ks : List SK) (x y : GV) : Option Bool :=
  match agg, x, y with
  | false, .v a, .v b => scalarEq .b a b
  | true, .agg a, .agg b => cellsEqG ks a b
  | _, _, _ => none
theorem G.beq {d : Nat} {neq agg : Bool} {ks : List SK} {x y : AX} {a b : GV} {r : Bool} (hx : lkGX L x = some a) (hy : lkGX L y = some b) (hr : gEq agg ks a b = some r) (k : WpOpsG A l ((d, .v (.bool (xor neq r))) :: L) HG Q) : WpOpsG A (⟨some d, .beq neq agg ks x y, none⟩ :: l) L HG Q :=
  WpOpsG.pure (d := some d) (fun Z om fr H _ hf => by
    obtain ⟨u, h1, h2⟩ := hf.x hx
    obtain ⟨w, k1, k2⟩ := hf.x hy
    have : avEq agg ks u w = some r := by
      cases agg with
      | false =>
        cases a <;> cases b <;> try (simp [gEq] at hr; done)
        obtain rfl := h2.v_inv
        obtain rfl := k2.v_inv
        exact hr
      | true =>
        cases a <;> cases b <;> try (simp [gEq] at hr; done)
        obtain ⟨as, rfl, a1, a2⟩ := h2.agg_inv
        obtain ⟨bs, rfl, b1, b2⟩ := k2.agg_inv
        exact cellsEqG_ok hr a1 b1 a2 b2
    exact ⟨_, by simp only [evOp, h1, k1, this], .pure (.v _)⟩) k
theorem G.lenF {d w : Nat} {x : AX} {cs : List (List GV)} (hx : lkGX L x = some (.fsl w cs)) (k : WpOpsG A l ((d, .v (.int .i64 cs.length)) :: L) HG Q) : WpOpsG A (⟨some d, .len false x, none⟩ :: l) L HG Q :=
  WpOpsG.pure (d := some d) (fun Z om fr H _ hf => by
    obtain ⟨u, h1, h2⟩ := hf.x hx
    cases h2.fsl_inv with
    | fsl f c1 c2 c3 c4 c5 c6 c7 => subst c3; exact ⟨_, by simp only [evOp, h1], .pure (.v _)⟩
    | fnil => exact ⟨.v (.int .i64 0), by simp only [evOp, h1], .pure (.v _)⟩) k
theorem G.lenM {d w : Nat} {x : AX} {α : Type} {enc : α → List GV} {xs : List α} (hx : lkGX L x = some (.fsl w (xs.map enc))) (k : WpOpsG A l ((d, .v (.int .i64 xs.length)) :: L) HG Q) : WpOpsG A (⟨some d, .len false x, none⟩ :: l) L HG Q :=
  G.lenF hx (by rw [List.length_map]; exact k)
theorem G.lenStr {d : Nat} {x : AX} {s : ByteArray} (hx : lkGX L x = some (.v (.string s))) (k : WpOpsG A l ((d, .v (.int .i64 (s.size : Int))) :: L) HG Q) : WpOpsG A (⟨some d, .len true x, none⟩ :: l) L HG Q :=
  WpOpsG.pure (d := some d) (fun Z om fr H _ hf => by
    obtain ⟨u, h1, h2⟩ := hf.x hx
    obtain rfl := h2.v_inv
    exact ⟨_, by simp only [evOp, h1], .pure (.v _)⟩) k
theorem G.lenNil {d : Nat} {x : AX} (hx : lkGX L x = some (.v (.slice none 0 0))) (k : WpOpsG A l ((d, .v (.int .i64 0)) :: L) HG Q) : WpOpsG A (⟨some d, .len false x, none⟩ :: l) L HG Q :=
  WpOpsG.pure (d := some d) (fun Z om fr H _ hf => by
    obtain ⟨u, h1, h2⟩ := hf.x hx
    obtain rfl := h2.v_inv
    exact ⟨_, by simp only [evOp, h1], .pure (.v _)⟩) k
theorem G.sidx {d : Nat} {x i : AX} {s : ByteArray} {k' : IntKind} {n : Int} {b : UInt8} (hx : lkGX L x = some (.v (.string s))) (hi : lkGX L i = some (.v (.int k' n))) (h0 : 0 ≤ n) (hb : s.data.toList[n.toNat]? = some b) (k : WpOpsG A l ((d, .v (.int .u8 b.toNat)) :: L) HG Q) : WpOpsG A (⟨some d, .sidx x i, none⟩ :: l) L HG Q :=
  WpOpsG.pure (d := some d) (fun Z om fr H _ hf => by
    obtain ⟨u, h1, h2⟩ := hf.x hx
    obtain rfl := h2.v_inv
    obtain ⟨w, k1, k2⟩ := hf.x hi
    obtain rfl := k2.v_inv
    exact ⟨_, by simp only [evOp, h1, k1, if_pos h0, hb], .pure (.v _)⟩) k
def bndG (L : GFr) (d hi : Nat) : Option AX → Option Nat
  | none => some d
  | some x => match lkGX L x with
    | some (.v (.int _ n)) => natOf n hi
    | _ => none
theorem bndG_ok {Z : ZM} {om : Om} {fr : T AV} (hf : FR Z om L fr) {d hi n : Nat} : ∀ {x : Option AX}, bndG L d hi x = some n → boundX fr d hi x = some n
  | none, h => h
  | some x, h => by
    rw [bndG] at h
    cases hx : lkGX L x with
    | none => rw [hx] at h; cases h
    | some v =>
      rw [hx] at h
      cases v <;> try (cases h; done)
      rename_i y
      obtain ⟨a, h1, h2⟩ := hf.x hx
      obtain rfl := h2.v_inv
      cases y <;> try (cases h; done)
      rw [boundX, h1]; exact h
theorem bnd_lt {L : GFr} {d hi n : Nat} {x : Option AX} (h : bndG L d hi x = some n) (hd : d ≤ hi) : n ≤ hi := by
  cases x with
  | none => cases h; exact hd
  | some x =>
    rw [bndG] at h
    split at h
    · unfold natOf at h; split at h
      · cases h; omega
      · cases h
    · cases h
theorem G.sstr {d lo hi : Nat} {x : AX} {xl xh : Option AX} {s : ByteArray} (hx : lkGX L x = some (.v (.string s))) (hh : bndG L s.size s.size xh = some hi) (hl : bndG L 0 hi xl = some lo) (k : WpOpsG A l ((d, .v (.string (s.extract lo hi))) :: L) HG Q) : WpOpsG A (⟨some d, .sstr x xl xh, none⟩ :: l) L HG Q :=
  WpOpsG.pure (d := some d) (fun Z om fr H _ hf => by
    obtain ⟨u, h1, h2⟩ := hf.x hx
    obtain rfl := h2.v_inv
    exact ⟨_, by simp only [evOp, h1, bndG_ok hf hh, bndG_ok hf hl], .pure (.v _)⟩) k
/-- a part of a slice that is never written -/
theorem G.slF {d w lo hi : Nat} {x : AX} {xl xh : Option AX} {cs : List (List GV)} (hx : lkGX L x = some (.fsl w cs)) (hh : bndG L cs.length cs.length xh = some hi) (hl : bndG L 0 hi xl = some lo) (k : WpOpsG A l ((d, .fsl w ((cs.take hi).drop lo)) :: L) HG Q) : WpOpsG A (⟨some d, .slice w x xl xh, none⟩ :: l) L HG Q :=
  WpOpsG.pure (d := some d) (fun Z om fr H hr hf => by
    obtain ⟨u, h1, h2⟩ := hf.x hx
    have hhi : hi ≤ cs.length := bnd_lt hh (Nat.le_refl _)
    have hlo : lo ≤ hi := bnd_lt hl (Nat.zero_le _)
    cases h2.fsl_inv with
    | @fsl _ b off len cap ex _ zb f c1 c2 c3 c4 c5 c6 c7 =>
      subst c3
      obtain ⟨_, blk, e1, e2, e3⟩ := hr.zok _ _ c1
      have hh' : boundX fr cs.length cap xh = some hi := by
        have := bndG_ok hf hh
        cases xh with
        | none => exact this
        | some y =>
          rw [boundX] at this ⊢
          split at this
          · rename_i hy; unfold natOf at this ⊢; split at this
            · rename_i hc; rw [if_pos (by omega)]; exact this
            · cases this
          · cases this
      refine ⟨.sl b (off + lo * w) (hi - lo) (cap - lo) ex, ?_, .pure ?_⟩
      · simp only [evOp, h1, hh', bndG_ok hf hl, e1, e3, c2, if_true]
      · refine PR.fsl (fun i k => f (lo + i) k) c1 c2 (by simp; omega) (by omega) (fun c hc => c5 c (List.mem_of_mem_take (List.mem_of_mem_drop hc))) (fun i k c x hi' hk => ?_) (fun i k c x hi' hk => ?_)
        · rw [List.getElem?_drop, List.getElem?_take] at hi'
          split at hi'
          · rw [← c6 (lo + i) k c x hi' hk]; congr 1; rw [Nat.add_mul]; omega
          · cases hi'
        · rw [List.getElem?_drop, List.getElem?_take] at hi'
          split at hi'
          · exact c7 (lo + i) k c x hi' hk
          · cases hi'
    | fnil =>
      simp only [List.length_nil] at hh hhi
      obtain rfl : hi = 0 := by omega
      have hh' : boundX fr 0 0 xh = some 0 := bndG_ok hf hh
      have hl' : boundX fr 0 0 xl = some lo := bndG_ok hf hl
      refine ⟨.v (.slice none 0 0), ?_, .pure (by simpa using PR.fnil)⟩
      simp only [evOp, h1, hh', hl']) k
theorem G.iaddrF {d w : Nat} {x i : AX} {cs : List (List GV)} {k' : IntKind} {m : Int} {c : List GV} (hx : lkGX L x = some (.fsl w cs)) (hi : lkGX L i = some (.v (.int k' m))) (h0 : 0 ≤ m) (hc : cs[m.toNat]? = some c) (k : WpOpsG A l ((d, .fptr c 0) :: L) HG Q) : WpOpsG A (⟨some d, .iaddr w x i, none⟩ :: l) L HG Q :=
  WpOpsG.pure (d := some d) (fun Z om fr H hr hf => by
    obtain ⟨u, h1, h2⟩ := hf.x hx
    obtain ⟨y, k1, k2⟩ := hf.x hi
    obtain rfl := k2.v_inv
    have hlt : m.toNat < cs.length := (List.getElem?_eq_some_iff.1 hc).1
    cases h2.fsl_inv with
    | @fsl _ b off len cap ex _ zb f c1 c2 c3 c4 c5 c6 c7 =>
      subst c3
      have hm : 0 ≤ m ∧ m < (cs.length : Int) := by omega
      refine ⟨.ptr b (off + m.toNat * w), by simp only [evOp, h1, k1, if_pos hm], .pure ?_⟩
      exact PR.fptr (base := off + m.toNat * w) (off := 0) (fun k => f m.toNat k) c1 (fun k x hk => c6 _ k c x hc hk) (fun k x hk => c7 _ k c x hc hk)
    | fnil => simp at hlt) k
theorem G.iaddrM {d w : Nat} {x i : AX} {α : Type} {enc : α → List GV} {xs : List α} {k' : IntKind} {m : Int} {y : α} (hx : lkGX L x = some (.fsl w (xs.map enc))) (hi : lkGX L i = some (.v (.int k' m))) (h0 : 0 ≤ m) (hc : xs[m.toNat]? = some y) (k : WpOpsG A l ((d, .fptr (enc y) 0) :: L) HG Q) : WpOpsG A (⟨some d, .iaddr w x i, none⟩ :: l) L HG Q :=
  G.iaddrF hx hi h0 (by rw [List.getElem?_map, hc]; rfl) k
theorem G.faddrF {d off o : Nat} {x : AX} {c : List GV} (hx : lkGX L x = some (.fptr c o)) (k : WpOpsG A l ((d, .fptr c (o + off)) :: L) HG Q) : WpOpsG A (⟨some d, .faddr off x, none⟩ :: l) L HG Q :=
  WpOpsG.pure (d := some d) (fun Z om fr H hr hf => by
    obtain ⟨u, h1, h2⟩ := hf.x hx
    cases h2.fptr_inv with
    | @fptr b base _ _ zb f c1 c2 c3 =>
      refine ⟨.ptr b (base + (o + off)), by simp only [evOp, h1, Nat.add_assoc], .pure (PR.fptr f c1 c2 c3)⟩) k
theorem G.aaddrF {d es len o : Nat} {x i : AX} {c : List GV} {k' : IntKind} {m : Int} (hx : lkGX L x = some (.fptr c o)) (hi : lkGX L i = some (.v (.int k' m))) (h0 : 0 ≤ m) (hm : m < len) (k : WpOpsG A l ((d, .fptr c (o + m.toNat * es)) :: L) HG Q) : WpOpsG A (⟨some d, .aaddr len es x i, none⟩ :: l) L HG Q :=
  WpOpsG.pure (d := some d) (fun Z om fr H hr hf => by
    obtain ⟨u, h1, h2⟩ := hf.x hx
    obtain ⟨y, k1, k2⟩ := hf.x hi
    obtain rfl := k2.v_inv
    cases h2.fptr_inv with
    | @fptr b base _ _ zb f c1 c2 c3 =>
      refine ⟨.ptr b (base + (o + m.toNat * es)), by simp only [evOp, h1, k1, if_pos (And.intro h0 hm), Nat.add_assoc], .pure (PR.fptr f c1 c2 c3)⟩) k
theorem takeN_of {cells : List AV} {off : Nat} : ∀ {n : Nat} {ws : List AV}, ws.length = n → (∀ i (h : i < n), cells[off + i]? = ws[i]?) → takeN n (cells.drop off) = some ws
  | 0, ws, hl, _ => by
    obtain rfl := List.length_eq_zero_iff.1 hl
    simp [takeN]
  | n + 1, [], hl, _ => by simp at hl
  | n + 1, w :: ws, hl, h => by
    have h0 : cells[off]? = some w := by simpa using h 0 (by omega)
    have hd : cells.drop off = w :: cells.drop (off + 1) := by
      obtain ⟨h1, h2⟩ := List.getElem?_eq_some_iff.1 h0
      rw [List.drop_eq_getElem_cons h1, h2]
    rw [hd, takeN, takeN_of (n := n) (ws := ws) (by simpa using hl) (fun i hi => by have := h (i + 1) (by omega); rw [List.getElem?_cons_succ] at this; rw [← this]; congr 1; omega)]
    rfl
theorem G.load1F {d off : Nat} {x : AX} {c : List GV} {v : GV} (hx : lkGX L x = some (.fptr c off)) (hv : c[off]? = some v) (k : WpOpsG A l ((d, v) :: L) HG Q) : WpOpsG A (⟨some d, .load1 x, none⟩ :: l) L HG Q :=
  WpOpsG.pure (d := some d) (fun Z om fr H hr hf => by
    obtain ⟨u, h1, h2⟩ := hf.x hx
    cases h2.fptr_inv with
    | @fptr b base _ _ zb f c1 c2 c3 =>
      obtain ⟨_, blk, e1, e2, e3⟩ := hr.zok _ _ c1
      have := takeN_of (cells := blk.cells) (off := base + off) (n := 1) (ws := [f off]) rfl (fun i hi => by
        obtain rfl : i = 0 := by omega
        rw [e2, Nat.add_zero, c2 off v hv]; rfl)
      exact ⟨f off, by simp only [evOp, h1, getN, e1, this], .pure (c3 off v hv)⟩) k
theorem takeG_len : ∀ {n : Nat} {l r : List GV}, takeG n l = some r → r.length = n ∧ ∀ i (_ : i < n), l[i]? = r[i]?
  | 0, _, _, h => by cases h; exact ⟨rfl, fun i h => by omega⟩
  | n + 1, [], _, h => by cases h
  | n + 1, x :: l, r, h => by
    rw [takeG] at h
    cases hr : takeG n l with
    | none => rw [hr] at h; cases h
    | some r' =>
      rw [hr] at h
      cases h
      obtain ⟨h1, h2⟩ := takeG_len hr
      refine ⟨by simp [h1], fun i hi => ?_⟩
      cases i with
      | zero => rfl
      | succ i => simpa using h2 i (by omega)
theorem G.loadNF {d off n : Nat} {x : AX} {c vs : List GV} (hx : lkGX L x = some (.fptr c off)) (hv : takeG n (c.drop off) = some vs) (k : WpOpsG A l ((d, .agg vs) :: L) HG Q) : WpOpsG A (⟨some d, .loadN n x, none⟩ :: l) L HG Q :=
  WpOpsG.pure (d := some d) (fun Z om fr H hr hf => by
    obtain ⟨u, h1, h2⟩ := hf.x hx
    obtain ⟨g1, g2⟩ := takeG_len hv
    cases h2.fptr_inv with
    | @fptr b base _ _ zb f c1 c2 c3 =>
      obtain ⟨_, blk, e1, e2, e3⟩ := hr.zok _ _ c1
      have ht : ∀ i, i < n → ∃ y, vs[i]? = some y ∧ c[off + i]? = some y := fun i hi => by
        refine ⟨vs[i]'(by omega), by simp [g1, hi], ?_⟩
        have := g2 i hi
        rw [List.getElem?_drop] at this
        rw [this]; simp [g1, hi]
      have := takeN_of (cells := blk.cells) (off := base + off) (n := n) (ws := (List.range n).map fun i => f (off + i)) (by simp) (fun i hi => by
        obtain ⟨y, _, hy⟩ := ht i hi
        rw [e2, Nat.add_assoc, c2 _ y hy]; simp [hi])
      refine ⟨.agg ((List.range n).map fun i => f (off + i)), by simp only [evOp, h1, getN, e1, this], .agg (by simp [g1]) (fun i y a hy ha => ?_)⟩
      have hi : i < n := by rw [← g1]; exact (List.getElem?_eq_some_iff.1 hy).1
      obtain ⟨y', h3, h4⟩ := ht i hi
      rw [hy] at h3; cases h3
      simp [hi] at ha
      subst ha
      exact .pure (c3 _ y h4)) k
theorem G.nilcF {d o : Nat} {x : AX} {c : List GV} (hx : lkGX L x = some (.fptr c o)) (k : WpOpsG A l ((d, .fptr c o) :: L) HG Q) : WpOpsG A (⟨some d, .nilc x, none⟩ :: l) L HG Q :=
  WpOpsG.pure (d := some d) (fun Z om fr H hr hf => by
    obtain ⟨u, h1, h2⟩ := hf.x hx
    cases h2.fptr_inv with
    | @fptr b base _ _ zb f c1 c2 c3 =>
      exact ⟨.ptr b (base + o), by simp only [evOp, h1], h2⟩) k
theorem G.nilcB {d g o : Nat} {x : AX} (hx : lkGX L x = some (.bptr g o)) (k : WpOpsG A l ((d, .bptr g o) :: L) HG Q) : WpOpsG A (⟨some d, .nilc x, none⟩ :: l) L HG Q :=
  WpOpsG.pure (d := some d) (fun Z om fr H hr hf => by
    obtain ⟨u, h1, h2⟩ := hf.x hx
    obtain ⟨b, _, rfl⟩ := h2.bptr_inv
    exact ⟨.ptr b o, by simp only [evOp, h1], h2⟩) k
theorem G.nilcE {d g i o : Nat} {x : AX} (hx : lkGX L x = some (.eptr g i o)) (k : WpOpsG A l ((d, .eptr g i o) :: L) HG Q) : WpOpsG A (⟨some d, .nilc x, none⟩ :: l) L HG Q :=
  WpOpsG.pure (d := some d) (fun Z om fr H hr hf => by
    obtain ⟨u, h1, h2⟩ := hf.x hx
    obtain ⟨b, _, _, _, _, _, _, rfl⟩ := h2.eptr_inv
    exact ⟨_, by simp only [evOp, h1], h2⟩) k
theorem G.nilcFn {d f : Nat} {x : AX} {cs : List GV} (hx : lkGX L x = some (.fn f cs)) (k : WpOpsG A l ((d, .fn f cs) :: L) HG Q) : WpOpsG A (⟨some d, .nilc x, none⟩ :: l) L HG Q :=
  WpOpsG.pure (d := some d) (fun Z om fr H hr hf => by
    obtain ⟨u, h1, h2⟩ := hf.x hx
    obtain ⟨as, rfl, _⟩ := h2.fn_inv
    exact ⟨_, by simp only [evOp, h1], h2⟩) k
theorem G.faddrB {d off o g : Nat} {x : AX} (hx : lkGX L x = some (.bptr g o)) (k : WpOpsG A l ((d, .bptr g (o + off)) :: L) HG Q) : WpOpsG A (⟨some d, .faddr off x, none⟩ :: l) L HG Q :=
  WpOpsG.pure (d := some d) (fun Z om fr H hr hf => by
    obtain ⟨u, h1, h2⟩ := hf.x hx
    obtain ⟨b, hb, rfl⟩ := h2.bptr_inv
    exact ⟨.ptr b (o + off), by simp only [evOp, h1], .bptr hb⟩) k
theorem G.faddrE {d off o g i : Nat} {x : AX} (hx : lkGX L x = some (.eptr g i o)) (k : WpOpsG A l ((d, .eptr g i (o + off)) :: L) HG Q) : WpOpsG A (⟨some d, .faddr off x, none⟩ :: l) L HG Q :=
  WpOpsG.pure (d := some d) (fun Z om fr H hr hf => by
    obtain ⟨u, h1, h2⟩ := hf.x hx
    obtain ⟨b, p, _, _, _, w, hb, rfl⟩ := h2.eptr_inv
    have e : p + i * w + o + off = p + i * w + (o + off) := Nat.add_assoc _ _ _
    exact ⟨.ptr b (p + i * w + (o + off)), by simp only [evOp, h1, e], .eptr hb⟩) k
theorem G.aaddrB {d es len o g : Nat} {x i : AX} {k' : IntKind} {m : Int} (hx : lkGX L x = some (.bptr g o)) (hi : lkGX L i = some (.v (.int k' m))) (h0 : 0 ≤ m) (hm : m < len) (k : WpOpsG A l ((d, .bptr g (o + m.toNat * es)) :: L) HG Q) : WpOpsG A (⟨some d, .aaddr len es x i, none⟩ :: l) L HG Q :=
  WpOpsG.pure (d := some d) (fun Z om fr H hr hf => by
    obtain ⟨u, h1, h2⟩ := hf.x hx
    obtain ⟨y, k1, k2⟩ := hf.x hi
    obtain rfl := k2.v_inv
    obtain ⟨b, hb, rfl⟩ := h2.bptr_inv
    exact ⟨.ptr b (o + m.toNat * es), by simp only [evOp, h1, k1, if_pos (And.intro h0 hm)], .bptr hb⟩) k
theorem G.mkfn {d f : Nat} {xs : List AX} {vs : List GV} (hx : lkGXs L xs = some vs) (k : WpOpsG A l ((d, .fn f vs) :: L) HG Q) : WpOpsG A (⟨some d, .mkfn f xs, none⟩ :: l) L HG Q :=
  WpOpsG.pure (d := some d) (fun Z om fr H hr hf => by
    obtain ⟨as, h1, h2⟩ := hf.xs hx
    exact ⟨.fn f as, by simp only [evOp, h1], .fn h2.length h2.at⟩) k
/-- one of which it is not said what it tells -/
theorem WpOpsG.pureX {d : Option Nat} {o : AOp} {l : List AOper} {Q : GFr → GHp → Prop}
    (h : ∀ Z om fr H, GRel Z om HG H → FR Z om L fr → ∃ v a, evOp (fun _ _ _ => none) o fr H = some (a, H) ∧ VR Z om v a ∧ WpOpsG A l (putP L d v) HG Q) : WpOpsG A (⟨d, o, none⟩ :: l) L HG Q := fun Z om fr H hr hf => by
  obtain ⟨v, a, h1, h2, h3⟩ := h Z om fr H hr hf
  exact WpOps.cons rfl (WpOp.eval h1 (h3 Z om _ H hr (hf.put h2 d)))
theorem G.eqnilF {d w : Nat} {neq : Bool} {x : AX} {cs : List (List GV)} (hx : lkGX L x = some (.fsl w cs)) (k : ∀ q : Bool, (q = true → cs = []) → WpOpsG A l ((d, .v (.bool (xor neq q))) :: L) HG Q) : WpOpsG A (⟨some d, .eqnil neq true x, none⟩ :: l) L HG Q :=
  WpOpsG.pureX (d := some d) fun Z om fr H hr hf => by
    obtain ⟨u, h1, h2⟩ := hf.x hx
    cases h2.fsl_inv with
    | fsl f c1 c2 c3 c4 c5 c6 c7 => exact ⟨_, .v (.bool neq), by simp only [evOp, h1], by rw [Bool.xor_false]; exact .pure (.v _), k false (fun h => by cases h)⟩
    | fnil => exact ⟨_, .v (.bool !neq), by simp only [evOp, h1], by rw [Bool.xor_true]; exact .pure (.v _), k true (fun _ => rfl)⟩
theorem G.eqnilB {d g o : Nat} {neq : Bool} {x : AX} (hx : lkGX L x = some (.bptr g o)) (k : WpOpsG A l ((d, .v (.bool neq)) :: L) HG Q) : WpOpsG A (⟨some d, .eqnil neq false x, none⟩ :: l) L HG Q :=
  WpOpsG.pure (d := some d) (fun Z om fr H hr hf => by
    obtain ⟨u, h1, h2⟩ := hf.x hx
    obtain ⟨b, hb, rfl⟩ := h2.bptr_inv
    exact ⟨.v (.bool neq), by simp only [evOp, h1], .pure (.v _)⟩) k
theorem G.eqnilP {d : Nat} {neq : Bool} {x : AX} (hx : lkGX L x = some (.v (.pointer none))) (k : WpOpsG A l ((d, .v (.bool !neq)) :: L) HG Q) : WpOpsG A (⟨some d, .eqnil neq false x, none⟩ :: l) L HG Q :=
  WpOpsG.pure (d := some d) (fun Z om fr H hr hf => by
    obtain ⟨u, h1, h2⟩ := hf.x hx
    obtain rfl := h2.v_inv
    exact ⟨.v (.bool !neq), by simp only [evOp, h1], .pure (.v _)⟩) k
end
end Go.AM
