/- The machine over plain data: rules for each operation, calls. No condition. -/
import Derived.Test.YtabhoinefficpaaGMb
set_option linter.all false
set_option maxRecDepth 10000
namespace Go.AM
/-! ## Rows of rows of one's own -/
def mpC (f : GV → GV) : List GV → List GV
 | [] => []
 | c :: r => f c :: mpC f r
def mpB (f : GV → GV) : GBlk → GBlk
 | .box cs => .box (mpC f cs)
 | .arr a w cs => .arr a w cs
 | .mat w rs => .mat w rs
def mpH (f : GV → GV) : GHp → GHp
 | [] => []
 | p :: r => (p.1, mpB f p.2) :: mpH f r
def mpL (f : GV → GV) : GFr → GFr
 | [] => []
 | p :: r => (p.1, f p.2) :: mpL f r
theorem mpC_len {f : GV → GV} : ∀ {cs : List GV}, (mpC f cs).length = cs.length
 | [] => rfl
 | c :: r => by simp [mpC, mpC_len]
theorem mpC_at {f : GV → GV} : ∀ {cs : List GV} {i : Nat}, (mpC f cs)[i]? = (cs[i]?).map f
 | [], i => by simp [mpC]
 | c :: r, 0 => by simp [mpC]
 | c :: r, i + 1 => by simp [mpC, mpC_at]
theorem lkP_mpL {f : GV → GV} : ∀ {L : GFr} {k : Nat}, lkP (mpL f L) k = (lkP L k).map f
 | [], _ => rfl
 | p :: r, k => by
   rw [mpL, lkP_cons, lkP_cons, lkP_mpL]
   split <;> rfl
theorem lkP_mpH {f : GV → GV} : ∀ {L : GHp} {k : Nat}, lkP (mpH f L) k = (lkP L k).map (mpB f)
 | [], _ => rfl
 | p :: r, k => by
   rw [mpH, lkP_cons, lkP_cons, lkP_mpH]
   split <;> rfl
theorem FR.mp {Z Z' : ZM} {om om' : Om} {f : GV → GV} {L : GFr} {fr : T AV} (h : FR Z om L fr) (hv : ∀ v a, VR Z om v a → VR Z' om' (f v) a) : FR Z' om' (mpL f L) fr := fun k v e => by
 rw [lkP_mpL] at e
 cases hx : lkP L k with
 | none => rw [hx] at e; cases e
 | some x =>
   rw [hx] at e; cases e
   obtain ⟨a, h1, h2⟩ := h k x hx
   exact ⟨a, h1, hv _ _ h2⟩
mutual
/-- speaks of a row of it -/
def GV.hasR (g : Nat) : GV → Bool
 | .agg cs => GV.hasRL g cs
 | .tup cs => GV.hasRL g cs
 | .fn _ cs => GV.hasRL g cs
 | .ifc _ x => GV.hasR g x
 | .rsl h _ => Nat.beq h g
 | .rptr h _ _ _ => Nat.beq h g
 | _ => false
def GV.hasRL (g : Nat) : List GV → Bool
 | [] => false
 | c :: cs => GV.hasR g c || GV.hasRL g cs
end
theorem GV.hasRL_at {g : Nat} : ∀ {cs : List GV} {i : Nat} {c : GV}, GV.hasRL g cs = false → cs[i]? = some c → c.hasR g = false
 | [], i, c, _, h => by cases i <;> cases h
 | x :: cs, i, c, h, e => by
   rw [GV.hasRL, Bool.or_eq_false_iff] at h
   cases i with
   | zero => cases e; exact h.1
   | succ i => exact GV.hasRL_at h.2 (by simpa using e)
def GV.sr (g : Nat) (v : GV) : GV := match v.hasR g with
 | true => .any
 | false => v
def SameM (om om' : Om) (g : Nat) : Prop := ∀ b o cap ex ps, om g = some (.mat b o cap ex ps) → ∃ ps', om' g = some (.mat b o cap ex ps') ∧ ps'.length = ps.length
theorem VR.sr {Z : ZM} {om om' : Om} {g : Nat} {v : GV} {a : AV} (h : VR Z om v a) (ho : ∀ k, k ≠ g → om' k = om k) (hm : SameM om om' g) (hx : ∃ b o cap ex ps, om g = some (.mat b o cap ex ps)) : VR Z om' (v.sr g) a := by
 unfold GV.sr
 obtain ⟨xb, xo, xc, xe, xp, hx⟩ := hx
 split
 ·exact .any
 ·rename_i hk
  induction h with
  | pure h => exact .pure h
  | agg h _ ih => exact .agg h fun i c a e f => ih i c a e f (GV.hasRL_at (by rwa [GV.hasR] at hk) e)
  | tup h _ ih => exact .tup h fun i c a e f => ih i c a e f (GV.hasRL_at (by rwa [GV.hasR] at hk) e)
  | fn h _ ih => exact .fn h fun i c a e f => ih i c a e f (GV.hasRL_at (by rwa [GV.hasR] at hk) e)
  | ifc _ ih => exact .ifc (ih (by rwa [GV.hasR] at hk))
  | @osl k b o len cap ex w h =>
    by_cases c : k = g
    ·subst c; rw [hx] at h; cases h
    ·exact .osl (by rw [ho k c]; exact h)
  | @onil k h =>
    by_cases c : k = g
    ·subst c; rw [hx] at h; cases h
    ·exact .onil (by rw [ho k c]; exact h)
  | @bptr k off b h =>
    by_cases c : k = g
    ·subst c; rw [hx] at h; cases h
    ·exact .bptr (by rw [ho k c]; exact h)
  | @eptr k i off b o len cap ex w h =>
    by_cases c : k = g
    ·subst c; rw [hx] at h; cases h
    ·exact .eptr (by rw [ho k c]; exact h)
  | @msl k b o cap ex ps h =>
    by_cases c : k = g
    ·subst c; obtain ⟨ps', h1, h2⟩ := hm _ _ _ _ _ h; rw [← h2]; exact .msl h1
    ·exact .msl (by rw [ho k c]; exact h)
  | @mnil k h =>
    by_cases c : k = g
    ·subst c; rw [hx] at h; cases h
    ·exact .mnil (by rw [ho k c]; exact h)
  | @mptr k i b o cap ex ps h =>
    by_cases c : k = g
    ·subst c; obtain ⟨ps', h1, h2⟩ := hm _ _ _ _ _ h; exact .mptr h1
    ·exact .mptr (by rw [ho k c]; exact h)
  | @rsl k i b o cap ex ps b' o' len' cap' ex' w h hp =>
    by_cases c : k = g
    ·subst c; rw [GV.hasR] at hk; simp at hk
    ·exact .rsl (by rw [ho k c]; exact h) hp
  | @rnil k i b o cap ex ps h hp =>
    by_cases c : k = g
    ·subst c; rw [GV.hasR] at hk; simp at hk
    ·exact .rnil (by rw [ho k c]; exact h) hp
  | @rptr k i j off b o cap ex ps b' o' len' cap' ex' w h hp =>
    by_cases c : k = g
    ·subst c; rw [GV.hasR] at hk; simp at hk
    ·exact .rptr (by rw [ho k c]; exact h) hp
  | any => exact .any
section
variable {Z : ZM} {om : Om} {HG : GHp} {H : Heap}
theorem GRel.gen (h : GRel Z om HG H) (T : Nat → Prop) (f : GV → GV) {om' : Om} {HG' : GHp} {H' : Heap}
 (hD : ∀ k, ¬ T k → om' k = om k) (hH : ∀ k, ¬ T k → lkP HG' k = (lkP HG k).map (mpB f))
 (hv : ∀ v a, VR Z om v a → VR Z om' (f v) a)
 (hdT : ∀ k, T k → lkP HG' k = none → om' k = none)
 (hT : ∀ k blk, T k → lkP HG' k = some blk → BR Z om' H' k blk)
 (hnx : H.next ≤ H'.next)
 (hkeep : ∀ b, b < H.next → (¬ ∃ k, T k ∧ (lkP HG k).isSome = true ∧ idOf om k b) → (∀ k b' blk, T k → (lkP HG k).isSome = true → idOf om k b' → H.blks.get b' = some blk → blk.mate ≠ some b) → H'.blks.get b = H.blks.get b)
 (hid : ∀ k b, T k → idOf om' k b → (∃ k0, T k0 ∧ (lkP HG k0).isSome = true ∧ idOf om k0 b) ∨ (H.next ≤ b ∧ b < H'.next))
 (hsep : ∀ k k' b, T k → T k' → k ≠ k' → idOf om' k b → ¬ idOf om' k' b)
 (hmate : ∀ k b blk m, T k → idOf om' k b → H'.blks.get b = some blk → blk.mate = some m →
   ((∃ k0, T k0 ∧ (lkP HG k0).isSome = true ∧ idOf om k0 m) ∧ ∀ k', T k' → ¬ idOf om' k' m) ∨ (∃ k0, T k0 ∧ (lkP HG k0).isSome = true ∧ idOf om k0 b ∧ ∃ blk0, H.blks.get b = some blk0 ∧ blk0.mate = some m))
 (hstab : ∀ k l, T k → nailed k l → om k = some l → om' k = some l) :
 GRel Z om' HG' H' ∧ Ext Z om HG H Z om' HG' H' := by
 have hS : ∀ k, ¬ T k → (lkP HG' k).isSome = (lkP HG k).isSome := fun k n => by rw [hH k n]; cases lkP HG k <;> rfl
 have hI : ∀ k, ¬ T k → idOf om' k = idOf om k := fun k n => by unfold idOf; rw [hD k n]
 have hother : ∀ k b, ¬ T k → (lkP HG k).isSome = true → idOf om k b → H'.blks.get b = H.blks.get b := fun k b n hk hi =>
  hkeep b (h.old hk hi) (fun ⟨k0, t, e, i⟩ => h.sep k k0 b (fun c => n (by rw [c]; exact t)) hk e hi i) (fun k0 b' blk t e i hb c => (h.mate k0 b' blk b e i hb c).2.2 k hk hi)
 have hzT : ∀ k b, T k → idOf om' k b → Z b = none := fun k b t i => by
  rcases hid k b t i with ⟨k0, t0, e0, i0⟩ | ⟨j, _⟩
  ·exact (h.zsep k0 b e0 i0).1
  ·cases hz : Z b with
   | none => rfl
   | some zb => have := (h.zok b zb hz).1; omega
 refine ⟨⟨fun k hk => ?_, fun b zb hz => ?_, fun k blk hk => ?_, fun g1 g2 b n e1 e2 i1 i2 => ?_, fun k b hk i => ?_, fun k b blk m hk i hb hm => ?_⟩, ⟨hnx, .refl _, fun b hb hf => ?_, fun b hb hf => ?_, fun k b hnl hk => ?_, fun b hb ho => ?_, fun _ _ h k => absurd h k⟩⟩
 ·by_cases t : T k
  ·exact hdT k t hk
  ·rw [hD k t]
   rw [hH k t] at hk
   exact h.dom k (by cases hx : lkP HG k with | none => rfl | some _ => rw [hx] at hk; cases hk)
 ·obtain ⟨a1, blk, a2, a3⟩ := h.zok b zb hz
  refine ⟨by omega, blk, ?_, a3⟩
  rw [hkeep b a1 (fun ⟨k0, t, e, i⟩ => by rw [(h.zsep k0 b e i).1] at hz; cases hz) (fun k0 b' blk' t e i hb c => by rw [(h.mate k0 b' blk' b e i hb c).2.1] at hz; cases hz)]
  exact a2
 ·by_cases t : T k
  ·exact hT k blk t hk
  ·rw [hH k t] at hk
   cases hx : lkP HG k with
   | none => rw [hx] at hk; cases hk
   | some old =>
     rw [hx] at hk; cases hk
     have hk' : (lkP HG k).isSome = true := by rw [hx]; rfl
     cases h.own k old hx with
     | box h1 h2 h3 h4 h5 =>
       refine .box (by rw [hD k t]; exact h1) (by rw [hother k _ t hk' (idOf_eq h1 rfl)]; exact h2) h3 (by rw [mpC_len]; exact h4) fun i c a e1 e2 => ?_
       rw [mpC_at] at e1
       cases hy : (_ : List GV)[i]? with
       | none => rw [hy] at e1; cases e1
       | some y => rw [hy] at e1; cases e1; exact hv _ _ (h5 i y a hy e2)
     | nil h1 hq => exact .nil (by rw [hD k t]; exact h1) hq
     | arr h1 h2 h3 h4 h5 h6 h7 h8 => exact .arr (by rw [hD k t]; exact h1) (by rw [hother k _ t hk' (idOf_eq h1 rfl)]; exact h2) h3 h4 h5 h6 h7 h8
     | mnil h1 => exact .mnil (by rw [hD k t]; exact h1)
     | mat h1 h2 h3 h4 h5 h6 h7 h8 h9 h10 h11 =>
       exact .mat (by rw [hD k t]; exact h1) (by rw [hother k _ t hk' (idOf_eq h1 (.inl rfl))]; exact h2) h3 h4 h5 h6 h7 h8 (fun i r p e1 e2 => (h9 i r p e1 e2).keep (.refl _) fun b hb => hother k b t hk' (idOf_eq h1 (.inr ⟨i, p, e2, hb⟩))) h10 h11
 ·by_cases t1 : T g1
  ·by_cases t2 : T g2
   ·exact hsep g1 g2 b t1 t2 n i1 i2
   ·rw [hI g2 t2] at i2
    rw [hS g2 t2] at e2
    rcases hid g1 b t1 i1 with ⟨k0, t0, e0, i0⟩ | ⟨j, _⟩
    ·exact h.sep k0 g2 b (fun c => t2 (by rw [← c]; exact t0)) e0 e2 i0 i2
    ·have := h.old e2 i2; omega
  ·rw [hI g1 t1] at i1
   rw [hS g1 t1] at e1
   by_cases t2 : T g2
   ·rcases hid g2 b t2 i2 with ⟨k0, t0, e0, i0⟩ | ⟨j, _⟩
    ·exact h.sep k0 g1 b (fun c => t1 (by rw [← c]; exact t0)) e0 e1 i0 i1
    ·have := h.old e1 i1; omega
   ·rw [hI g2 t2] at i2
    rw [hS g2 t2] at e2
    exact h.sep g1 g2 b n e1 e2 i1 i2
 ·by_cases t : T k
  ·refine ⟨hzT k b t i, ?_⟩
   rcases hid k b t i with ⟨k0, t0, e0, i0⟩ | ⟨_, j⟩
   ·have := h.old e0 i0; omega
   ·exact j
  ·rw [hI k t] at i
   rw [hS k t] at hk
   have := h.zsep k b hk i
   exact ⟨this.1, by omega⟩
 ·have claim : ∀ m, Z m = none → m < H.next → (∀ k', (lkP HG k').isSome = true → ¬ T k' → ¬ idOf om k' m) → (∀ k', T k' → ¬ idOf om' k' m) → m < H'.next ∧ Z m = none ∧ ∀ k', (lkP HG' k').isSome = true → ¬ idOf om' k' m := fun m a1 a2 a3 a4 => by
   refine ⟨by omega, a1, fun k' hk' i' => ?_⟩
   by_cases t : T k'
   ·exact a4 k' t i'
   ·rw [hI k' t] at i'; rw [hS k' t] at hk'; exact a3 k' hk' t i'
  have old : ∀ k0 b0 blk0, (lkP HG k0).isSome = true → idOf om k0 b0 → H.blks.get b0 = some blk0 → blk0.mate = some m → m < H'.next ∧ Z m = none ∧ ∀ k', (lkP HG' k').isSome = true → ¬ idOf om' k' m := fun k0 b0 blk0 e0 i0 hb0 hm0 => by
   obtain ⟨a1, a2, a3⟩ := h.mate k0 b0 blk0 m e0 i0 hb0 hm0
   refine claim m a2 a1 (fun k' hk' _ => a3 k' hk') (fun k' t x => ?_)
   rcases hid k' m t x with ⟨k1, t1, e1, i1⟩ | ⟨y, _⟩
   ·exact a3 k1 e1 i1
   ·omega
  by_cases t : T k
  ·rcases hmate k b blk m t i hb hm with ⟨⟨k0, t0, e0, i0⟩, j2⟩ | ⟨k0, t0, e0, i0, blk0, j2, j3⟩
   ·exact claim m (h.zsep k0 m e0 i0).1 (h.old e0 i0) (fun k' hk' n i' => h.sep k' k0 m (fun c => n (by rw [c]; exact t0)) hk' e0 i' i0) j2
   ·exact old k0 b blk0 e0 i0 j2 j3
  ·rw [hI k t] at i
   rw [hS k t] at hk
   rw [hother k b t hk i] at hb
   exact old k b blk hk i hb hm
 ·exact ⟨hkeep b hb (fun ⟨k0, t, e, i⟩ => hf ⟨k0, e, .inl i⟩) (fun k0 b' blk t e i hb' c => hf ⟨k0, e, .inr ⟨b', blk, i, hb', c⟩⟩), rfl⟩
 ·obtain ⟨k, hk, hf⟩ := hf
  by_cases t : T k
  ·rcases hf with hf | ⟨b', blk, hf, hf2, hf3⟩
   ·rcases hid k b t hf with ⟨k0, t0, e0, i0⟩ | ⟨j, _⟩
    ·exact ⟨k0, e0, .inl i0⟩
    ·omega
   ·rcases hmate k b' blk b t hf hf2 hf3 with ⟨⟨k0, t0, e0, i0⟩, j2⟩ | ⟨k0, t0, e0, i0, blk0, j2, j3⟩
    ·exact ⟨k0, e0, .inl i0⟩
    ·exact ⟨k0, e0, .inr ⟨b', blk0, i0, j2, j3⟩⟩
  ·rw [hI k t] at hf
   rw [hS k t] at hk
   refine ⟨k, hk, ?_⟩
   rcases hf with hf | ⟨b', blk, hf, hf2, hf3⟩
   ·exact .inl hf
   ·exact .inr ⟨b', blk, hf, by rw [← hother k b' t hk hf]; exact hf2, hf3⟩
 ·by_cases t : T k
  ·exact hstab k b t hnl hk
  ·rw [hD k t]; exact hk
 ·obtain ⟨k, hk, hf⟩ := ho
  by_cases t : T k
  ·rcases hid k b t hf with ⟨k0, t0, e0, i0⟩ | ⟨j, _⟩
   ·exact ⟨k0, e0, i0⟩
   ·omega
  ·rw [hI k t] at hf
   rw [hS k t] at hk
   exact ⟨k, hk, hf⟩
end
end Go.AM
set_option linter.all false
set_option maxRecDepth 10000
namespace Go.AM
section
variable {A : AProg} {L : GFr} {HG : GHp} {l : List AOper} {Q : GFr → GHp → Prop}
theorem G.lenMt {d g w : Nat} {x : AX} {rows : List (Option (List (List GV)))} (hx : lkGX L x = some (.msl g)) (hg : lkP HG g = some (.mat w rows)) (k : WpOpsG A l ((d, .v (.int .i64 rows.length)) :: L) HG Q) : WpOpsG A (⟨some d, .len false x, none⟩ :: l) L HG Q :=
 WpOpsG.pure (d := some d) (fun Z om fr H hr hf => by
  obtain ⟨u, h1, h2⟩ := hf.x hx
  rcases h2.msl_inv with ⟨b, o, cap, ex, ps, e, rfl⟩ | ⟨e, rfl⟩
  ·rcases hr.mat hg with ⟨c1, rfl⟩ | ⟨_, _, _, _, _, _, c1, _, _, _, c5, _⟩
   ·rw [e] at c1; cases c1
   ·rw [e] at c1; cases c1
    exact ⟨_, by simp only [evOp, h1, c5], .pure (.v _)⟩
  ·rcases hr.mat hg with ⟨c1, rfl⟩ | ⟨_, _, _, _, _, _, c1, _⟩
   ·exact ⟨.v (.int .i64 0), by simp only [evOp, h1], .pure (.v _)⟩
   ·rw [e] at c1; cases c1) k
theorem G.iaddrMt {d g w : Nat} {x i : AX} {rows : List (Option (List (List GV)))} {k' : IntKind} {m : Int} (hx : lkGX L x = some (.msl g)) (hg : lkP HG g = some (.mat w rows)) (hi : lkGX L i = some (.v (.int k' m))) (h0 : 0 ≤ m) (hm : m < rows.length) (k : WpOpsG A l ((d, .mptr g m.toNat) :: L) HG Q) : WpOpsG A (⟨some d, .iaddr 1 x i, none⟩ :: l) L HG Q :=
 WpOpsG.pure (d := some d) (fun Z om fr H hr hf => by
  obtain ⟨u, h1, h2⟩ := hf.x hx
  obtain ⟨y, k1, k2⟩ := hf.x hi
  obtain rfl := k2.v_inv
  rcases h2.msl_inv with ⟨b, o, cap, ex, ps, e, rfl⟩ | ⟨e, rfl⟩
  ·rcases hr.mat hg with ⟨c1, rfl⟩ | ⟨_, _, _, _, _, _, c1, _, _, _, c5, _⟩
   ·rw [e] at c1; cases c1
   ·rw [e] at c1; cases c1
    exact ⟨.ptr b (o + m.toNat * 1), by simp only [evOp, h1, k1, if_pos (And.intro h0 (by rw [← c5]; exact hm : m < (ps.length : Int)))], .mptr e⟩
  ·rcases hr.mat hg with ⟨c1, rfl⟩ | ⟨_, _, _, _, _, _, c1, _⟩
   ·simp at hm; omega
   ·rw [e] at c1; cases c1) k
theorem take1 {cells : List AV} {o : Nat} {a : AV} (h : cells[o]? = some a) : takeN 1 (cells.drop o) = some [a] := takeN_of rfl (fun j hj => by
 obtain rfl : j = 0 := by omega
 simpa using h)
theorem G.load1Mt {d g w i : Nat} {x : AX} {rows : List (Option (List (List GV)))} {cs : List (List GV)} (hx : lkGX L x = some (.mptr g i)) (hg : lkP HG g = some (.mat w rows)) (hi : rows[i]? = some (some cs)) (k : WpOpsG A l ((d, .rsl g i) :: L) HG Q) : WpOpsG A (⟨some d, .load1 x, none⟩ :: l) L HG Q :=
 WpOpsG.pure (d := some d) (fun Z om fr H hr hf => by
  obtain ⟨u, h1, h2⟩ := hf.x hx
  obtain ⟨b, o, cap, ex, ps, e, rfl⟩ := h2.mptr_inv
  obtain ⟨p, blk, e1, e2, e3⟩ := hr.row hg hi e
  rcases e3.inv with ⟨rfl, _, e4⟩ | ⟨b', o', cap', ex', blk', rfl, e4, _⟩
  ·exact ⟨_, by simp only [evOp, h1, getN, e2, take1 (o := o + i * 1) (by rw [Nat.mul_one]; exact e4)], .rnil e e1⟩
  ·exact ⟨_, by simp only [evOp, h1, getN, e2, take1 (o := o + i * 1) (by rw [Nat.mul_one]; exact e4)], .rsl e e1⟩) k
theorem G.iaddrR {d g w i : Nat} {x ix : AX} {rows : List (Option (List (List GV)))} {cs : List (List GV)} {k' : IntKind} {m : Int} (hx : lkGX L x = some (.rsl g i)) (hg : lkP HG g = some (.mat w rows)) (hi : rows[i]? = some (some cs)) (hix : lkGX L ix = some (.v (.int k' m))) (h0 : 0 ≤ m) (hm : m < cs.length) (k : WpOpsG A l ((d, .rptr g i m.toNat 0) :: L) HG Q) : WpOpsG A (⟨some d, .iaddr w x ix, none⟩ :: l) L HG Q :=
 WpOpsG.pure (d := some d) (fun Z om fr H hr hf => by
  obtain ⟨u, h1, h2⟩ := hf.x hx
  obtain ⟨y, k1, k2⟩ := hf.x hix
  obtain rfl := k2.v_inv
  obtain ⟨b, o, cap, ex, ps, e, h3⟩ := h2.rsl_inv
  obtain ⟨p, blk, e1, e2, e3⟩ := hr.row hg hi e
  rcases h3 with ⟨b', o', len', cap', ex', w', h4, rfl⟩ | ⟨h4, rfl⟩
  ·rw [h4] at e1; cases e1
   rcases e3.inv with ⟨c, _⟩ | ⟨_, _, _, _, _, c, _⟩
   ·cases c
   ·cases c; exact ⟨.ptr b' (o' + m.toNat * w), by simp only [evOp, h1, k1, if_pos (And.intro h0 hm)], by simpa using VR.rptr (Z := Z) (j := m.toNat) (off := 0) e h4⟩
  ·rw [h4] at e1; cases e1
   rcases e3.inv with ⟨_, rfl, _⟩ | ⟨_, _, _, _, _, c, _⟩
   ·simp at hm; omega
   ·cases c) k
theorem G.load1R {d g w i j off : Nat} {x : AX} {rows : List (Option (List (List GV)))} {cs : List (List GV)} {c : List GV} {v : GV} (hx : lkGX L x = some (.rptr g i j off)) (hg : lkP HG g = some (.mat w rows)) (hi : rows[i]? = some (some cs)) (hc : cs[j]? = some c) (hv : c[off]? = some v) (k : WpOpsG A l ((d, v) :: L) HG Q) : WpOpsG A (⟨some d, .load1 x, none⟩ :: l) L HG Q :=
 WpOpsG.pure (d := some d) (fun Z om fr H hr hf => by
  obtain ⟨u, h1, h2⟩ := hf.x hx
  obtain ⟨b, p, cap, ex, ps, b', o', len', cap', ex', w', e, h4, rfl⟩ := h2.rptr_inv
  obtain ⟨p, blk, e1, e2, e3⟩ := hr.row hg hi e
  rw [h4] at e1; cases e1
  rcases e3.inv with ⟨c, _⟩ | ⟨_, _, _, _, blk', c, _, r1, r2, r3, r4, r5, r6, r7⟩
  ·cases c
  ·cases c
   obtain ⟨a, a1, a2⟩ := (r7 j c hc).2 off v hv
   exact ⟨a, by simp only [evOp, h1, getN, r1, take1 a1], .pure a2⟩) k
theorem ArrAt.put {Z : ZM} {cells bs : List AV} {o w i off : Nat} {cs : List (List GV)} {c c' vs : List GV} {ws : List AV} (h : ArrAt Z cells o w cs) (hc : cs[i]? = some c) (hp : putG c off vs = some c') (hl : vs.length = ws.length)
 (hv : ∀ (i : Nat) (v : GV) (a : AV), vs[i]? = some v → ws[i]? = some a → PR Z v a) (e3 : ∀ j, bs[j]? = if o + i * w + off ≤ j ∧ j < o + i * w + off + ws.length then ws[j - (o + i * w + off)]? else cells[j]?) : ArrAt Z bs o w (cs.set i c') := by
 have hlt : i < cs.length := (List.getElem?_eq_some_iff.1 hc).1
 obtain ⟨p1, p2, p3⟩ := putG_len hp
 have hcw := (h i c hc).1
 intro j d hd
 rw [List.getElem?_set] at hd
 by_cases hij : i = j
 ·subst hij
  rw [if_pos rfl, if_pos hlt] at hd
  cases hd
  refine ⟨by rw [p1, hcw], fun k' y hy' => ?_⟩
  rw [p3] at hy'
  rw [e3]
  have hk' : k' < w := by
   split at hy'
   ·omega
   ·rw [← hcw]; exact (List.getElem?_eq_some_iff.1 hy').1
  by_cases hr' : off ≤ k' ∧ k' < off + vs.length
  ·rw [if_pos hr'] at hy'
   rw [if_pos (by omega)]
   have hlt' : k' - off < ws.length := by omega
   refine ⟨ws[k' - off], ?_, hv _ _ _ hy' (by simp [hlt'])⟩
   have : o + i * w + k' - (o + i * w + off) = k' - off := by omega
   rw [this]; simp [hlt']
  ·rw [if_neg hr'] at hy'
   rw [if_neg (by omega)]
   exact (h i c hc).2 k' y hy'
 ·rw [if_neg hij] at hd
  refine ⟨(h j d hd).1, fun k' y hy' => ?_⟩
  rw [e3, if_neg ?_]
  ·exact (h j d hd).2 k' y hy'
  ·have hk' : k' < w := by rw [← (h j d hd).1]; exact (List.getElem?_eq_some_iff.1 hy').1
   intro hcon
   rcases Nat.lt_or_gt_of_ne hij with hlt2 | hlt2
   ·have := Nat.mul_le_mul_right w (show i + 1 ≤ j by omega)
    rw [Nat.add_mul] at this; omega
   ·have := Nat.mul_le_mul_right w (show j + 1 ≤ i by omega)
    rw [Nat.add_mul] at this; omega
theorem G.storeR {n g w i j off : Nat} {x y : AX} {v : GV} {rows : List (Option (List (List GV)))} {cs : List (List GV)} {c vs c' : List GV} (hx : lkGX L x = some (.rptr g i j off)) (hy : lkGX L y = some v) (hg : lkP HG g = some (.mat w rows)) (hi : rows[i]? = some (some cs)) (hc : cs[j]? = some c) (hv : v.cs = some vs) (hn : Nat.beq vs.length n = true) (hpl : GV.plL vs = true) (hp : putG c off vs = some c')
 (k : WpOpsG A l L ((g, .mat w (rows.set i (some (cs.set j c')))) :: HG) Q) : WpOpsG A (⟨none, .store n x y, none⟩ :: l) L HG Q :=
 WpOpsG.step (d := none) (v := .tup []) (fun Z om fr H hr hf => by
  obtain ⟨u, h1, h2⟩ := hf.x hx
  obtain ⟨b, o, cap, ex, ps, b', o', len', cap', ex', w', e, h4, rfl⟩ := h2.rptr_inv
  obtain ⟨q, k1, k2⟩ := hf.x hy
  obtain ⟨ws, a1, a2, a3⟩ := k2.cs hv
  have hlt : j < cs.length := (List.getElem?_eq_some_iff.1 hc).1
  have hli : i < rows.length := (List.getElem?_eq_some_iff.1 hi).1
  rcases hr.mat hg with ⟨c1, rfl⟩ | ⟨_, _, _, _, _, blk, c1, c2, c3, c4, c5, c6, c7, c8, c9, c10, c11⟩
  ·simp at hli
  ·rw [e] at c1; cases c1
   have e3 := c9 i _ _ hi h4
   rcases e3.inv with ⟨cc, _⟩ | ⟨_, _, _, _, blk', cc, ec, r1, r2, r3, r4, r5, r6, r7⟩
   ·cases cc
   ·cases cc
    have hbb : b ≠ b' := fun c => c10 i _ h4 c.symm
    have hfit : o' + j * w + off + ws.length ≤ blk'.cells.length := by
     have h3 : (j + 1) * w ≤ cap' * w := Nat.mul_le_mul_right w (by omega)
     rw [Nat.add_mul] at h3
     obtain ⟨p1, p2, p3⟩ := putG_len hp
     have := (r7 j c hc).1
     have := r5.1; omega
    obtain ⟨bs, e1⟩ := putAt_ok hfit
    obtain ⟨_, e2, e4⟩ := putAt_some e1
    have hid : idOf om g b' := idOf_eq e (.inr ⟨i, _, h4, rfl⟩)
    have hmate := fun m (hm : blk'.mate = some m) => hr.mate g b' blk' m (by rw [hg]; rfl) hid r1 hm
    have hob : ∀ c, c ≠ b' → idOf om g c → (H.upd b' blk' bs).blks.get c = H.blks.get c := fun c n ic => Heap.upd_ne n fun hm => (hmate c hm).2.2 g (by rw [hg]; rfl) ic
    obtain ⟨q1, q2⟩ := hr.upd (g := g) (by rw [hg]; rfl) hid r1 (cs := bs) (nb := .mat w (rows.set i (some (cs.set j c'))))
     (.mat e (by rw [hob b hbb (idOf_eq e (.inl rfl))]; exact c2) c3 c4 (by rw [List.length_set]; exact c5) (by rw [List.length_set]; exact c6) c7 (by rw [List.length_set]; exact c8)
       (fun i' r p hr' hp' => by
         by_cases hii : i' = i
         ·subst hii
          rw [List.getElem?_set_self hli] at hr'
          cases hr'
          rw [h4] at hp'; cases hp'
          have := RowAt.sl (Z := Z) (H := H.upd b' blk' bs) (w := w) (o := o') (cap := cap') (ex := ex') (cs := cs.set j c') (blk := ⟨bs, true, none, blk'.es⟩) (Heap.upd_self rfl) rfl r3 (by rw [List.length_set]; exact r4) (by show SzOk _ bs.length _ _ _; rw [e2]; exact r5) (by rw [List.length_set]; exact r6)
           (r7.put hc hp a2 (fun k v a ev ea => (a3 k v a ev ea).toPR (GV.plL_at hpl ev)) e4)
          rw [List.length_set] at this
          rw [ec]; exact this
         ·rw [List.getElem?_set_ne (fun c => hii c.symm)] at hr'
          refine (c9 i' r p hr' hp').keep (.refl _) fun c hc' => hob c (fun cc => ?_) (idOf_eq e (.inr ⟨i', p, hp', hc'⟩))
          subst cc
          exact hii (c11 i' i p _ c hp' h4 hc' rfl)) c10 c11)
    have hl : ws.length = n := by rw [← a2]; exact Nat.eq_of_beq_eq_true hn
    exact WpOp.eval (by simp only [evOp, h1, k1, a1, if_pos hl, Heap.write_upd r1 r2 e1]) ⟨Z, om, q1, hf, .tup (as := []) rfl (fun i c a h => by cases i <;> cases h), q2⟩) k
end
end Go.AM
set_option linter.all false
set_option maxRecDepth 10000
namespace Go.AM
/-! rows of rows: made, given rows, made values -/
theorem fzL_mp {g : Nat} {v : GV} : ∀ {cs : List GV}, GV.fzL g v cs = mpC (GV.fz g v) cs
 | [] => rfl
 | c :: r => by rw [GV.fzL, mpC, fzL_mp]
theorem mpC_mpC {f h : GV → GV} : ∀ {cs : List GV}, mpC f (mpC h cs) = mpC (fun v => f (h v)) cs
 | [] => rfl
 | c :: r => by rw [mpC, mpC, mpC, mpC_mpC]
theorem fzB_mp {g : Nat} {v : GV} (b : GBlk) : fzB g v b = mpB (GV.fz g v) b := by cases b <;> simp only [fzB, mpB, fzL_mp]
theorem mpB_mpB {f h : GV → GV} (b : GBlk) : mpB f (mpB h b) = mpB (fun v => f (h v)) b := by cases b <;> simp only [mpB, mpC_mpC]
theorem not_nailed {g : Nat} {l : OL} (hmv : (Nat.ble 8 g && Nat.blt g 10) = false) (hb : ∀ b, l ≠ .box b) : ¬ nailed g l := fun ⟨n1, n2⟩ => by
 rcases n2 with n2 | ⟨b, rfl⟩
 ·rw [Eq.mpr Nat.ble_eq n2, Bool.true_and] at hmv
  have : Nat.blt g 10 = true := Eq.mpr Nat.ble_eq n1
  rw [this] at hmv; cases hmv
 ·exact hb b rfl
section
variable {Z : ZM} {om : Om} {HG : GHp} {H : Heap}
theorem GRel.asRow (h : GRel Z om HG H) {g w : Nat} {full : Fl} {cs : List (List GV)} (e : lkP HG g = some (.arr full w cs)) (hfull : ∀ ex len cap, FlOk full ex len cap → ex = true ∨ len = cap) {a : AV} (ha : VR Z om (.osl g) a) :
 ∃ p, RowAt Z H w (some cs) p (some a) ∧ (∀ b, p.has b ↔ idOf om g b) ∧ a.cs = some [a] := by
 rcases h.arr e with ⟨c1, rfl⟩ | ⟨b, o, cap, ex, blk, c1, c2, c3, c4, c5, c6, c7, c8⟩
 ·rcases ha.osl_inv with ⟨_, _, _, _, _, _, e', rfl⟩ | ⟨e', rfl⟩
  ·rw [c1] at e'; cases e'
  ·exact ⟨.nil, .nil, fun b => ⟨fun h => h.elim, fun i => (idOf_nil c1 i).elim⟩, rfl⟩
 ·rcases ha.osl_inv with ⟨_, _, _, _, _, _, e', rfl⟩ | ⟨e', rfl⟩
  ·rw [c1] at e'; cases e'
   exact ⟨.sl b o cs.length cap ex w, .sl c2 c3 c4 c5 c6 (hfull _ _ _ c7) c8, fun b' => ⟨fun h => idOf_eq c1 h, fun i => idOf_of i c1⟩, rfl⟩
  ·rw [c1] at e'; cases e'
def Om.del (om : Om) (g : Nat) : Om := om.cut fun k => !Nat.beq k g
theorem Om.del_ne {om : Om} {g k : Nat} (n : k ≠ g) : om.del g k = om k := by
 unfold Om.del Om.cut
 rw [if_pos]
 cases hb : Nat.beq k g with
 | true => exact absurd (Nat.eq_of_beq_eq_true hb) n
 | false => simp only [hb, Bool.not_false]
theorem Om.del_self {om : Om} {g : Nat} : om.del g g = none := by unfold Om.del Om.cut; rw [if_neg]; simp
theorem VR.del {u : GV} {a : AV} {g : Nat} (h : VR Z om u a) : VR Z (om.del g) (GV.fz g .any u) a := h.fz (.refl _) (fun k n => Om.del_ne n) (fun _ _ => .any)
theorem GRel.putRow (hr : GRel Z om HG H) {g g' w i : Nat} {rows : List (Option (List (List GV)))} {full : Fl} {cs : List (List GV)} (hmv : (Nat.ble 8 g && Nat.blt g 10) = false) (hmv' : (Nat.ble 8 g' && Nat.blt g' 10) = false)
 (hg : lkP HG g = some (.mat w rows)) (hg' : lkP HG g' = some (.arr full w cs)) (hfull : ∀ ex len cap, FlOk full ex len cap → ex = true ∨ len = cap) (hi : i < rows.length) {a : AV} (ha : VR Z om (.osl g') a) {b o cap : Nat} {ex : Bool} {ps : List RP} (hom : om g = some (.mat b o cap ex ps)) :
 ∃ blk bs om', H.blks.get b = some blk ∧ blk.wr = true ∧ putAt blk.cells (o + i * 1) [a] = some bs ∧ GRel Z om' ((g, .mat w (rows.set i (some cs))) :: mpH (GV.sr g) (fzH g' .any HG)) (H.upd b blk bs) ∧
   (∀ v a, VR Z om v a → VR Z om' ((GV.fz g' .any v).sr g) a) ∧ Ext Z om HG H Z om' ((g, .mat w (rows.set i (some cs))) :: mpH (GV.sr g) (fzH g' .any HG)) (H.upd b blk bs) := by
 have hne : g ≠ g' := fun c => by rw [c, hg'] at hg; cases hg
 have eS : (lkP HG g).isSome = true := by rw [hg]; rfl
 have eS' : (lkP HG g').isSome = true := by rw [hg']; rfl
 rcases hr.mat hg with ⟨c1, rfl⟩ | ⟨_, _, _, _, _, blk, c1, c2, c3, c4, c5, c6, c7, c8, c9, c10, c11⟩
 ·simp at hi
 ·rw [hom] at c1; cases c1
  obtain ⟨p', r1, r2, _⟩ := hr.asRow hg' hfull ha
  have hlp : i < ps.length := by omega
  have hlt : o + i * 1 + [a].length ≤ blk.cells.length := by have := c7.1; simp; omega
  obtain ⟨bs, e1⟩ := putAt_ok hlt
  obtain ⟨_, e2, e3⟩ := putAt_some e1
  have hidb : idOf om g b := idOf_eq hom (.inl rfl)
  have hmate := fun m (hm : blk.mate = some m) => hr.mate g b blk m eS hidb c2 hm
  have hupd : ∀ k c, (lkP HG k).isSome = true → c ≠ b → idOf om k c → (H.upd b blk bs).blks.get c = H.blks.get c := fun k c e n ic => Heap.upd_ne n fun hm => (hmate c hm).2.2 k e ic
  let om' : Om := (om.del g').set g (.mat b o cap ex (ps.set i p'))
  have o1 : om' g = some (.mat b o cap ex (ps.set i p')) := Om.set_self ..
  have o2 : om' g' = none := by show (om.del g').set g _ g' = none; rw [Om.set_ne (fun c => hne c.symm)]; exact Om.del_self
  have o3 : ∀ k, k ≠ g → k ≠ g' → om' k = om k := fun k n n' => by show (om.del g').set g _ k = _; rw [Om.set_ne n, Om.del_ne n']
  have hV : ∀ v a, VR Z om v a → VR Z om' ((GV.fz g' .any v).sr g) a := fun v a h =>
   (h.del (g := g')).sr (fun k n => Om.set_ne n) (fun b' o' cap' ex' ps' e => by
     rw [Om.del_ne hne, hom] at e; cases e
     exact ⟨_, o1, List.length_set ..⟩) ⟨_, _, _, _, _, by rw [Om.del_ne hne]; exact hom⟩
  have hp'sep : ∀ c, p'.has c → idOf om g' c := fun c h => (r2 c).1 h
  have hids : ∀ c, idOf om' g c → c = b ∨ (∃ j p, j ≠ i ∧ ps[j]? = some p ∧ p.has c) ∨ p'.has c := fun c ic => by
   rcases (idOf_of ic o1 : b = c ∨ _) with h | ⟨j, p, h1, h2⟩
   ·exact .inl h.symm
   ·by_cases hj : j = i
    ·subst hj
     rw [List.getElem?_set_self hlp] at h1; cases h1
     exact .inr (.inr h2)
    ·rw [List.getElem?_set_ne (fun c => hj c.symm)] at h1
     exact .inr (.inl ⟨j, p, hj, h1, h2⟩)
  have hids2 : ∀ c, idOf om' g c → (∃ k0, (k0 = g ∨ k0 = g') ∧ (lkP HG k0).isSome = true ∧ idOf om k0 c) := fun c ic => by
   rcases hids c ic with rfl | ⟨j, p, _, h1, h2⟩ | h
   ·exact ⟨g, .inl rfl, eS, hidb⟩
   ·exact ⟨g, .inl rfl, eS, idOf_eq hom (.inr ⟨j, p, h1, h2⟩)⟩
   ·exact ⟨g', .inr rfl, eS', hp'sep c h⟩
  have hgen := hr.gen (fun k => k = g ∨ k = g') (fun v => (GV.fz g' .any v).sr g) (om' := om') (HG' := (g, .mat w (rows.set i (some cs))) :: mpH (GV.sr g) (fzH g' .any HG)) (H' := H.upd b blk bs)
   (fun k n => o3 k (fun c => n (.inl c)) (fun c => n (.inr c)))
   (fun k n => by
     rw [lkP_cons, if_neg (fun c => n (.inl c.symm)), lkP_mpH, lkP_fzH, if_neg (fun c => n (.inr c))]
     cases lkP HG k with
     | none => rfl
     | some x => show some (mpB (GV.sr g) (fzB g' .any x)) = some (mpB _ x); rw [fzB_mp, mpB_mpB])
   hV
   (fun k t e => by
     rcases t with rfl | rfl
     ·rw [lkP_cons, if_pos rfl] at e; cases e
     ·exact o2)
   (fun k x t e => by
     rcases t with rfl | rfl
     ·rw [lkP_cons, if_pos rfl] at e; cases e
      refine .mat (blk := ⟨bs, true, none, blk.es⟩) o1 (Heap.upd_self rfl) rfl c4 (by rw [List.length_set, List.length_set]; exact c5) (by rw [List.length_set]; exact c6) (by show SzOk _ bs.length _ _ _; rw [e2]; exact c7) (by rw [List.length_set]; exact c8) (fun j r p e4 e5 => ?_) (fun j p e5 hc => ?_) (fun j j' p q c e5 e6 hc hc' => ?_)
      ·show RowAt Z _ w r p bs[o + j]?
       by_cases hj : j = i
       ·subst hj
        rw [List.getElem?_set_self hi] at e4; cases e4
        rw [List.getElem?_set_self hlp] at e5; cases e5
        rw [e3, if_pos ⟨by omega, by simp⟩]
        have : o + j - (o + j * 1) = 0 := by omega
        rw [this]
        exact r1.keep (.refl _) fun c hc => hupd g' c eS' (fun cc => by subst cc; exact hr.sep k g' c hne eS eS' hidb (hp'sep c hc)) (hp'sep c hc)
       ·rw [List.getElem?_set_ne (fun c => hj c.symm)] at e4 e5
        rw [e3, if_neg (by simp; omega)]
        exact (c9 j r p e4 e5).keep (.refl _) fun c hc => hupd k c eS (fun cc => by subst cc; exact c10 j p e5 hc) (idOf_eq hom (.inr ⟨j, p, e5, hc⟩))
      ·by_cases hj : j = i
       ·subst hj
        rw [List.getElem?_set_self hlp] at e5; cases e5
        exact hr.sep k g' b hne eS eS' hidb (hp'sep b hc)
       ·rw [List.getElem?_set_ne (fun c => hj c.symm)] at e5
        exact c10 j p e5 hc
      ·by_cases hj : j = i
       ·subst hj
        rw [List.getElem?_set_self hlp] at e5; cases e5
        by_cases hj' : j' = j
        ·exact hj'.symm
        ·rw [List.getElem?_set_ne (fun c => hj' c.symm)] at e6
         exact absurd (hp'sep c hc) (hr.sep k g' c hne eS eS' (idOf_eq hom (.inr ⟨j', q, e6, hc'⟩)))
       ·rw [List.getElem?_set_ne (fun c => hj c.symm)] at e5
        by_cases hj' : j' = i
        ·subst hj'
         rw [List.getElem?_set_self hlp] at e6; cases e6
         exact absurd (hp'sep c hc') (hr.sep k g' c hne eS eS' (idOf_eq hom (.inr ⟨j, p, e5, hc⟩)))
        ·rw [List.getElem?_set_ne (fun c => hj' c.symm)] at e6
         exact c11 j j' p q c e5 e6 hc hc'
     ·rw [lkP_cons, if_neg hne, lkP_mpH, lkP_fzH, if_pos rfl] at e; cases e)
   (Nat.le_refl _)
   (fun c hc n1 n2 => Heap.upd_ne (fun cc => n1 ⟨g, .inl rfl, eS, by rw [cc]; exact hidb⟩) (n2 g b blk (.inl rfl) eS hidb c2))
   (fun k c t ic => by
     rcases t with rfl | rfl
     ·exact .inl (hids2 c ic)
     ·exact absurd ic (idOf_no o2))
   (fun k k' c t t' n ic ic' => by
     rcases t with rfl | rfl
     ·rcases t' with rfl | rfl
      ·exact n rfl
      ·exact absurd ic' (idOf_no o2)
     ·exact absurd ic (idOf_no o2))
   (fun k c blk1 m t ic hb hm => by
     rcases t with rfl | rfl
     ·right
      obtain ⟨k0, t0, e0, i0⟩ := hids2 c ic
      by_cases cb : c = b
      ·rw [cb, Heap.upd_self rfl] at hb; cases hb; cases hm
      ·rw [hupd k0 c e0 cb i0] at hb
       exact ⟨k0, t0, e0, i0, blk1, hb, hm⟩
     ·exact absurd ic (idOf_no o2))
   (fun k l t hn e => by
     rcases t with rfl | rfl
     ·rw [hom] at e; cases e
      exact absurd hn (not_nailed hmv (fun _ c => by cases c))
     ·exact absurd hn (not_nailed hmv' (fun b0 c => by subst c; rcases hr.arr hg' with ⟨c1, _⟩ | ⟨_, _, _, _, _, c1, _⟩ <;> rw [c1] at e <;> cases e)))
  exact ⟨blk, bs, om', c2, c3, e1, hgen.1, hV, hgen.2⟩
end
section
variable {A : AProg} {L : GFr} {HG : GHp} {l : List AOper} {Q : GFr → GHp → Prop}
def Fl.isYes : Fl → Bool
 | .yes => true
 | .rm 0 => true
 | _ => false
theorem flYes {full : Fl} (h : full.isYes = true) : ∀ ex len cap, FlOk full ex len cap → ex = true ∨ len = cap := fun ex len cap k => by
 cases full with
 | no => cases h
 | yes => exact k
 | rm r => cases r with
   | zero => right; have : cap = len + 0 := k; omega
   | succ r => cases h
theorem G.storeMt {n g g' w i : Nat} {x y : AX} {rows : List (Option (List (List GV)))} {full : Fl} {cs : List (List GV)} (hx : lkGX L x = some (.mptr g i)) (hy : lkGX L y = some (.osl g')) (hg : lkP HG g = some (.mat w rows)) (hg' : lkP HG g' = some (.arr full w cs)) (hi : i < rows.length)
 (k : WpOpsG A l (mpL (fun v => (GV.fz g' .any v).sr g) L) ((g, .mat w (rows.set i (some cs))) :: mpH (GV.sr g) (fzH g' .any HG)) Q)
 (hn : Nat.beq 1 n = true := by rfl) (hfull : full.isYes = true := by rfl) (hmv : (Nat.ble 8 g && Nat.blt g 10) = false := by rfl) (hmv' : (Nat.ble 8 g' && Nat.blt g' 10) = false := by rfl) : WpOpsG A (⟨none, .store n x y, none⟩ :: l) L HG Q :=
 WpOpsG.step (d := none) (v := .tup []) (L1 := mpL (fun v => (GV.fz g' .any v).sr g) L) (fun Z om fr H hr hf => by
  obtain ⟨u, h1, h2⟩ := hf.x hx
  obtain ⟨b, o, cap, ex, ps, e, rfl⟩ := h2.mptr_inv
  obtain ⟨q, k1, k2⟩ := hf.x hy
  obtain ⟨blk, bs, om', c2, c3, e1, r1, r2, r3⟩ := hr.putRow hmv hmv' hg hg' (flYes hfull) hi k2 e
  obtain ⟨_, _, _, hcs⟩ := hr.asRow hg' (flYes hfull) k2
  have hn' : 1 = n := Nat.eq_of_beq_eq_true hn
  exact WpOp.eval (by simp only [evOp, h1, k1, hcs, List.length_cons, List.length_nil, Nat.zero_add, if_pos hn', Heap.write_upd c2 c3 e1]) ⟨Z, om', r1, hf.mp r2, .tup (as := []) rfl (fun i c a h => by cases i <;> cases h), r3⟩) k
end
end Go.AM
set_option linter.all false
set_option maxRecDepth 10000
namespace Go.AM
section
variable {Z : ZM} {om : Om} {HG : GHp} {H : Heap}
theorem GRel.toMat (hr : GRel Z om HG H) {g n : Nat} (w : Nat) {full : Fl} (hmv : (Nat.ble 8 g && Nat.blt g 10) = false) (hg : lkP HG g = some (.arr full 1 (List.replicate n [.v (.slice none 0 0)]))) (hfull : ∀ ex len cap, FlOk full ex len cap → ex = true ∨ len = cap) :
 ∃ om', GRel Z om' ((g, .mat w (List.replicate n (some []))) :: mpH (GV.fz g (.msl g)) HG) H ∧ (∀ v a, VR Z om v a → VR Z om' (GV.fz g (.msl g) v) a) ∧ Ext Z om HG H Z om' ((g, .mat w (List.replicate n (some []))) :: mpH (GV.fz g (.msl g)) HG) H := by
 have eS : (lkP HG g).isSome = true := by rw [hg]; rfl
 have key : ∀ om' : Om, (∀ k, k ≠ g → om' k = om k) → (∀ b, idOf om' g b → idOf om g b) → (∀ a, VR Z om (.osl g) a ∨ VR Z om (.msl g) a → VR Z om' (.msl g) a) → BR Z om' H g (.mat w (List.replicate n (some []))) → (∀ b, om g ≠ some (.box b)) → (∀ b, idOf om' g b → idOf om g b) →
  GRel Z om' ((g, .mat w (List.replicate n (some []))) :: mpH (GV.fz g (.msl g)) HG) H ∧ (∀ v a, VR Z om v a → VR Z om' (GV.fz g (.msl g) v) a) ∧ Ext Z om HG H Z om' ((g, .mat w (List.replicate n (some []))) :: mpH (GV.fz g (.msl g)) HG) H := fun om' ho hi hv hB hnb hi2 => by
  have hV : ∀ v a, VR Z om v a → VR Z om' (GV.fz g (.msl g) v) a := fun v a h => h.fz (.refl _) ho hv
  have := hr.gen (fun k => k = g) (GV.fz g (.msl g)) (om' := om') (HG' := (g, .mat w (List.replicate n (some []))) :: mpH (GV.fz g (.msl g)) HG) (H' := H) ho
   (fun k n => by rw [lkP_cons, if_neg (fun c => n c.symm), lkP_mpH]) hV
   (fun k t e => by rw [t, lkP_cons, if_pos rfl] at e; cases e)
   (fun k x t e => by subst t; rw [lkP_cons, if_pos rfl] at e; cases e; exact hB)
   (Nat.le_refl _) (fun _ _ _ _ => rfl)
   (fun k c t ic => by subst t; exact .inl ⟨k, rfl, eS, hi c ic⟩)
   (fun k k' c t t' n => absurd (t.trans t'.symm) n)
   (fun k c blk m t ic hb hm => by subst t; exact .inr ⟨k, rfl, eS, hi c ic, blk, hb, hm⟩)
   (fun k l t hn e => by subst t; exact absurd hn (not_nailed hmv fun b c => hnb b (by rw [e, c])))
  exact ⟨this.1, hV, this.2⟩
 rcases hr.arr hg with ⟨c1, c0⟩ | ⟨b, o, cap, ex, blk, c1, c2, c3, c4, c5, c6, c7, c8⟩
 ·refine ⟨om, key om (fun _ _ => rfl) (fun _ h => h) (fun a h => ?_) ?_ (fun b c => by rw [c1] at c; cases c) (fun _ h => h)⟩
  ·rcases h with h | h
   ·rcases h.osl_inv with ⟨_, _, _, _, _, _, e, rfl⟩ | ⟨e, rfl⟩
    ·rw [c1] at e; cases e
    ·exact .mnil e
   ·exact h
  ·have : n = 0 := by simpa using c0
   subst this
   exact .mnil c1
 ·rw [List.length_replicate] at c1 c5 c7
  have hset : om.set g (.mat b o cap ex (List.replicate n .nil)) g = some (.mat b o cap ex (List.replicate n .nil)) := Om.set_self ..
  have hids : ∀ c, idOf (om.set g (.mat b o cap ex (List.replicate n .nil))) g c → idOf om g c := fun c ic => by
   rcases (idOf_of ic hset : b = c ∨ _) with h | ⟨j, p, h1, h2⟩
   ·exact idOf_eq c1 h
   ·rw [List.getElem?_replicate] at h1
    split at h1
    ·cases h1; cases h2
    ·cases h1
  refine ⟨_, key (om.set g (.mat b o cap ex (List.replicate n .nil))) (fun k n => Om.set_ne n) hids (fun a h => ?_) ?_ (fun b c => by rw [c1] at c; cases c) hids⟩
  ·rcases h with h | h
   ·rcases h.osl_inv with ⟨_, _, _, _, _, _, e, rfl⟩ | ⟨e, rfl⟩
    ·rw [c1] at e; cases e
     have := VR.msl (Z := Z) hset
     rwa [List.length_replicate] at this
    ·rw [c1] at e; cases e
   ·rcases h.msl_inv with ⟨_, _, _, _, _, e, rfl⟩ | ⟨e, rfl⟩ <;> rw [c1] at e <;> cases e
  ·refine .mat hset c2 c3 c4 (by simp) (by simpa using c5) c6 (by simpa using hfull _ _ _ c7) (fun i r p e1 e2 => ?_) (fun i p e1 h => ?_) (fun i j p q c e1 e2 h => ?_)
   ·rw [List.getElem?_replicate] at e1 e2
    split at e1
    ·rename_i hi
     rw [if_pos hi] at e2
     cases e1; cases e2
     obtain ⟨a, h1, h2⟩ := (c8 i [.v (.slice none 0 0)] (by rw [List.getElem?_replicate, if_pos hi])).2 0 _ rfl
     cases h2
     rw [show o + i = o + i * 1 + 0 by omega, h1]
     exact .nil
    ·cases e1
   ·rw [List.getElem?_replicate] at e1
    split at e1
    ·cases e1; cases h
    ·cases e1
   ·rw [List.getElem?_replicate] at e1
    split at e1
    ·cases e1; cases h
    ·cases e1
end
section
variable {A : AProg} {L : GFr} {HG : GHp} {l : List AOper}
theorem WpG.toMat {c : AC} {Q : AE → GFr → GHp → Prop} (g w : Nat) {n : Nat} {full : Fl} (hg : lkP HG g = some (.arr full 1 (List.replicate n [.v (.slice none 0 0)]))) (h : WpG A c (mpL (GV.fz g (.msl g)) L) ((g, .mat w (List.replicate n (some []))) :: mpH (GV.fz g (.msl g)) HG) Q)
 (hfull : full.isYes = true := by rfl) (hmv : (Nat.ble 8 g && Nat.blt g 10) = false := by rfl) : WpG A c L HG Q := fun Z om fr H hr hf => by
 obtain ⟨om', r1, r2, r3⟩ := hr.toMat w hmv hg (flYes hfull)
 refine (h Z om' fr H r1 (hf.mp r2)).mono ?_
 rintro e fr' H' ⟨Z2, om2, L2, HG2, a2, b2, c2, d2⟩
 exact ⟨Z2, om2, L2, HG2, a2, b2, r3.trans c2, d2⟩
theorem WpOpsG.toMat {Q : GFr → GHp → Prop} (g w : Nat) {n : Nat} {full : Fl} (hg : lkP HG g = some (.arr full 1 (List.replicate n [.v (.slice none 0 0)]))) (h : WpOpsG A l (mpL (GV.fz g (.msl g)) L) ((g, .mat w (List.replicate n (some []))) :: mpH (GV.fz g (.msl g)) HG) Q)
 (hfull : full.isYes = true := by rfl) (hmv : (Nat.ble 8 g && Nat.blt g 10) = false := by rfl) : WpOpsG A l L HG Q := fun Z om fr H hr hf => by
 obtain ⟨om', r1, r2, r3⟩ := hr.toMat w hmv hg (flYes hfull)
 refine (h Z om' fr H r1 (hf.mp r2)).mono ?_
 rintro fr' H' ⟨Z2, om2, L2, HG2, a2, b2, c2, d2⟩
 exact ⟨Z2, om2, L2, HG2, a2, b2, r3.trans c2, d2⟩
theorem WpG.ownNilM {c : AC} {g k : Nat} (w : Nat) {Q : AE → GFr → GHp → Prop} (hx : lkP L k = some (.v (.slice none 0 0))) (hg : (lkP HG g).isNone = true) (h : WpG A c ((k, .msl g) :: L) ((g, .mat w []) :: HG) Q) : WpG A c L HG Q := fun Z om fr H hr hf => by
 have hg' : lkP HG g = none := by simpa using hg
 have hr1 := hr.nil (full := .yes) (w := w) hg'
 have hB : BR Z (om.set g .nil) H g (.mat w []) := .mnil (Om.set_self ..)
 have hf1 : FR Z (om.set g .nil) ((k, .msl g) :: L) fr := fun j v e => by
  rw [lkP_cons] at e
  split at e
  ·rename_i c
   cases e
   obtain ⟨a, h1, h2⟩ := hf k _ hx
   obtain rfl := h2.v_inv
   exact ⟨_, by rw [← c]; exact h1, .mnil (Om.set_self ..)⟩
  ·obtain ⟨a, h1, h2⟩ := hf j v e
   exact ⟨a, h1, h2.mono (.refl _) (Om.le_set _ _ _ (hr.dom g hg'))⟩
 obtain ⟨r1, r2⟩ := hr1.1.reblk (g := g) (ob := .arr .yes w []) (by rw [lkP_cons, if_pos rfl]) hB
 have hle : HLe ((g, GBlk.mat w []) :: HG) ((g, GBlk.mat w []) :: (g, .arr .yes w []) :: HG) := fun j b e => by
  rw [lkP_cons] at e ⊢
  split at e
  ·rename_i c; rw [if_pos c]; exact e
  ·rename_i c; rw [if_neg c, lkP_cons, if_neg c]; exact e
 have hle' : HLe ((g, GBlk.mat w []) :: (g, .arr .yes w []) :: HG) ((g, GBlk.mat w []) :: HG) := fun j b e => by
  rw [lkP_cons] at e ⊢
  split at e
  ·rename_i c; rw [if_pos c]; exact e
  ·rename_i c; rw [lkP_cons, if_neg c] at e; rw [if_neg c]; exact e
 have r3 : GRel Z (om.set g .nil) ((g, GBlk.mat w []) :: HG) H := by
  refine ⟨fun j e => r1.dom j ?_, r1.zok, fun j b e => r1.own j b (hle j b e), fun a b c n e e' => r1.sep a b c n (hle.isSome e) (hle.isSome e'), fun a b e => r1.zsep a b (hle.isSome e), fun a b blk m e i hb hm => ?_⟩
  ·cases hx : lkP ((g, GBlk.mat w []) :: (g, .arr .yes w []) :: HG) j with
   | none => rfl
   | some x => rw [hle' j x hx] at e; cases e
  ·obtain ⟨a1, a2, a3⟩ := r1.mate a b blk m (hle.isSome e) i hb hm
   exact ⟨a1, a2, fun g' e' => a3 g' (hle.isSome e')⟩
 have r4 : Ext Z (om.set g .nil) ((g, GBlk.mat w []) :: (g, .arr .yes w []) :: HG) H Z (om.set g .nil) ((g, GBlk.mat w []) :: HG) H :=
  ⟨Nat.le_refl _, .refl _, fun _ _ _ => ⟨rfl, rfl⟩, fun b _ hf => let ⟨j, e, f⟩ := hf; ⟨j, hle.isSome e, f⟩, fun _ _ _ h => h, fun b _ ho => let ⟨j, e, f⟩ := ho; ⟨j, hle.isSome e, f⟩, fun _ _ h k => absurd h k⟩
 refine (h Z _ fr H r3 hf1).mono ?_
 rintro e fr' H' ⟨Z', om', L', HG', a, b, c, d⟩
 exact ⟨Z', om', L', HG', a, b, ((hr1.2.trans r2).trans r4).trans c, d⟩
end
/-! rows of rows become values -/
section
variable {Z : ZM} {om : Om} {HG : GHp} {H : Heap}
open Classical in
theorem GRel.freezeM (hr : GRel Z om HG H) {g w : Nat} {rows : List (Option (List (List GV)))} (hmv : (Nat.ble 8 g && Nat.blt g 10) = false) (hg : lkP HG g = some (.mat w rows)) :
 ∃ Z' om', ZLe Z Z' ∧ GRel Z' om' (fzH g (.fsl 1 (rows.map (fzRow w))) HG) H ∧ (∀ u a, VR Z om u a → VR Z' om' (GV.fz g (.fsl 1 (rows.map (fzRow w))) u) a) ∧ Ext Z om HG H Z' om' (fzH g (.fsl 1 (rows.map (fzRow w))) HG) H := by
 have eS : (lkP HG g).isSome = true := by rw [hg]; rfl
 have hno : ∀ l, om g = some l → ¬ nailed g l := fun l e => not_nailed hmv fun b c => by
  subst c
  rcases hr.mat hg with ⟨c1, _⟩ | ⟨_, _, _, _, _, _, c1, _⟩ <;> rw [c1] at e <;> cases e
 let Z' : ZM := fun b => if idOf om g b then (H.blks.get b).map fun blk => ⟨blk.cells, blk.es⟩ else Z b
 have z1 : ∀ b blk, idOf om g b → H.blks.get b = some blk → Z' b = some ⟨blk.cells, blk.es⟩ := fun b blk i e => by show (if idOf om g b then _ else _) = _; rw [if_pos i, e]; rfl
 have hz : ZLe Z Z' := fun b zb e => by
  show (if idOf om g b then _ else _) = _
  rw [if_neg (fun c => by rw [(hr.zsep g b eS c).1] at e; cases e)]; exact e
 refine ⟨Z', _, hz, hr.fzKey eS hno _ hz (fun b zb e => ?_) (fun a ha => ?_)⟩
 ·by_cases c : idOf om g b
  ·have e' : (if idOf om g b then (H.blks.get b).map fun blk => (⟨blk.cells, blk.es⟩ : ZB) else Z b) = some zb := e
   rw [if_pos c, Option.map_eq_some_iff] at e'
   obtain ⟨blk, e1, rfl⟩ := e'
   exact .inr ⟨c, blk, e1, rfl, rfl⟩
  ·have e' : (if idOf om g b then (H.blks.get b).map fun blk => (⟨blk.cells, blk.es⟩ : ZB) else Z b) = some zb := e
   rw [if_neg c] at e'
   exact .inl e'
 ·rcases hr.mat hg with ⟨c1, rfl⟩ | ⟨b, o, cap, ex, ps, blk, c1, c2, c3, c4, c5, c6, c7, c8, c9, c10, c11⟩
  ·rcases ha with ha | ha
   ·rcases ha.osl_inv with ⟨_, _, _, _, _, _, e', rfl⟩ | ⟨e', rfl⟩
    ·rw [c1] at e'; cases e'
    ·exact .pure .fnil
   ·rcases ha.msl_inv with ⟨_, _, _, _, _, e', rfl⟩ | ⟨e', rfl⟩
    ·rw [c1] at e'; cases e'
    ·exact .pure .fnil
  ·rcases ha with ha | ha
   ·rcases ha.osl_inv with ⟨_, _, _, _, _, _, e', rfl⟩ | ⟨e', rfl⟩ <;> rw [c1] at e' <;> cases e'
   ·rcases ha.msl_inv with ⟨_, _, _, _, _, e', rfl⟩ | ⟨e', rfl⟩
    ·rw [c1] at e'; cases e'
     refine .pure (PR.sl (zb := ⟨blk.cells, blk.es⟩) (z1 b blk (idOf_eq c1 (.inl rfl)) c2) c4 (by rw [List.length_map]; exact c5.symm) (by omega) (fun i c e => ?_))
     rw [List.getElem?_map] at e
     cases hx : rows[i]? with
     | none => rw [hx] at e; cases e
     | some r =>
       rw [hx] at e; cases e
       have hlt : i < ps.length := by rw [← c5]; exact (List.getElem?_eq_some_iff.1 hx).1
       have hps : ps[i]? = some ps[i] := List.getElem?_eq_getElem hlt
       have h9 := c9 i r _ hx hps
       have hcell : ∃ a, blk.cells[o + i * 1 + 0]? = some a := by
        have h7 := c7.1
        have hlt2 : i < rows.length := (List.getElem?_eq_some_iff.1 hx).1
        have : o + i * 1 + 0 < blk.cells.length := by omega
        exact ⟨_, List.getElem?_eq_getElem this⟩
       cases r with
       | none =>
         refine ⟨rfl, fun k x e => ?_⟩
         cases k with
         | zero => obtain ⟨a, ha⟩ := hcell; cases e; exact ⟨a, ha, .any⟩
         | succ k => simp [fzRow] at e
       | some cs =>
         refine ⟨rfl, fun k x e => ?_⟩
         cases k with
         | succ k => simp [fzRow] at e
         | zero =>
           cases e
           rcases h9.inv with ⟨e1, rfl, e2⟩ | ⟨b', o', cap', ex', blk', e1, e2, r1, r2, r3, r4, r5, r6, r7⟩
           ·exact ⟨_, by rw [show o + i * 1 + 0 = o + i by omega]; exact e2, .fnil⟩
           ·refine ⟨_, by rw [show o + i * 1 + 0 = o + i by omega]; exact e2, PR.sl (zb := ⟨blk'.cells, blk'.es⟩) (z1 b' blk' (idOf_eq c1 (.inr ⟨i, _, hps, by rw [e1]; rfl⟩)) r1) r3 rfl r4 (r7.mono hz)⟩
    ·rw [c1] at e'; cases e'
end
section
variable {A : AProg} {L : GFr} {HG : GHp} {l : List AOper}
theorem WpG.freezeMt {c : AC} {Q : AE → GFr → GHp → Prop} (g : Nat) {w : Nat} {rows : List (Option (List (List GV)))} (hg : lkP HG g = some (.mat w rows)) {cs : List (List GV)} (hcs : rows.map (fzRow w) = cs) (h : WpG A c (fzF g (.fsl 1 cs) L) (fzH g (.fsl 1 cs) HG) Q) (hmv : (Nat.ble 8 g && Nat.blt g 10) = false := by rfl) : WpG A c L HG Q := fun Z om fr H hr hf => by
 subst hcs
 obtain ⟨Z', om', h1, h2, h3, h4⟩ := hr.freezeM hmv hg
 refine (h Z' om' fr H h2 (hf.fz h3)).mono ?_
 rintro e fr' H' ⟨Z2, om2, L2, HG2, a2, b2, c2, d2⟩
 exact ⟨Z2, om2, L2, HG2, a2, b2, h4.trans c2, d2⟩
end
end Go.AM
set_option linter.all false
set_option maxRecDepth 10000
namespace Go.AM
/-! square tables of yes and no -/
def bRow (n : Nat) (f : Nat → Bool) : List (List GV) := (List.range n).map fun b => [.v (.bool (f b))]
def bM (n : Nat) (f : Nat → Nat → Bool) : List (Option (List (List GV))) := (List.range n).map fun a => some (bRow n (f a))
def updF (f : Nat → Nat → Bool) (i j : Nat) (x : Bool) : Nat → Nat → Bool := fun a b => if a = i ∧ b = j then x else f a b
theorem bRow_len {n : Nat} {f : Nat → Bool} : (bRow n f).length = n := by simp [bRow]
theorem bM_len {n : Nat} {f : Nat → Nat → Bool} : (bM n f).length = n := by simp [bM]
theorem bRow_at {n i : Nat} {f : Nat → Bool} (h : i < n) : (bRow n f)[i]? = some [.v (.bool (f i))] := by simp [bRow, h]
theorem bM_at {n i : Nat} {f : Nat → Nat → Bool} (h : i < n) : (bM n f)[i]? = some (some (bRow n (f i))) := by simp [bM, h]
theorem bM_at' {n i : Nat} {f : Nat → Nat → Bool} : (bM n f)[i]? = if i < n then some (some (bRow n (f i))) else none := by
 split
 ·rename_i h; exact bM_at h
 ·rename_i h; exact List.getElem?_eq_none (by rw [bM_len]; omega)
theorem bRow_at' {n i : Nat} {f : Nat → Bool} : (bRow n f)[i]? = if i < n then some [.v (.bool (f i))] else none := by
 split
 ·rename_i h; exact bRow_at h
 ·rename_i h; exact List.getElem?_eq_none (by rw [bRow_len]; omega)
theorem bM_ext {n : Nat} {f h : Nat → Nat → Bool} (k : ∀ a b, a < n → b < n → f a b = h a b) : bM n f = bM n h := by
 unfold bM bRow
 refine List.map_congr_left fun a ha => ?_
 rw [List.mem_range] at ha
 congr 1
 refine List.map_congr_left fun b hb => ?_
 rw [List.mem_range] at hb
 rw [k a b ha hb]
theorem bRow_set {n j : Nat} {f : Nat → Bool} {x : Bool} : (bRow n f).set j [.v (.bool x)] = bRow n (fun b => if b = j then x else f b) := by
 refine List.ext_getElem? fun b => ?_
 rw [List.getElem?_set, bRow_len, bRow_at', bRow_at']
 by_cases hb : j = b
 ·subst hb; simp
 ·rw [if_neg hb]
  split
  ·rw [if_neg (fun c => hb c.symm)]
  ·rfl
theorem bM_set {n i : Nat} {f : Nat → Nat → Bool} {h : Nat → Bool} : (bM n f).set i (some (bRow n h)) = bM n (fun a => if a = i then h else f a) := by
 refine List.ext_getElem? fun a => ?_
 rw [List.getElem?_set, bM_len, bM_at', bM_at']
 by_cases ha : i = a
 ·subst ha; simp
 ·rw [if_neg ha]
  split
  ·rw [if_neg (fun c => ha c.symm)]
  ·rfl
theorem bM_upd {n i j : Nat} {f : Nat → Nat → Bool} {x : Bool} : (bM n f).set i (some ((bRow n (f i)).set j [.v (.bool x)])) = bM n (updF f i j x) := by
 rw [bRow_set, bM_set]
 refine bM_ext fun a b ha hb => ?_
 unfold updF
 by_cases c : a = i
 ·subst c; simp
 ·simp [c]
theorem fz_bM {n : Nat} {f : Nat → Nat → Bool} : (bM n f).map (fzRow 1) = (List.range n).map fun a => [.fsl 1 (bRow n (f a))] := by unfold bM; rw [List.map_map]; rfl
section
variable {A : AProg} {L : GFr} {HG : GHp} {l : List AOper} {Q : GFr → GHp → Prop}
theorem G.lenBM {d g n : Nat} {x : AX} {f : Nat → Nat → Bool} (hx : lkGX L x = some (.msl g)) (hg : lkP HG g = some (.mat 1 (bM n f))) (k : WpOpsG A l ((d, .v (.int .i64 n)) :: L) HG Q) : WpOpsG A (⟨some d, .len false x, none⟩ :: l) L HG Q :=
 G.lenMt hx hg (by rw [bM_len]; exact k)
theorem G.iaddrBM {d g n i : Nat} {x ix : AX} {f : Nat → Nat → Bool} {k' : IntKind} (hx : lkGX L x = some (.msl g)) (hg : lkP HG g = some (.mat 1 (bM n f))) (hi : lkGX L ix = some (.v (.int k' (i : Int)))) (h : i < n) (k : WpOpsG A l ((d, .mptr g i) :: L) HG Q) : WpOpsG A (⟨some d, .iaddr 1 x ix, none⟩ :: l) L HG Q :=
 G.iaddrMt (m := (i : Int)) hx hg hi (by omega) (by rw [bM_len]; omega) k
theorem G.load1BM {d g n i : Nat} {x : AX} {f : Nat → Nat → Bool} (hx : lkGX L x = some (.mptr g i)) (hg : lkP HG g = some (.mat 1 (bM n f))) (h : i < n) (k : WpOpsG A l ((d, .rsl g i) :: L) HG Q) : WpOpsG A (⟨some d, .load1 x, none⟩ :: l) L HG Q :=
 G.load1Mt hx hg (bM_at h) k
theorem G.iaddrBR {d g n i j : Nat} {x ix : AX} {f : Nat → Nat → Bool} {k' : IntKind} (hx : lkGX L x = some (.rsl g i)) (hg : lkP HG g = some (.mat 1 (bM n f))) (hi : lkGX L ix = some (.v (.int k' (j : Int)))) (h : i < n) (h2 : j < n) (k : WpOpsG A l ((d, .rptr g i j 0) :: L) HG Q) : WpOpsG A (⟨some d, .iaddr 1 x ix, none⟩ :: l) L HG Q :=
 G.iaddrR (m := (j : Int)) hx hg (bM_at h) hi (by omega) (by rw [bRow_len]; omega) k
theorem G.load1BR {d g n i j : Nat} {x : AX} {f : Nat → Nat → Bool} (hx : lkGX L x = some (.rptr g i j 0)) (hg : lkP HG g = some (.mat 1 (bM n f))) (h : i < n) (h2 : j < n) (k : WpOpsG A l ((d, .v (.bool (f i j))) :: L) HG Q) : WpOpsG A (⟨some d, .load1 x, none⟩ :: l) L HG Q :=
 G.load1R hx hg (bM_at h) (bRow_at h2) rfl k
theorem G.storeBR {g n i j : Nat} {x y : AX} {f : Nat → Nat → Bool} {b : Bool} (hx : lkGX L x = some (.rptr g i j 0)) (hy : lkGX L y = some (.v (.bool b))) (hg : lkP HG g = some (.mat 1 (bM n f))) (h : i < n) (h2 : j < n)
 (k : WpOpsG A l L ((g, .mat 1 (bM n (updF f i j b))) :: HG) Q) : WpOpsG A (⟨none, .store 1 x y, none⟩ :: l) L HG Q :=
 G.storeR (vs := [.v (.bool b)]) (c' := [.v (.bool b)]) hx hy hg (bM_at h) (bRow_at h2) rfl rfl rfl rfl (by rw [bM_upd]; exact k)
end
end Go.AM
namespace Go.AM
def dstNe (g : Nat) : List AOper → Bool
 | [] => true
 | o :: r => (match o.dst with | some d => !Nat.beq d g | none => true) && dstNe g r
theorem dstNe_at {g : Nat} : ∀ {l : List AOper}, dstNe g l = true → ∀ o ∈ l, o.dst ≠ some g
 | [], _, o, h => by cases h
 | p :: r, h, o, ho => by
   rw [dstNe, Bool.and_eq_true] at h
   rcases List.mem_cons.1 ho with rfl | ho
   ·intro c
    have := h.1
    rw [c] at this
    simp at this
   ·exact dstNe_at h.2 o ho
theorem WpOpsG.known {A : AProg} {L : GFr} {HG : GHp} {l : List AOper} {Q : GFr → GHp → Prop} (g : Nat) (w : Bool) (hg : lkP L g = some (.v (.bool w))) (hd : dstNe g l = true) (h : WpOpsG A (strip g w l) L HG Q) : WpOpsG A l L HG Q := fun Z om fr H hr hf => by
 obtain ⟨n, f, f0, H', h1, h2, h3⟩ := h Z om fr H hr hf
 refine ⟨n, f, f0, H', ?_, h2, h3⟩
 obtain ⟨a, e1, e2⟩ := hf g _ hg
 obtain rfl := e2.v_inv
 rw [strip_ok e1 (dstNe_at hd)]
 exact h1
end Go.AM
set_option linter.all false
set_option maxRecDepth 10000
namespace Go.AM
section
variable {Z : ZM} {om : Om} {HG : GHp} {H : Heap}
end
section
variable {A : AProg} {L : GFr} {HG : GHp} {l : List AOper} {Q : GFr → GHp → Prop}
def SrcR (HG : GHp) (L : GFr) (w : Nat) (y : AX) (ds : List (List GV)) : Prop :=
 ∀ Z om fr H, GRel Z om HG H → FR Z om L fr → ∃ t news, evX fr y = some t ∧ newsOf H w t = some (ds.length, news) ∧ news.length = ds.length * w ∧ ArrAt Z news 0 w ds
theorem SrcR.of {w : Nat} {y : AX} {v : GV} {ds : List (List GV)} (hy : lkGX L y = some v) (hs : srcG HG w v = some ds) : SrcR HG L w y ds := fun Z om fr H hr hf => by
 obtain ⟨t, k1, k2⟩ := hf.x hy
 obtain ⟨news, n1, n2, n3⟩ := src_ok hr k2 hs
 exact ⟨t, news, k1, n1, n2, n3⟩
theorem SrcR.row {w g i : Nat} {y : AX} {rows : List (Option (List (List GV)))} {ds : List (List GV)} (hy : lkGX L y = some (.rsl g i)) (hg : lkP HG g = some (.mat w rows)) (hi : rows[i]? = some (some ds)) : SrcR HG L w y ds := fun Z om fr H hr hf => by
 obtain ⟨t, k1, k2⟩ := hf.x hy
 obtain ⟨b, o, cap, ex, ps, e, h3⟩ := k2.rsl_inv
 obtain ⟨p, blk, e1, e2, e3⟩ := hr.row hg hi e
 rcases h3 with ⟨b', o', len', cap', ex', w', h4, rfl⟩ | ⟨h4, rfl⟩
 ·rw [h4] at e1; cases e1
  rcases e3.inv with ⟨c, _⟩ | ⟨_, _, _, _, blk', c, _, r1, r2, r3, r4, r5, r6, r7⟩
  ·cases c
  ·cases c
   obtain ⟨ws, t1, t2, t3⟩ := r7.rows
   exact ⟨_, ws, k1, by simp only [newsOf, getN, r1, t1, Option.map], t2, t3⟩
 ·rw [h4] at e1; cases e1
  rcases e3.inv with ⟨_, rfl, _⟩ | ⟨_, _, _, _, _, c, _⟩
  ·exact ⟨_, [], k1, rfl, by simp, fun i c e => by simp at e⟩
  ·cases c
theorem G.callv0 {d : Option Nat} {f : Nat} {x : AX} {xs : List AX} {vs cs : List GV} {K : GV → GHp → Prop} (hx0 : lkGX L x = some (.fn f cs)) (hx : lkGXs L xs = some vs) (h1 : GV.okL (GHp.D []) (vs ++ cs) = true) (hc : WpCallG A f (vs ++ cs) [] K)
 (k : ∀ v H1, K v H1 → newOk [] HG H1 = true ∧ WpOpsG A l (putP L d v) (H1 ++ HG) Q) : WpOpsG A (⟨d, .callv x xs, none⟩ :: l) L HG Q := by
 refine G.callv (P := []) hx0 hx trivial h1 rfl hc fun v H1 hk => ?_
 have : ∀ (X : GHp), dropP [] X = X := fun X => by
  induction X with
  | nil => rfl
  | cons p r ih => rw [dropP]; exact congrArg _ ih
 rw [show dropP [] (stPh [] HG) = HG from this HG]
 exact k v H1 hk
theorem G.ckX {d : Option Nat} {o : AOp} {ts : List Nat} (P : GHp) (L0 : GFr) (hP : hasP HG P) (hL : hasP L L0) (hc1 : cleanL P.D L0 = true) (hc2 : cleanH P.D P = true) (hts : farL P.D L ts = true)
 (h1 : WpOpsG A [⟨d, o, none⟩] L0 P (fun _ _ => True)) (h2 : WpOpsG A [⟨d, o, none⟩] L HG (fun L1 HG1 => WpOpsG A l L1 HG1 Q)) : WpOpsG A (⟨d, .ck ts o, none⟩ :: l) L HG Q := fun Z om fr H hr hf => by
 have hle : HLe P HG := hasP_le hP
 obtain ⟨n0, _, _, H0, e0, _, Z0, om0, _, HG0, _, _, x3, _⟩ := h1 Z _ fr H (hr.less hle hc2) ((hf.less (hasP_le hL)).cut hc1)
 obtain ⟨n, fr', fr0, H', e, hle1, Z', om', L', HG', a1, a2, a3, a4⟩ := h2 Z om fr H hr hf
 obtain ⟨n2, fr2, fr3, H2, e2, hle2, Z2, om2, L2, HG2, b1, b2, b3, b4⟩ := (a4 Z' om' fr0 H' a1 a2 : WpOps A l fr0 H' _).frame hle1
 simp only [evOps] at e e0
 cases he0 : evOp (callA A n0) o fr H with
 | none => rw [he0] at e0; cases e0
 | some r0 =>
   cases he : evOp (callA A n) o fr H with
   | none => rw [he] at e; cases e
   | some r =>
     have m0 := evOp_le (callA_le (A := A) (Nat.le_max_left n0 n)) (FLe.refl fr) he0
     have m1 := evOp_le (callA_le (A := A) (Nat.le_max_right n0 n)) (FLe.refl fr) he
     rw [m1] at m0
     have hrr : r = r0 := Option.some.inj m0
     subst hrr
     obtain ⟨v, H1⟩ := r
     rw [he] at e
     rw [he0] at e0
     simp only [Option.some.injEq, Prod.mk.injEq] at e e0
     obtain ⟨rfl, rfl⟩ := e
     obtain ⟨_, rfl⟩ := e0
     have hun : Unch ts fr H H1 := fun t ht => by
      obtain ⟨u, g1, g2⟩ := farL_at hts ht
      obtain ⟨c, c1, c2⟩ := hf t u g1
      refine ⟨c, c1, fun b hb => ?_⟩
      obtain ⟨f1, f2⟩ := far_ok hr hle c2 g2 b hb
      exact (x3.old b f1 f2).1
     exact WpOps.cons rfl ⟨n, v, H1, evOp_ck.2 ⟨he, hun⟩, ⟨n2, fr2, fr3, H2, e2, hle2, Z2, om2, L2, HG2, b1, b2, a3.trans b3, b4⟩⟩
theorem ArrAt.any {Z : ZM} {cells : List AV} {o w k : Nat} {cs : List (List GV)} (h : ArrAt Z cells o w cs) : ArrAt Z cells o w (cs.map fun c => c.set k .any) := fun i c e => by
 rw [List.getElem?_map] at e
 cases hx : cs[i]? with
 | none => rw [hx] at e; cases e
 | some y =>
   rw [hx] at e; cases e
   refine ⟨by rw [List.length_set]; exact (h i y hx).1, fun j x e' => ?_⟩
   rw [List.getElem?_set] at e'
   split at e'
   ·rename_i c
    subst c
    split at e'
    ·rename_i hj
     cases e'
     obtain ⟨a, h1, _⟩ := (h i y hx).2 k y[k] (by simp [hj])
     exact ⟨a, h1, .any⟩
    ·cases e'
   ·exact (h i y hx).2 j x e'
theorem WpOpsG.anyO (g k : Nat) {full : Fl} {w : Nat} {cs : List (List GV)} (hg : lkP HG g = some (.arr full w cs)) (h : WpOpsG A l L ((g, .arr full w (cs.map fun c => c.set k .any)) :: HG) Q) : WpOpsG A l L HG Q := fun Z om fr H hr hf => by
 have hb : BR Z om H g (.arr full w (cs.map fun c => c.set k .any)) := by
  cases hr.own g _ hg with
  | nil h1 hq => exact .nil h1 hq
  | arr h1 h2 h3 h4 h5 h6 h7 h8 => exact .arr (by rw [List.length_map]; exact h1) h2 h3 h4 (by rw [List.length_map]; exact h5) h6 (by rw [List.length_map]; exact h7) h8.any
 obtain ⟨r1, r2⟩ := hr.reblk hg hb
 refine (h Z om fr H r1 hf).mono ?_
 rintro fr' H' ⟨Z2, om2, L2, HG2, a2, b2, c2, d2⟩
 exact ⟨Z2, om2, L2, HG2, a2, b2, r2.trans c2, d2⟩
end
end Go.AM
set_option linter.all false
set_option maxRecDepth 10000
namespace Go.AM
section
variable {Z : ZM} {om : Om} {HG : GHp} {H : Heap}
theorem GRel.remat (hr : GRel Z om HG H) {g g2 w : Nat} {rows rows2 : List (Option (List (List GV)))} (hmv : (Nat.ble 8 g && Nat.blt g 10) = false) (hmv2 : (Nat.ble 8 g2 && Nat.blt g2 10) = false) (hg : lkP HG g = some (.mat w rows)) (hg2 : lkP HG g2 = some (.mat w rows2)) (hne : g ≠ g2)
 {ps ps2 : List RP} (hps : (om g = some .nil ∧ ps = []) ∨ ∃ b o cap ex, om g = some (.mat b o cap ex ps)) (hps2 : (om g2 = some .nil ∧ ps2 = []) ∨ ∃ b o cap ex, om g2 = some (.mat b o cap ex ps2))
 {H' : Heap} {b1 o1 cap1 : Nat} {ex1 : Bool} {blk1 : Blk} (hnx : H.next ≤ H'.next)
 (hkeep : ∀ c, c < H.next → ¬ idOf om g c → (∀ b' blk, idOf om g b' → H.blks.get b' = some blk → blk.mate ≠ some c) → H'.blks.get c = H.blks.get c)
 (hrow : ∀ p c, p ∈ ps ++ ps2 → p.has c → H'.blks.get c = H.blks.get c)
 (hb1 : idOf om g b1 ∨ (H.next ≤ b1 ∧ b1 < H'.next)) (hb1n : ∀ p, p ∈ ps ++ ps2 → ¬ p.has b1)
 (hblk : H'.blks.get b1 = some blk1) (hw : blk1.wr = true) (hes : blk1.es = 1) (hlen : (rows ++ rows2).length = (ps ++ ps2).length) (hcap : (rows ++ rows2).length ≤ cap1) (hsz : SzOk ex1 blk1.cells.length o1 cap1 1) (hf : ex1 = true ∨ (rows ++ rows2).length = cap1)
 (hcell : ∀ (i : Nat) (r : Option (List (List GV))) (p : RP), (rows ++ rows2)[i]? = some r → (ps ++ ps2)[i]? = some p → RowAt Z H w r p blk1.cells[o1 + i]?)
 (hmate1 : ∀ m, blk1.mate = some m → idOf om g m ∧ m ≠ b1 ∧ ∀ p, p ∈ ps ++ ps2 → ¬ p.has m) :
 ∃ om' : Om, GRel Z om' ((g, .mat w (rows ++ rows2)) :: mpH (GV.st g) (fzH g2 .any HG)) H' ∧ om' g = some (.mat b1 o1 cap1 ex1 (ps ++ ps2)) ∧ (∀ v a, VR Z om v a → VR Z om' ((GV.fz g2 .any v).st g) a) ∧ Ext Z om HG H Z om' ((g, .mat w (rows ++ rows2)) :: mpH (GV.st g) (fzH g2 .any HG)) H' := by
 have eS : (lkP HG g).isSome = true := by rw [hg]; rfl
 have eS2 : (lkP HG g2).isSome = true := by rw [hg2]; rfl
 have i1 : ∀ (i : Nat) p c, ps[i]? = some p → p.has c → idOf om g c := fun i p c hp hc => by
  rcases hps with ⟨_, rfl⟩ | ⟨b, o, cap, ex, e⟩
  ·simp at hp
  ·exact idOf_eq e (.inr ⟨i, p, hp, hc⟩)
 have i2 : ∀ (i : Nat) p c, ps2[i]? = some p → p.has c → idOf om g2 c := fun i p c hp hc => by
  rcases hps2 with ⟨_, rfl⟩ | ⟨b, o, cap, ex, e⟩
  ·simp at hp
  ·exact idOf_eq e (.inr ⟨i, p, hp, hc⟩)
 have d1 : ∀ (i j : Nat) p q c, ps[i]? = some p → ps[j]? = some q → p.has c → q.has c → i = j := fun i j p q c hp hq hc hc' => by
  rcases hr.mat hg with ⟨c1, _⟩ | ⟨_, _, _, _, _, _, c1, _, _, _, _, _, _, _, _, _, c11⟩
  ·rcases hps with ⟨_, rfl⟩ | ⟨b, o, cap, ex, e⟩
   ·simp at hp
   ·rw [e] at c1; cases c1
  ·rcases hps with ⟨_, rfl⟩ | ⟨b, o, cap, ex, e⟩
   ·simp at hp
   ·rw [e] at c1; cases c1; exact c11 i j p q c hp hq hc hc'
 have d2 : ∀ (i j : Nat) p q c, ps2[i]? = some p → ps2[j]? = some q → p.has c → q.has c → i = j := fun i j p q c hp hq hc hc' => by
  rcases hr.mat hg2 with ⟨c1, _⟩ | ⟨_, _, _, _, _, _, c1, _, _, _, _, _, _, _, _, _, c11⟩
  ·rcases hps2 with ⟨_, rfl⟩ | ⟨b, o, cap, ex, e⟩
   ·simp at hp
   ·rw [e] at c1; cases c1
  ·rcases hps2 with ⟨_, rfl⟩ | ⟨b, o, cap, ex, e⟩
   ·simp at hp
   ·rw [e] at c1; cases c1; exact c11 i j p q c hp hq hc hc'
 have ip : ∀ (i : Nat) p c, (ps ++ ps2)[i]? = some p → p.has c → ∃ k0, (k0 = g ∨ k0 = g2) ∧ (lkP HG k0).isSome = true ∧ idOf om k0 c := fun i p c hp hc => by
  by_cases h : i < ps.length
  ·rw [List.getElem?_append_left h] at hp; exact ⟨g, .inl rfl, eS, i1 i p c hp hc⟩
  ·rw [List.getElem?_append_right (by omega)] at hp; exact ⟨g2, .inr rfl, eS2, i2 _ p c hp hc⟩
 let om' : Om := (om.del g2).set g (.mat b1 o1 cap1 ex1 (ps ++ ps2))
 have o1' : om' g = some (.mat b1 o1 cap1 ex1 (ps ++ ps2)) := Om.set_self ..
 have o2 : om' g2 = none := by show (om.del g2).set g _ g2 = none; rw [Om.set_ne (fun c => hne c.symm)]; exact Om.del_self
 have o3 : ∀ k, k ≠ g → k ≠ g2 → om' k = om k := fun k n n' => by show (om.del g2).set g _ k = _; rw [Om.set_ne n, Om.del_ne n']
 have hV : ∀ v a, VR Z om v a → VR Z om' ((GV.fz g2 .any v).st g) a := fun v a h => (h.del (g := g2)).st (.refl _) (fun k n => Om.set_ne n)
 have hids : ∀ c, idOf om' g c → c = b1 ∨ ∃ (j : Nat) (p : RP), (ps ++ ps2)[j]? = some p ∧ p.has c := fun c ic => by
  rcases (idOf_of ic o1' : b1 = c ∨ _) with h | ⟨j, p, h1, h2⟩
  ·exact .inl h.symm
  ·exact .inr ⟨j, p, h1, h2⟩
 have mem : ∀ {j : Nat} {p : RP}, (ps ++ ps2)[j]? = some p → p ∈ ps ++ ps2 := fun h => List.mem_of_getElem? h
 have hgen := hr.gen (fun k => k = g ∨ k = g2) (fun v => (GV.fz g2 .any v).st g) (om' := om') (HG' := (g, .mat w (rows ++ rows2)) :: mpH (GV.st g) (fzH g2 .any HG)) (H' := H')
  (fun k n => o3 k (fun c => n (.inl c)) (fun c => n (.inr c)))
  (fun k n => by
    rw [lkP_cons, if_neg (fun c => n (.inl c.symm)), lkP_mpH, lkP_fzH, if_neg (fun c => n (.inr c))]
    cases lkP HG k with
    | none => rfl
    | some x => show some (mpB (GV.st g) (fzB g2 .any x)) = some (mpB _ x); rw [fzB_mp, mpB_mpB])
  hV
  (fun k t e => by
    rcases t with rfl | rfl
    ·rw [lkP_cons, if_pos rfl] at e; cases e
    ·exact o2)
  (fun k x t e => by
    rcases t with rfl | rfl
    ·rw [lkP_cons, if_pos rfl] at e; cases e
     refine .mat o1' hblk hw hes hlen hcap hsz hf (fun i r p e1 e2 => (hcell i r p e1 e2).keep (.refl _) fun c hc => hrow p c (mem e2) hc) (fun i p e2 => hb1n p (mem e2)) (fun i j p q c e1 e2 hc hc' => ?_)
     by_cases h : i < ps.length
     ·rw [List.getElem?_append_left h] at e1
      by_cases h' : j < ps.length
      ·rw [List.getElem?_append_left h'] at e2; exact d1 i j p q c e1 e2 hc hc'
      ·rw [List.getElem?_append_right (by omega)] at e2
       exact absurd (i2 _ q c e2 hc') (hr.sep _ g2 c hne eS eS2 (i1 i p c e1 hc))
     ·rw [List.getElem?_append_right (by omega)] at e1
      by_cases h' : j < ps.length
      ·rw [List.getElem?_append_left h'] at e2
       exact absurd (i2 _ p c e1 hc) (hr.sep _ g2 c hne eS eS2 (i1 j q c e2 hc'))
      ·rw [List.getElem?_append_right (by omega)] at e2
       have := d2 _ _ p q c e1 e2 hc hc'; omega
    ·rw [lkP_cons, if_neg hne, lkP_mpH, lkP_fzH, if_pos rfl] at e; cases e)
  hnx
  (fun c hc n1 n2 => hkeep c hc (fun i => n1 ⟨g, .inl rfl, eS, i⟩) (fun b' blk i hb => n2 g b' blk (.inl rfl) eS i hb))
  (fun k c t ic => by
    rcases t with rfl | rfl
    ·rcases hids c ic with rfl | ⟨j, p, h1, h2⟩
     ·rcases hb1 with h | h
      ·exact .inl ⟨k, .inl rfl, eS, h⟩
      ·exact .inr h
     ·exact .inl (ip j p c h1 h2)
    ·exact absurd ic (idOf_no o2))
  (fun k k' c t t' n ic ic' => by
    rcases t with rfl | rfl
    ·rcases t' with rfl | rfl
     ·exact n rfl
     ·exact absurd ic' (idOf_no o2)
    ·exact absurd ic (idOf_no o2))
  (fun k c blk m t ic hb hm => by
    rcases t with rfl | rfl
    ·rcases hids c ic with rfl | ⟨j, p, h1, h2⟩
     ·rw [hblk] at hb; cases hb
      obtain ⟨a1, a2, a3⟩ := hmate1 m hm
      refine .inl ⟨⟨k, .inl rfl, eS, a1⟩, fun k' t' ic' => ?_⟩
      rcases t' with rfl | rfl
      ·rcases hids m ic' with h | ⟨j, p, h1, h2⟩
       ·exact a2 h
       ·exact a3 p (mem h1) h2
      ·exact absurd ic' (idOf_no o2)
     ·rw [hrow p c (mem h1) h2] at hb
      obtain ⟨k0, t0, e0, i0⟩ := ip j p c h1 h2
      exact .inr ⟨k0, t0, e0, i0, blk, hb, hm⟩
    ·exact absurd ic (idOf_no o2))
  (fun k l t hn e => by
    have hnb : ∀ b, l ≠ .box b := fun b c => by
     subst c
     rcases t with rfl | rfl
     ·rcases hr.mat hg with ⟨c1, _⟩ | ⟨_, _, _, _, _, _, c1, _⟩ <;> rw [c1] at e <;> cases e
     ·rcases hr.mat hg2 with ⟨c1, _⟩ | ⟨_, _, _, _, _, _, c1, _⟩ <;> rw [c1] at e <;> cases e
    rcases t with rfl | rfl
    ·exact absurd hn (not_nailed hmv hnb)
    ·exact absurd hn (not_nailed hmv2 hnb))
 exact ⟨om', hgen.1, o1', hV, hgen.2⟩
theorem GRel.matNews (hr : GRel Z om HG H) {g w : Nat} {rows : List (Option (List (List GV)))} (hg : lkP HG g = some (.mat w rows)) (h0 : 0 < rows.length) {a : AV} (ha : VR Z om (.msl g) a) :
 ∃ b o cap ex ps news, om g = some (.mat b o cap ex ps) ∧ rows.length = ps.length ∧ newsOf H 1 a = some (rows.length, news) ∧ news.length = rows.length ∧ ∀ (i : Nat) (r : Option (List (List GV))) (p : RP), rows[i]? = some r → ps[i]? = some p → RowAt Z H w r p news[i]? := by
 rcases hr.mat hg with ⟨c1, rfl⟩ | ⟨b, o, cap, ex, ps, blk, c1, c2, c3, c4, c5, c6, c7, c8, c9, c10, c11⟩
 ·simp at h0
 ·rcases ha.msl_inv with ⟨_, _, _, _, _, e', rfl⟩ | ⟨e', rfl⟩
  ·rw [c1] at e'; cases e'
   have h7 := c7.1
   refine ⟨b, o, cap, ex, ps, (blk.cells.drop o).take rows.length, c1, c5, ?_, by simp; omega, fun i r p e1 e2 => ?_⟩
   ·simp only [newsOf, getN, c2, Nat.mul_one, ← c5]
    rw [takeN_take (by simp; omega)]; rfl
   ·have hi := (List.getElem?_eq_some_iff.1 e1).1
    rw [List.getElem?_take, if_pos hi, List.getElem?_drop]
    exact c9 i r p e1 e2
  ·rw [c1] at e'; cases e'
theorem GRel.appMat (hr : GRel Z om HG H) {g g2 w by_ : Nat} {rows rows2 : List (Option (List (List GV)))} (hmv : (Nat.ble 8 g && Nat.blt g 10) = false) (hmv2 : (Nat.ble 8 g2 && Nat.blt g2 10) = false) (hg : lkP HG g = some (.mat w rows)) (hg2 : lkP HG g2 = some (.mat w rows2)) (hne : g ≠ g2) (h0 : 0 < rows2.length)
 {s t : AV} (hs : VR Z om (.msl g) s) (ht : VR Z om (.msl g2) t) (hsz : (rows.length + rows2.length) * by_ ≤ 2 ^ 47) :
 ∃ a H' om', appendA H 1 by_ s t = some (a, H') ∧ GRel Z om' ((g, .mat w (rows ++ rows2)) :: mpH (GV.st g) (fzH g2 .any HG)) H' ∧ (∀ v a, VR Z om v a → VR Z om' ((GV.fz g2 .any v).st g) a) ∧ VR Z om' (.msl g) a ∧ Ext Z om HG H Z om' ((g, .mat w (rows ++ rows2)) :: mpH (GV.st g) (fzH g2 .any HG)) H' := by
 have eS : (lkP HG g).isSome = true := by rw [hg]; rfl
 have eS2 : (lkP HG g2).isSome = true := by rw [hg2]; rfl
 obtain ⟨b2, o2, cap2, ex2, ps2, news, q1, q2, q3, q4, q5⟩ := hr.matNews hg2 h0 ht
 obtain ⟨n2, hn2⟩ : ∃ n, rows2.length = n + 1 := ⟨rows2.length - 1, by omega⟩
 have old2 : ∀ p c, p ∈ ps2 → p.has c → idOf om g2 c ∧ c < H.next := fun p c hp hc => by
  obtain ⟨i, hi⟩ := List.getElem?_of_mem hp
  have := idOf_eq q1 (b := c) (.inr ⟨i, p, hi, hc⟩)
  exact ⟨this, hr.old eS2 this⟩
 rcases hr.mat hg with ⟨c1, rfl⟩ | ⟨b, o, cap, ex, ps, blk, c1, c2, c3, c4, c5, c6, c7, c8, c9, c10, c11⟩
 ·rcases hs.msl_inv with ⟨_, _, _, _, _, e', rfl⟩ | ⟨e', rfl⟩
  ·rw [c1] at e'; cases e'
  ·obtain ⟨om', r1, r2, r3, r4⟩ := hr.remat (ps := []) (ps2 := ps2) hmv hmv2 hg hg2 hne (.inl ⟨c1, rfl⟩) (.inr ⟨_, _, _, _, q1⟩) (H' := H.alloc 1 news) (b1 := H.next) (o1 := 0) (cap1 := rows2.length) (ex1 := false) (blk1 := ⟨news, true, none, 1⟩) (Nat.le_succ _)
    (fun c hc _ _ => Heap.alloc_ne (by omega)) (fun p c hp hc => Heap.alloc_ne (by have := (old2 p c hp hc).2; omega)) (.inr ⟨Nat.le_refl _, Nat.lt_succ_self _⟩) (fun p hp hc => by have := (old2 p _ hp hc).2; omega)
    (Heap.alloc_self rfl) rfl rfl (by simpa using q2) (by simp) (.eq (by show news.length = _; omega)) (.inr (by simp))
    (fun i r p e1 e2 => by rw [Nat.zero_add]; exact q5 i r p e1 e2) (fun m hm => by cases hm)
   refine ⟨_, _, om', ?_, r1, r3, .msl r2, r4⟩
   simp only [appendA, q3, hn2]
   rw [if_pos (by simp only [List.length_nil, Nat.zero_add] at hsz; rw [← hn2]; exact hsz)]
   simp only [List.nil_append, ← q2, hn2]
 ·rcases hs.msl_inv with ⟨_, _, _, _, _, e', rfl⟩ | ⟨e', rfl⟩
  ·rw [c1] at e'; cases e'
   have hidb : idOf om g b := idOf_eq c1 (.inl rfl)
   have hblt := hr.old eS hidb
   have hmate := fun m (hm : blk.mate = some m) => hr.mate g b blk m eS hidb c2 hm
   have old1 : ∀ p c, p ∈ ps → p.has c → idOf om g c ∧ c < H.next ∧ c ≠ b := fun p c hp hc => by
    obtain ⟨i, hi⟩ := List.getElem?_of_mem hp
    have := idOf_eq c1 (b := c) (.inr ⟨i, p, hi, hc⟩)
    exact ⟨this, hr.old eS this, fun cc => by subst cc; exact c10 i p hi hc⟩
   have oldA : ∀ p c, p ∈ ps ++ ps2 → p.has c → c < H.next ∧ c ≠ b ∧ blk.mate ≠ some c := fun p c hp hc => by
    rcases List.mem_append.1 hp with hp | hp
    ·obtain ⟨a1, a2, a3⟩ := old1 p c hp hc
     exact ⟨a2, a3, fun hm => (hmate c hm).2.2 g eS a1⟩
    ·obtain ⟨a1, a2⟩ := old2 p c hp hc
     exact ⟨a2, fun cc => by subst cc; exact hr.sep g g2 c hne eS eS2 hidb a1, fun hm => (hmate c hm).2.2 g2 eS2 a1⟩
   have hlenA : (rows ++ rows2).length = (ps ++ ps2).length := by rw [List.length_append, List.length_append]; omega
   have hcellA : ∀ (cells : List AV) (oo : Nat), (∀ i, i < rows.length → cells[oo + i]? = blk.cells[o + i]?) → (∀ i, i < rows2.length → cells[oo + (rows.length + i)]? = news[i]?) → ∀ (i : Nat) (r : Option (List (List GV))) (p : RP), (rows ++ rows2)[i]? = some r → (ps ++ ps2)[i]? = some p → RowAt Z H w r p cells[oo + i]? := fun cells oo k1 k2 i r p e1 e2 => by
    by_cases hi : i < rows.length
    ·rw [List.getElem?_append_left hi] at e1
     rw [List.getElem?_append_left (by omega)] at e2
     rw [k1 i hi]; exact c9 i r p e1 e2
    ·rw [List.getElem?_append_right (by omega)] at e1
     rw [List.getElem?_append_right (by omega)] at e2
     have hi2 := (List.getElem?_eq_some_iff.1 e1).1
     have := k2 (i - rows.length) hi2
     rw [show rows.length + (i - rows.length) = i by omega] at this
     rw [this]
     exact q5 _ r p e1 (by rw [c5]; exact e2)
   by_cases hfit : ps.length + rows2.length ≤ cap
   ·have hfit2 : o + ps.length * 1 + news.length ≤ blk.cells.length := by have := c7.1; omega
    obtain ⟨bs, e1⟩ := putAt_ok hfit2
    obtain ⟨_, e2, e3⟩ := putAt_some e1
    have hff : ex = true ∨ (rows ++ rows2).length = cap := by
     rcases c8 with h | h
     ·exact .inl h
     ·exfalso; omega
    obtain ⟨om', r1, r2, r3, r4⟩ := hr.remat (ps := ps) (ps2 := ps2) hmv hmv2 hg hg2 hne (.inr ⟨_, _, _, _, c1⟩) (.inr ⟨_, _, _, _, q1⟩) (H' := H.upd b blk bs) (b1 := b) (o1 := o) (cap1 := cap) (ex1 := ex) (blk1 := ⟨bs, true, none, blk.es⟩) (Nat.le_refl _)
     (fun c hc n1 n2 => Heap.upd_ne (fun cc => n1 (by rw [cc]; exact hidb)) (n2 b blk hidb c2)) (fun p c hp hc => Heap.upd_ne (oldA p c hp hc).2.1 (oldA p c hp hc).2.2) (.inl hidb) (fun p hp hc => (oldA p b hp hc).2.1 rfl)
     (Heap.upd_self rfl) rfl c4 hlenA (by rw [List.length_append]; omega) (by show SzOk _ bs.length _ _ _; rw [e2]; exact c7) hff
     (hcellA bs o (fun i hi => by rw [e3, if_neg (by omega)]) (fun i hi => by rw [e3, if_pos (by omega)]; congr 1; omega)) (fun m hm => by cases hm)
    refine ⟨_, _, om', ?_, r1, r3, .msl r2, r4⟩
    rw [hn2] at hfit
    simp only [appendA, q3, hn2, if_pos hfit, Heap.write_upd c2 c3 e1, List.length_append, ← q2]
   ·have hold : takeN (ps.length * 1) (blk.cells.drop o) = some ((blk.cells.drop o).take ps.length) := by rw [Nat.mul_one]; exact takeN_take (by simp; have := c7.1; omega)
    have holdl : ((blk.cells.drop o).take ps.length).length = ps.length := by simp; have := c7.1; omega
    have hsz' : (ps.length + rows2.length) * by_ ≤ 2 ^ 47 := by rw [← c5]; exact hsz
    have hnewc : ∀ (i : Nat) (r : Option (List (List GV))) (p : RP), (rows ++ rows2)[i]? = some r → (ps ++ ps2)[i]? = some p → RowAt Z H w r p ((blk.cells.drop o).take ps.length ++ news)[0 + i]? := hcellA _ 0 (fun i hi => by
     rw [Nat.zero_add, List.getElem?_append_left (by omega), List.getElem?_take, if_pos (by omega), List.getElem?_drop]) (fun i hi => by
     rw [Nat.zero_add, List.getElem?_append_right (by omega), holdl]; congr 1; omega)
    by_cases hex : ex = true
    ·obtain ⟨om', r1, r2, r3, r4⟩ := hr.remat (ps := ps) (ps2 := ps2) hmv hmv2 hg hg2 hne (.inr ⟨_, _, _, _, c1⟩) (.inr ⟨_, _, _, _, q1⟩) (H' := H.alloc 1 ((blk.cells.drop o).take ps.length ++ news)) (b1 := H.next) (o1 := 0) (cap1 := (rows ++ rows2).length) (ex1 := false) (blk1 := ⟨(blk.cells.drop o).take ps.length ++ news, true, none, 1⟩) (Nat.le_succ _)
      (fun c hc _ _ => Heap.alloc_ne (by omega)) (fun p c hp hc => Heap.alloc_ne (by have := (oldA p c hp hc).1; omega)) (.inr ⟨Nat.le_refl _, Nat.lt_succ_self _⟩) (fun p hp hc => by have := (oldA p _ hp hc).1; omega)
      (Heap.alloc_self rfl) rfl rfl hlenA (Nat.le_refl _) (.eq (by show List.length (_ ++ _) = _; rw [List.length_append, List.length_append, holdl]; omega)) (.inr rfl) hnewc (fun m hm => by cases hm)
     refine ⟨_, _, om', ?_, r1, r3, .msl r2, r4⟩
     rw [hn2] at hfit hsz'
     simp only [appendA, q3, hn2, if_neg hfit, c2, hold, c4, hsz', and_self, if_true, hex, List.length_append, ← q2, c5]
    ·have hcapE : ps.length = cap := by
      rcases c8 with h | h
      ·exact absurd h hex
      ·omega
     have hex' : ex = false := by simpa using hex
     have holdb : ∀ b', b' < H.next → b' ≠ b → blk.mate ≠ some b' → (H.mate2 b blk ((blk.cells.drop o).take ps.length ++ news)).blks.get b' = H.blks.get b' := fun b' h1 h2 h3 => by
      simp only [Heap.mate2, T.get_set]
      rw [if_neg (by omega), if_neg h2]
      cases hk : blk.mate with
      | none => rfl
      | some m =>
        simp only [Heap.kill, T.get_set]
        rw [if_neg (fun c => h3 (by rw [hk, c]))]
     obtain ⟨om', r1, r2, r3, r4⟩ := hr.remat (ps := ps) (ps2 := ps2) hmv hmv2 hg hg2 hne (.inr ⟨_, _, _, _, c1⟩) (.inr ⟨_, _, _, _, q1⟩) (H' := H.mate2 b blk ((blk.cells.drop o).take ps.length ++ news)) (b1 := H.next) (o1 := 0) (cap1 := (rows ++ rows2).length) (ex1 := false) (blk1 := ⟨(blk.cells.drop o).take ps.length ++ news, true, some b, blk.es⟩) (Nat.le_succ _)
      (fun c hc n1 n2 => holdb c hc (fun cc => n1 (by rw [cc]; exact hidb)) (n2 b blk hidb c2)) (fun p c hp hc => holdb c (oldA p c hp hc).1 (oldA p c hp hc).2.1 (oldA p c hp hc).2.2) (.inr ⟨Nat.le_refl _, Nat.lt_succ_self _⟩) (fun p hp hc => by have := (oldA p _ hp hc).1; omega)
      Heap.mate2_new rfl c4 hlenA (Nat.le_refl _) (.eq (by show List.length (_ ++ _) = _; rw [List.length_append, List.length_append, holdl]; omega)) (.inr rfl) hnewc (fun m hm => by
       cases hm; exact ⟨hidb, by omega, fun p hp hc => (oldA p b hp hc).2.1 rfl⟩)
     refine ⟨_, _, om', ?_, r1, r3, .msl r2, r4⟩
     have hbl : blk.cells.length = o + cap * 1 := c7.2 hex'
     rw [hn2] at hfit hsz'
     simp only [appendA, q3, hn2, if_neg hfit, c2, hold, c4, hsz', and_self, if_true, hex', hbl, c3, if_pos hcapE, List.length_append, ← q2, c5, Bool.false_eq_true, if_false]
  ·rw [c1] at e'; cases e'
end
section
variable {A : AProg} {L : GFr} {HG : GHp} {l : List AOper} {Q : GFr → GHp → Prop}
theorem G.appMt {d g g2 w by_ : Nat} {x y : AX} {rows rows2 : List (Option (List (List GV)))} (hx : lkGX L x = some (.msl g)) (hy : lkGX L y = some (.msl g2)) (hg : lkP HG g = some (.mat w rows)) (hg2 : lkP HG g2 = some (.mat w rows2)) (h0 : 0 < rows2.length) (hsz : (rows.length + rows2.length) * by_ ≤ 2 ^ 47)
 (k : WpOpsG A l ((d, .msl g) :: mpL (fun v => (GV.fz g2 .any v).st g) L) ((g, .mat w (rows ++ rows2)) :: mpH (GV.st g) (fzH g2 .any HG)) Q) (hne : Nat.beq g g2 = false := by rfl) (hmv : (Nat.ble 8 g && Nat.blt g 10) = false := by rfl) (hmv2 : (Nat.ble 8 g2 && Nat.blt g2 10) = false := by rfl) : WpOpsG A (⟨some d, .app 1 by_ x y, none⟩ :: l) L HG Q :=
 WpOpsG.step (d := some d) (L1 := mpL (fun v => (GV.fz g2 .any v).st g) L) (fun Z om fr H hr hf => by
  obtain ⟨s, h1, h2⟩ := hf.x hx
  obtain ⟨t, k1, k2⟩ := hf.x hy
  obtain ⟨a, H', om', e1, e2, e3, e4, e5⟩ := hr.appMat hmv hmv2 hg hg2 (fun c => by subst c; simp at hne) h0 h2 k2 hsz
  exact WpOp.eval (by simp only [evOp, h1, k1, e1]) ⟨Z, om', e2, hf.mp e3, e4, e5⟩) k
theorem G.bsliceMt {d gn g' w : Nat} {x : AX} {z0 : AV} {full : Fl} {cs : List (List GV)} (hx : lkGX L x = some (.osl g')) (hg' : lkP HG g' = some (.arr full w cs)) (hgn : (lkP HG gn).isNone = true)
 (k : WpOpsG A l ((d, .msl gn) :: mpL (GV.fz g' .any) L) ((gn, .mat w [some cs]) :: fzH g' .any HG) Q) (hfull : full.isYes = true := by rfl) (hmv' : (Nat.ble 8 g' && Nat.blt g' 10) = false := by rfl) : WpOpsG A (⟨some d, .bslice 1 1 [z0] [(0, (1, x))], none⟩ :: l) L HG Q :=
 WpOpsG.step (d := some d) (L1 := mpL (GV.fz g' .any) L) (fun Z om fr H hr hf => by
  obtain ⟨a, h1, h2⟩ := hf.x hx
  have hgn' : lkP HG gn = none := by simpa using hgn
  have hne : gn ≠ g' := fun c => by rw [c, hg'] at hgn'; cases hgn'
  have eS' : (lkP HG g').isSome = true := by rw [hg']; rfl
  obtain ⟨p', r1, r2, r3⟩ := hr.asRow hg' (flYes hfull) h2
  have hold : ∀ c, p'.has c → c < H.next := fun c hc => hr.old eS' ((r2 c).1 hc)
  let om' : Om := (om.del g').set gn (.mat H.next 0 1 true [p'])
  have o1 : om' gn = some (.mat H.next 0 1 true [p']) := Om.set_self ..
  have o2 : om' g' = none := by show (om.del g').set gn _ g' = none; rw [Om.set_ne (fun c => hne c.symm)]; exact Om.del_self
  have o3 : ∀ k, k ≠ gn → k ≠ g' → om' k = om k := fun k n n' => by show (om.del g').set gn _ k = _; rw [Om.set_ne n, Om.del_ne n']
  have hV : ∀ v a, VR Z om v a → VR Z om' (GV.fz g' .any v) a := fun v a h => (h.del (g := g')).mono (.refl _) (Om.le_set _ _ _ (by rw [Om.del_ne hne]; exact hr.dom gn hgn'))
  have hids : ∀ c, idOf om' gn c → c = H.next ∨ p'.has c := fun c ic => by
   rcases (idOf_of ic o1 : H.next = c ∨ _) with h | ⟨j, p, h1, h2⟩
   ·exact .inl h.symm
   ·cases j with
    | zero => cases h1; exact .inr h2
    | succ j => simp at h1
  have hgen := hr.gen (fun k => k = gn ∨ k = g') (GV.fz g' .any) (om' := om') (HG' := (gn, .mat w [some cs]) :: fzH g' .any HG) (H' := H.alloc 1 [a])
   (fun k n => o3 k (fun c => n (.inl c)) (fun c => n (.inr c)))
   (fun k n => by
     rw [lkP_cons, if_neg (fun c => n (.inl c.symm)), lkP_fzH, if_neg (fun c => n (.inr c))]
     cases lkP HG k with
     | none => rfl
     | some x => show some (fzB g' .any x) = some (mpB _ x); rw [fzB_mp])
   hV
   (fun k t e => by
     rcases t with rfl | rfl
     ·rw [lkP_cons, if_pos rfl] at e; cases e
     ·exact o2)
   (fun k x t e => by
     rcases t with rfl | rfl
     ·rw [lkP_cons, if_pos rfl] at e; cases e
      refine .mat (blk := ⟨[a], true, none, 1⟩) o1 (Heap.alloc_self rfl) rfl rfl rfl (Nat.le_refl _) (.eq rfl) (.inl rfl) (fun i r p e1 e2 => ?_) (fun i p e2 hc => ?_) (fun i j p q c e1 e2 _ _ => ?_)
      ·cases i with
       | zero => cases e1; cases e2; exact r1.keep (.refl _) fun c hc => Heap.alloc_ne (by have := hold c hc; omega)
       | succ i => simp at e1
      ·cases i with
       | zero => cases e2; have := hold _ hc; omega
       | succ i => simp at e2
      ·cases i with
       | zero => cases j with
         | zero => rfl
         | succ j => simp at e2
       | succ i => simp at e1
     ·rw [lkP_cons, if_neg hne, lkP_fzH, if_pos rfl] at e; cases e)
   (Nat.le_succ _) (fun c hc _ _ => Heap.alloc_ne (by omega))
   (fun k c t ic => by
     rcases t with rfl | rfl
     ·rcases hids c ic with rfl | h
      ·exact .inr ⟨Nat.le_refl _, Nat.lt_succ_self _⟩
      ·exact .inl ⟨g', .inr rfl, eS', (r2 c).1 h⟩
     ·exact absurd ic (idOf_no o2))
   (fun k k' c t t' n ic ic' => by
     rcases t with rfl | rfl
     ·rcases t' with rfl | rfl
      ·exact n rfl
      ·exact absurd ic' (idOf_no o2)
     ·exact absurd ic (idOf_no o2))
   (fun k c blk m t ic hb hm => by
     rcases t with rfl | rfl
     ·rcases hids c ic with rfl | h
      ·rw [Heap.alloc_self rfl] at hb; cases hb; cases hm
      ·rw [Heap.alloc_ne (by have := hold c h; omega)] at hb
       exact .inr ⟨g', .inr rfl, eS', (r2 c).1 h, blk, hb, hm⟩
     ·exact absurd ic (idOf_no o2))
   (fun kk ll t hn e => by
     rcases t with rfl | rfl
     ·rw [hr.dom _ hgn'] at e; cases e
     ·exact absurd hn (not_nailed hmv' (fun b0 c => by subst c; rcases hr.arr hg' with ⟨c1, _⟩ | ⟨_, _, _, _, _, c1, _⟩ <;> rw [c1] at e <;> cases e)))
  refine WpOp.eval (v := .sl H.next 0 1 1 true) (H' := H.alloc 1 [a]) ?_ ⟨Z, om', hgen.1, hf.mp hV, .msl o1, hgen.2⟩
  simp only [evOp, fillA, h1, r3, List.length_cons, List.length_nil, Nat.zero_add, if_true, putAt]; rfl) k
end
end Go.AM
set_option linter.all false
set_option maxRecDepth 10000
namespace Go.AM
theorem zN : (∀ (p : Prop) [Decidable p], (decide p = true) = p) ∧ (∀ (p : Prop) [Decidable p], decide p = false ↔ ¬ p) ∧ (∀ a b : Bool, ((a || b) = true) = (a = true ∨ b = true)) ∧ (∀ a b : Bool, ((a && b) = true) = (a = true ∧ b = true)) ∧
 (∀ a b : Bool, (a || b) = false ↔ a = false ∧ b = false) ∧ (∀ a b : Bool, (a && b) = false ↔ a = false ∨ b = false) ∧ (∀ (α : Type) [BEq α] [LawfulBEq α] (a b : α), (a != b) = true ↔ a ≠ b) ∧ (∀ (α : Type) [BEq α] [LawfulBEq α] (a b : α), (a == b) = true ↔ a = b) ∧
 (∀ (α : Type) [BEq α] [LawfulBEq α] (a b : α), (a == b) = false ↔ a ≠ b) ∧ (∀ (α : Type) [BEq α] [LawfulBEq α] (a b : α), (a != b) = false ↔ a = b) ∧ (∀ (α : Type) (a b : α), (a ≠ b) = ¬ (a = b)) ∧ (∀ a : Bool, ((!a) = true) = (a = false)) ∧ (∀ a : Bool, ((!a) = false) = (a = true)) ∧
 (∀ a b : Int, ¬ a < b ↔ b ≤ a) ∧ (∀ a b : Int, ¬ a ≤ b ↔ b < a) ∧ (∀ (p : Prop) [Decidable p], ¬ ¬ p ↔ p) ∧ (∀ (α β : Type) (l : List α) (f : α → β), (l.map f).length = l.length) ∧ (∀ (α : Type) (a : α) (l : List α), (a :: l).length = l.length + 1) ∧ (∀ (α : Type), ([] : List α).length = 0) := by
 refine ⟨?_, ?_, ?_, ?_, ?_, ?_, ?_, ?_, ?_, ?_, ?_, ?_, ?_, ?_, ?_, ?_, ?_, ?_, ?_⟩
 all_goals intros
 all_goals first | exact decide_eq_true_eq | exact decide_eq_false_iff_not | exact Bool.or_eq_true _ _ | exact Bool.and_eq_true _ _ | exact Bool.or_eq_false_iff | exact Bool.and_eq_false_iff | exact bne_iff_ne | exact beq_iff_eq | exact beq_eq_false_iff_ne | exact bne_eq_false_iff_eq | rfl | exact Bool.not_eq_true' _ | exact Bool.not_eq_false' _ | exact Int.not_lt | exact Int.not_le | exact Decidable.not_not | exact List.length_map _ | exact List.length_cons
section
variable {A : AProg} {L : GFr} {HG : GHp} {l : List AOper} {Q : GFr → GHp → Prop}
end
theorem ArrAt.cpy {Z : ZM} {cells bs news : List AV} {o w n : Nat} {cs ds : List (List GV)} (c8 : ArrAt Z cells o w cs) (n3 : ArrAt Z news 0 w (ds.take (n + 1))) (n2 : news.length = (n + 1) * w) (hm : min ds.length cs.length = n + 1)
 (e3 : ∀ i, bs[i]? = if o ≤ i ∧ i < o + news.length then news[i - o]? else cells[i]?) : ArrAt Z bs o w (ds.take cs.length ++ cs.drop ds.length) := fun i c e => by
 by_cases hi : i < n + 1
 ·have e' : (ds.take (n + 1))[i]? = some c := by
   rw [List.getElem?_append_left (by rw [List.length_take]; omega), List.getElem?_take, if_pos (by omega)] at e
   rw [List.getElem?_take, if_pos hi]; exact e
  refine ⟨(n3 i c e').1, fun k x ek => ?_⟩
  obtain ⟨a, q1, q2⟩ := (n3 i c e').2 k x ek
  have hk : k < w := by rw [← (n3 i c e').1]; exact (List.getElem?_eq_some_iff.1 ek).1
  have := Nat.mul_le_mul_right w (show i + 1 ≤ n + 1 by omega)
  rw [Nat.add_mul] at this
  refine ⟨a, ?_, q2⟩
  rw [e3, if_pos (by omega), ← q1]; congr 1; omega
 ·have e' : cs[i]? = some c := by
   rw [List.getElem?_append_right (by rw [List.length_take]; omega), List.getElem?_drop, List.length_take] at e
   have hcl : i < cs.length := by
    have := (List.getElem?_eq_some_iff.1 e).1
    omega
   rw [← e]; congr 1; omega
  refine ⟨(c8 i c e').1, fun k x ek => ?_⟩
  obtain ⟨a, q1, q2⟩ := (c8 i c e').2 k x ek
  have := Nat.mul_le_mul_right w (show n + 1 ≤ i by omega)
  refine ⟨a, ?_, q2⟩
  rw [e3, if_neg (by omega)]; exact q1
section
variable {A : AProg} {L : GFr} {HG : GHp} {l : List AOper} {Q : GFr → GHp → Prop}
end
end Go.AM
