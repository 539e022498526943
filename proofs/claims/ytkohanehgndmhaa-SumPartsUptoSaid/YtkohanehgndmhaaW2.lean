/- Rules for the machine. No condition. -/
import Derived.Test.YtkohanehgndmhaaW1
set_option linter.all false
namespace Go.AM
section
variable {A : AProg}
/-! ## Ways through the code, forward: `Wp` says that the machine gets through, and where it comes out -/
theorem evOps_le {c c' : Nat → List AV → Heap → Option (AV × Heap)} (hc : CLe c c') : ∀ {l : List AOper} {fr gr : T AV} {H : Heap} {fr' : T AV} {H' : Heap}, FLe fr gr → evOps c l fr H = some (fr', H') → ∃ gr', evOps c' l gr H = some (gr', H') ∧ FLe fr' gr'
  | [], fr, gr, H, fr', H', h, e => by
    simp only [evOps, Option.some.injEq, Prod.mk.injEq] at e
    obtain ⟨rfl, rfl⟩ := e
    exact ⟨gr, rfl, h⟩
  | o :: l, fr, gr, H, fr', H', h, e => by
    rw [evOps] at e ⊢
    cases hg : o.guard with
    | none =>
      simp only [hg] at e ⊢
      cases ho : evOp c o.op fr H with
      | none => simp only [ho] at e; cases e
      | some r =>
        simp only [ho] at e
        simp only [evOp_le hc h ho]
        exact evOps_le hc (h.put _ _) e
    | some g =>
      obtain ⟨g, w⟩ := g
      simp only [hg] at e ⊢
      cases hx : fr.get g with
      | none => simp only [hx] at e; cases e
      | some v =>
        simp only [hx] at e
        simp only [h _ _ hx]
        split at e
        · rename_i b hb
          obtain rfl := Option.some.inj hb
          split at e
          · rename_i hw
            rw [if_pos hw]
            cases ho : evOp c o.op fr H with
            | none => simp only [ho] at e; cases e
            | some r =>
              simp only [ho] at e
              simp only [evOp_le hc h ho]
              exact evOps_le hc (h.put _ _) e
          · rename_i hw
            rw [if_neg hw]
            exact evOps_le hc (h.put _ _) e
        · rename_i b hb
          obtain rfl := Option.some.inj hb
          exact evOps_le hc (h.put _ _) e
        · cases e

theorem getResult_le {fr gr : T AV} (h : FLe fr gr) {H : Heap} {r : ARes} {v : AV} (e : getResult H fr r = some v) : getResult H gr r = some v := by
  cases r with
  | tmp t => exact h _ _ e
  | cell1 t =>
    simp only [getResult] at e ⊢
    cases hx : fr.get t with
    | none => simp only [hx] at e; cases e
    | some u => simp only [hx] at e; simp only [h _ _ hx]; exact e
  | cellN t n =>
    simp only [getResult] at e ⊢
    cases hx : fr.get t with
    | none => simp only [hx] at e; cases e
    | some u => simp only [hx] at e; simp only [h _ _ hx]; exact e
theorem getResults_le {fr gr : T AV} (h : FLe fr gr) {H : Heap} : ∀ {l : List ARes} {vs : List AV}, getResults H fr l = some vs → getResults H gr l = some vs
  | [], _, e => e
  | r :: l, vs, e => by
    rw [getResults] at e ⊢
    cases hr : getResult H fr r with
    | none => simp only [hr] at e; cases e
    | some v =>
      simp only [hr] at e
      simp only [getResult_le h hr]
      cases hl : getResults H fr l with
      | none => simp only [hl] at e; cases e
      | some ws => simp only [hl] at e; simp only [getResults_le h hl]; exact e

def ExLe (x y : AC → T AV → Heap → Option (AE × T AV × Heap)) : Prop :=
  ∀ c (fr gr : T AV) H e fr' H', FLe fr gr → x c fr H = some (e, fr', H') → ∃ gr', y c gr H = some (e, gr', H') ∧ FLe fr' gr'

theorem callW_le {x y : AC → T AV → Heap → Option (AE × T AV × Heap)} (h : ExLe x y) : CLe (callW A x) (callW A y) := by
  intro f vs H r e
  unfold callW at e ⊢
  cases hf : A.get f with
  | none => simp only [hf] at e; cases e
  | some fn =>
    simp only [hf] at e ⊢
    split at e
    · rename_i hl
      rw [if_pos hl]
      cases hx : x fn.code (argFrame 0 vs .e) H with
      | none => simp only [hx] at e; cases e
      | some p =>
        obtain ⟨z, fr', H'⟩ := p
        obtain ⟨gr', h1, h2⟩ := h _ _ _ _ _ _ _ (FLe.refl _) hx
        simp only [hx] at e
        simp only [h1]
        cases z with
        | ex i => simp at e
        | nm =>
          simp only [] at e ⊢
          cases hr : getResults H' fr' fn.results with
          | none => simp only [hr] at e; cases e
          | some ws => simp only [hr] at e; simp only [getResults_le h2 hr]; exact e
        | rt =>
          simp only [] at e ⊢
          cases hr : getResults H' fr' fn.results with
          | none => simp only [hr] at e; cases e
          | some ws => simp only [hr] at e; simp only [getResults_le h2 hr]; exact e
    · cases e

theorem execB_le {x y : AC → T AV → Heap → Option (AE × T AV × Heap)} (h : ExLe x y) : ExLe (execB A x) (execB A y) := by
  intro c fr gr H e fr' H' hl he
  cases c with
  | skip => simp only [execB, Option.some.injEq, Prod.mk.injEq] at he ⊢; obtain ⟨rfl, rfl, rfl⟩ := he; exact ⟨gr, ⟨rfl, rfl, rfl⟩, hl⟩
  | reg id d ops =>
    cases d with
    | true => simp [execB] at he
    | false =>
      simp only [execB] at he ⊢
      cases hx : evOps (callW A x) ops fr H with
      | none => simp only [hx] at he; cases he
      | some p =>
        obtain ⟨f1, H1⟩ := p
        simp only [hx, Option.some.injEq, Prod.mk.injEq] at he
        obtain ⟨rfl, rfl, rfl⟩ := he
        obtain ⟨g1, k1, k2⟩ := evOps_le (callW_le h) hl hx
        exact ⟨g1, by simp only [k1], k2⟩
  | seq a b =>
    simp only [execB] at he ⊢
    cases hx : x a fr H with
    | none => simp only [hx] at he; cases he
    | some p =>
      obtain ⟨z, f1, H1⟩ := p
      obtain ⟨g1, k1, k2⟩ := h _ _ _ _ _ _ _ hl hx
      simp only [hx] at he
      simp only [k1]
      cases z with
      | nm => exact h _ _ _ _ _ _ _ k2 he
      | ex i => simp only [Option.some.injEq, Prod.mk.injEq] at he ⊢; obtain ⟨rfl, rfl, rfl⟩ := he; exact ⟨g1, ⟨rfl, rfl, rfl⟩, k2⟩
      | rt => simp only [Option.some.injEq, Prod.mk.injEq] at he ⊢; obtain ⟨rfl, rfl, rfl⟩ := he; exact ⟨g1, ⟨rfl, rfl, rfl⟩, k2⟩
  | cond q a b =>
    simp only [execB] at he ⊢
    cases hx : evX fr q with
    | none => simp only [hx] at he; cases he
    | some v =>
      simp only [hx] at he
      simp only [evX_le hl hx]
      split at he
      · rename_i hv; obtain rfl := Option.some.inj hv; exact h _ _ _ _ _ _ _ hl he
      · rename_i hv; obtain rfl := Option.some.inj hv; exact h _ _ _ _ _ _ _ hl he
      · cases he
  | block id c =>
    simp only [execB] at he ⊢
    cases hx : x c fr H with
    | none => simp only [hx] at he; cases he
    | some p =>
      obtain ⟨z, f1, H1⟩ := p
      obtain ⟨g1, k1, k2⟩ := h _ _ _ _ _ _ _ hl hx
      simp only [hx] at he
      simp only [k1]
      cases z with
      | nm => simp only [Option.some.injEq, Prod.mk.injEq] at he ⊢; obtain ⟨rfl, rfl, rfl⟩ := he; exact ⟨g1, ⟨rfl, rfl, rfl⟩, k2⟩
      | rt => simp only [Option.some.injEq, Prod.mk.injEq] at he ⊢; obtain ⟨rfl, rfl, rfl⟩ := he; exact ⟨g1, ⟨rfl, rfl, rfl⟩, k2⟩
      | ex i =>
        simp only [] at he ⊢
        split at he
        · rename_i hi
          simp only [Option.some.injEq, Prod.mk.injEq] at he
          obtain ⟨rfl, rfl, rfl⟩ := he
          exact ⟨g1, by rw [if_pos hi], k2⟩
        · rename_i hi
          simp only [Option.some.injEq, Prod.mk.injEq] at he
          obtain ⟨rfl, rfl, rfl⟩ := he
          exact ⟨g1, by rw [if_neg hi], k2⟩
  | loop c =>
    simp only [execB] at he ⊢
    cases hx : x c fr H with
    | none => simp only [hx] at he; cases he
    | some p =>
      obtain ⟨z, f1, H1⟩ := p
      obtain ⟨g1, k1, k2⟩ := h _ _ _ _ _ _ _ hl hx
      simp only [hx] at he
      simp only [k1]
      cases z with
      | nm => exact h _ _ _ _ _ _ _ k2 he
      | ex i => simp only [Option.some.injEq, Prod.mk.injEq] at he ⊢; obtain ⟨rfl, rfl, rfl⟩ := he; exact ⟨g1, ⟨rfl, rfl, rfl⟩, k2⟩
      | rt => simp only [Option.some.injEq, Prod.mk.injEq] at he ⊢; obtain ⟨rfl, rfl, rfl⟩ := he; exact ⟨g1, ⟨rfl, rfl, rfl⟩, k2⟩
  | exit i => simp only [execB, Option.some.injEq, Prod.mk.injEq] at he ⊢; obtain ⟨rfl, rfl, rfl⟩ := he; exact ⟨gr, ⟨rfl, rfl, rfl⟩, hl⟩
  | ret => simp only [execB, Option.some.injEq, Prod.mk.injEq] at he ⊢; obtain ⟨rfl, rfl, rfl⟩ := he; exact ⟨gr, ⟨rfl, rfl, rfl⟩, hl⟩

theorem exec_le : ∀ {n m : Nat}, n ≤ m → ExLe (exec A n) (exec A m)
  | 0, _, _ => fun _ _ _ _ _ _ _ _ h => by simp [exec] at h
  | n + 1, 0, h => by omega
  | n + 1, m + 1, h => execB_le (exec_le (by omega))

def Wp (A : AProg) (c : AC) (fr : T AV) (H : Heap) (Q : AE → T AV → Heap → Prop) : Prop := ∃ n e fr' fr0 H', exec A n c fr H = some (e, fr', H') ∧ FLe fr0 fr' ∧ Q e fr0 H'
def WpOps (A : AProg) (l : List AOper) (fr : T AV) (H : Heap) (Q : T AV → Heap → Prop) : Prop := ∃ n fr' fr0 H', evOps (callA A n) l fr H = some (fr', H') ∧ FLe fr0 fr' ∧ Q fr0 H'
def WpOp (A : AProg) (o : AOp) (fr : T AV) (H : Heap) (Q : AV → Heap → Prop) : Prop := ∃ n v H', evOp (callA A n) o fr H = some (v, H') ∧ Q v H'
def WpCall (A : AProg) (f : Nat) (vs : List AV) (H : Heap) (Q : AV → Heap → Prop) : Prop := ∃ n v H', callA A n f vs H = some (v, H') ∧ Q v H'

theorem callA_le {n m : Nat} (h : n ≤ m) : CLe (callA A n) (callA A m) := callW_le (exec_le h)

theorem Wp.mono {c : AC} {fr : T AV} {H : Heap} {Q Q' : AE → T AV → Heap → Prop} (h : Wp A c fr H Q) (k : ∀ e fr H, Q e fr H → Q' e fr H) : Wp A c fr H Q' :=
  let ⟨n, e, f, f0, H', a, b, d⟩ := h; ⟨n, e, f, f0, H', a, b, k _ _ _ d⟩
theorem Wp.frame {c : AC} {fr gr : T AV} {H : Heap} {Q : AE → T AV → Heap → Prop} (h : Wp A c fr H Q) (hl : FLe fr gr) : Wp A c gr H Q := by
  obtain ⟨n, e, f, f0, H', a, b, d⟩ := h
  obtain ⟨g, k1, k2⟩ := exec_le (Nat.le_refl n) _ _ _ _ _ _ _ hl a
  exact ⟨n, e, g, f0, H', k1, b.trans k2, d⟩
theorem WpOps.mono {l : List AOper} {fr : T AV} {H : Heap} {Q Q' : T AV → Heap → Prop} (h : WpOps A l fr H Q) (k : ∀ fr H, Q fr H → Q' fr H) : WpOps A l fr H Q' :=
  let ⟨n, f, f0, H', a, b, d⟩ := h; ⟨n, f, f0, H', a, b, k _ _ d⟩
theorem WpOps.frame {l : List AOper} {fr gr : T AV} {H : Heap} {Q : T AV → Heap → Prop} (h : WpOps A l fr H Q) (hl : FLe fr gr) : WpOps A l gr H Q := by
  obtain ⟨n, f, f0, H', a, b, d⟩ := h
  obtain ⟨g, k1, k2⟩ := evOps_le (callA_le (Nat.le_refl n)) hl a
  exact ⟨n, g, f0, H', k1, b.trans k2, d⟩
theorem WpCall.mono {f : Nat} {vs : List AV} {H : Heap} {Q Q' : AV → Heap → Prop} (h : WpCall A f vs H Q) (k : ∀ v H, Q v H → Q' v H) : WpCall A f vs H Q' :=
  let ⟨n, v, H', a, b⟩ := h; ⟨n, v, H', a, k _ _ b⟩
theorem WpOp.mono {o : AOp} {fr : T AV} {H : Heap} {Q Q' : AV → Heap → Prop} (h : WpOp A o fr H Q) (k : ∀ v H, Q v H → Q' v H) : WpOp A o fr H Q' :=
  let ⟨n, v, H', a, b⟩ := h; ⟨n, v, H', a, k _ _ b⟩

theorem Wp.skip {fr : T AV} {H : Heap} {Q : AE → T AV → Heap → Prop} (h : Q .nm fr H) : Wp A .skip fr H Q := ⟨1, _, _, _, _, rfl, FLe.refl _, h⟩
theorem Wp.exit {id : Nat} {fr : T AV} {H : Heap} {Q : AE → T AV → Heap → Prop} (h : Q (.ex id) fr H) : Wp A (.exit id) fr H Q := ⟨1, _, _, _, _, rfl, FLe.refl _, h⟩
theorem Wp.ret {fr : T AV} {H : Heap} {Q : AE → T AV → Heap → Prop} (h : Q .rt fr H) : Wp A .ret fr H Q := ⟨1, _, _, _, _, rfl, FLe.refl _, h⟩
theorem Wp.reg {id : Nat} {l : List AOper} {fr : T AV} {H : Heap} {Q : AE → T AV → Heap → Prop} (h : WpOps A l fr H (Q .nm)) : Wp A (.reg id false l) fr H Q := by
  obtain ⟨n, f, f0, H', a, b, d⟩ := h
  refine ⟨n + 1, .nm, f, f0, H', ?_, b, d⟩
  have a' : evOps (callW A (exec A n)) l fr H = some (f, H') := a
  show execB A (exec A n) _ fr H = _
  simp only [execB, a']
def thenP (A : AProg) (b : AC) (Q : AE → T AV → Heap → Prop) : AE → T AV → Heap → Prop
  | .nm, fr, H => Wp A b fr H Q
  | e, fr, H => Q e fr H
theorem Wp.seq {a b : AC} {fr : T AV} {H : Heap} {Q : AE → T AV → Heap → Prop} (h : Wp A a fr H (thenP A b Q)) : Wp A (.seq a b) fr H Q := by
  obtain ⟨n, e, f, f0, H', h1, h2, h3⟩ := h
  cases e with
  | nm =>
    obtain ⟨m, e, g, g0, H2, k1, k2, k3⟩ := Wp.frame (show Wp A b f0 H' Q from h3) h2
    obtain ⟨f', r1, r2⟩ := exec_le (A := A) (Nat.le_max_left n m) _ _ _ _ _ _ _ (FLe.refl _) h1
    obtain ⟨g', s1, s2⟩ := exec_le (A := A) (Nat.le_max_right n m) _ _ _ _ _ _ _ r2 k1
    refine ⟨max n m + 1, e, g', g0, H2, ?_, k2.trans s2, k3⟩
    show execB A (exec A (max n m)) _ fr H = _
    simp only [execB, r1, s1]
  | ex i =>
    refine ⟨n + 1, .ex i, f, f0, H', ?_, h2, h3⟩
    show execB A (exec A n) _ fr H = _
    simp only [execB, h1]
  | rt =>
    refine ⟨n + 1, .rt, f, f0, H', ?_, h2, h3⟩
    show execB A (exec A n) _ fr H = _
    simp only [execB, h1]
theorem Wp.cond {x : AX} {a b : AC} {fr : T AV} {H : Heap} {Q : AE → T AV → Heap → Prop} {q : Bool} (hx : evX fr x = some (.v (.bool q))) (ha : q = true → Wp A a fr H Q) (hb : q = false → Wp A b fr H Q) : Wp A (.cond x a b) fr H Q := by
  cases q with
  | true =>
    obtain ⟨n, e, f, f0, H', h1, h2, h3⟩ := ha rfl
    refine ⟨n + 1, e, f, f0, H', ?_, h2, h3⟩
    show execB A (exec A n) _ fr H = _
    simp only [execB, hx, h1]
  | false =>
    obtain ⟨n, e, f, f0, H', h1, h2, h3⟩ := hb rfl
    refine ⟨n + 1, e, f, f0, H', ?_, h2, h3⟩
    show execB A (exec A n) _ fr H = _
    simp only [execB, hx, h1]
def blockP (id : Nat) (Q : AE → T AV → Heap → Prop) : AE → T AV → Heap → Prop
  | .ex i, fr, H => if i = id then Q .nm fr H else Q (.ex i) fr H
  | e, fr, H => Q e fr H
theorem Wp.block {id : Nat} {c : AC} {fr : T AV} {H : Heap} {Q : AE → T AV → Heap → Prop} (h : Wp A c fr H (blockP id Q)) : Wp A (.block id c) fr H Q := by
  obtain ⟨n, e, f, f0, H', h1, h2, h3⟩ := h
  cases e with
  | nm =>
    refine ⟨n + 1, .nm, f, f0, H', ?_, h2, h3⟩
    show execB A (exec A n) _ fr H = _
    simp only [execB, h1]
  | rt =>
    refine ⟨n + 1, .rt, f, f0, H', ?_, h2, h3⟩
    show execB A (exec A n) _ fr H = _
    simp only [execB, h1]
  | ex i =>
    by_cases hi : i = id
    · refine ⟨n + 1, .nm, f, f0, H', ?_, h2, ?_⟩
      · show execB A (exec A n) _ fr H = _
        simp only [execB, h1, if_pos hi]
      · have h3' : (if i = id then Q .nm f0 H' else Q (.ex i) f0 H') := h3
        rwa [if_pos hi] at h3'
    · refine ⟨n + 1, .ex i, f, f0, H', ?_, h2, ?_⟩
      · show execB A (exec A n) _ fr H = _
        simp only [execB, h1, if_neg hi]
      · have h3' : (if i = id then Q .nm f0 H' else Q (.ex i) f0 H') := h3
        rwa [if_neg hi] at h3'

/-- frames that are written out -/
def mkF : List (Nat × AV) → T AV
  | [] => .e
  | p :: r => (mkF r).set p.1 (some p.2)
def hasF (fr : T AV) : List (Nat × AV) → Prop
  | [] => True
  | p :: r => fr.get p.1 = some p.2 ∧ hasF fr r
theorem hasF_le {fr : T AV} : ∀ {l : List (Nat × AV)}, hasF fr l → FLe (mkF l) fr
  | [], _ => fun k v e => by simp [mkF, T.get] at e
  | p :: r, h => by
    intro k v e
    rw [mkF, T.get_set] at e
    split at e
    · rename_i hk; subst hk; rw [← e]; exact h.1
    · exact hasF_le h.2 _ _ e

def loopP (next : T AV → Heap → Prop) (Q : AE → T AV → Heap → Prop) : AE → T AV → Heap → Prop
  | .nm, fr, H => next fr H
  | e, fr, H => Q e fr H
theorem Wp.loop {S : Type} {c : AC} {Q : AE → T AV → Heap → Prop} (F : S → List (Nat × AV)) (I : S → Heap → Prop) (m : S → Nat)
    (hstep : ∀ s H, I s H → Wp A c (mkF (F s)) H (loopP (fun fr' H' => ∃ s', m s' < m s ∧ I s' H' ∧ hasF fr' (F s')) Q))
    (s : S) {fr : T AV} {H : Heap} (h0 : I s H) (hfr : hasF fr (F s)) : Wp A (.loop c) fr H Q := by
  suffices H0 : ∀ (k : Nat) (s : S) (H : Heap), m s < k → I s H → Wp A (.loop c) (mkF (F s)) H Q from (H0 _ s H (Nat.lt_succ_self _) h0).frame (hasF_le hfr)
  intro k
  induction k with
  | zero => intro s H h; omega
  | succ k ih =>
    intro s H hk hI
    obtain ⟨n, e, f, f0, H', h1, h2, h3⟩ := hstep s H hI
    cases e with
    | nm =>
      obtain ⟨s', g1, g2, g3⟩ := h3
      obtain ⟨m', e, g, g0, H2, k1, k2, k3⟩ := (ih s' H' (by omega) g2).frame ((hasF_le g3).trans h2)
      obtain ⟨f', r1, r2⟩ := exec_le (A := A) (Nat.le_max_left n m') _ _ _ _ _ _ _ (FLe.refl _) h1
      obtain ⟨g', s1, s2⟩ := exec_le (A := A) (Nat.le_max_right n m') _ _ _ _ _ _ _ r2 k1
      refine ⟨max n m' + 1, e, g', g0, H2, ?_, k2.trans s2, k3⟩
      show execB A (exec A (max n m')) _ _ H = _
      simp only [execB, r1, s1]
    | ex i =>
      refine ⟨n + 1, .ex i, f, f0, H', ?_, h2, h3⟩
      show execB A (exec A n) _ _ H = _
      simp only [execB, h1]
    | rt =>
      refine ⟨n + 1, .rt, f, f0, H', ?_, h2, h3⟩
      show execB A (exec A n) _ _ H = _
      simp only [execB, h1]

/-! operations -/
theorem WpOps.nil {fr : T AV} {H : Heap} {Q : T AV → Heap → Prop} (h : Q fr H) : WpOps A [] fr H Q := ⟨0, _, _, _, rfl, FLe.refl _, h⟩
theorem WpOps.eval {l : List AOper} {fr fr' : T AV} {H H' : Heap} {Q : T AV → Heap → Prop} (e : evOps (fun _ _ _ => none) l fr H = some (fr', H')) (h : Q fr' H') : WpOps A l fr H Q := by
  obtain ⟨g, k1, k2⟩ := evOps_le (c' := callA A 0) (by intro f vs H r h; cases h) (FLe.refl _) e
  exact ⟨0, g, fr', H', k1, k2, h⟩
theorem WpOps.append {l l' : List AOper} {fr : T AV} {H : Heap} {Q : T AV → Heap → Prop} (h : WpOps A l fr H (fun fr H => WpOps A l' fr H Q)) : WpOps A (l ++ l') fr H Q := by
  obtain ⟨n, f, f0, H1, h1, h2, h3⟩ := h
  obtain ⟨m, g, g0, H2, k1, k2, k3⟩ := WpOps.frame h3 h2
  obtain ⟨f', r1, r2⟩ := evOps_le (callA_le (A := A) (Nat.le_max_left n m)) (FLe.refl _) h1
  obtain ⟨g', s1, s2⟩ := evOps_le (callA_le (A := A) (Nat.le_max_right n m)) r2 k1
  refine ⟨max n m, g', g0, H2, ?_, k2.trans s2, k3⟩
  revert r1
  generalize callA A (max n m) = c at s1 ⊢
  clear h1 h3 k1 h2
  intro r1
  induction l generalizing fr H with
  | nil => simp only [evOps, Option.some.injEq, Prod.mk.injEq] at r1; obtain ⟨rfl, rfl⟩ := r1; exact s1
  | cons o l ih =>
    rw [List.cons_append, evOps]
    rw [evOps] at r1
    split at r1
    · split at r1
      · exact ih r1
      · cases r1
    · split at r1
      · split at r1
        · rename_i hb
          rw [if_pos hb]
          split at r1
          · exact ih r1
          · cases r1
        · rename_i hb
          rw [if_neg hb]
          exact ih r1
      · exact ih r1
      · cases r1
theorem WpOps.cons {o : AOper} {l : List AOper} {fr : T AV} {H : Heap} {Q : T AV → Heap → Prop} (hg : o.guard = none) (h : WpOp A o.op fr H (fun v H' => WpOps A l (putD fr o.dst v) H' Q)) : WpOps A (o :: l) fr H Q := by
  obtain ⟨n, v, H1, h1, h2⟩ := h
  refine WpOps.append (l := [o]) ⟨n, putD fr o.dst v, _, H1, ?_, FLe.refl _, h2⟩
  simp only [evOps, hg, h1]
theorem WpOps.consG {o : AOper} {l : List AOper} {fr : T AV} {H : Heap} {Q : T AV → Heap → Prop} {g : Nat} {w b : Bool} (hg : o.guard = some (g, w)) (hx : fr.get g = some (.v (.bool b)))
    (hy : b = w → WpOp A o.op fr H (fun v H' => WpOps A l (putD fr o.dst v) H' Q)) (hn : b ≠ w → WpOps A l (putD fr o.dst (.tup [])) H Q) : WpOps A (o :: l) fr H Q := by
  by_cases hb : b = w
  · obtain ⟨n, v, H1, h1, h2⟩ := hy hb
    refine WpOps.append (l := [o]) ⟨n, putD fr o.dst v, _, H1, ?_, FLe.refl _, h2⟩
    simp only [evOps, hg, hx, if_pos hb, h1]
  · refine WpOps.append (l := [o]) ⟨0, putD fr o.dst (.tup []), _, H, ?_, FLe.refl _, hn hb⟩
    simp only [evOps, hg, hx, if_neg hb]
theorem WpOps.consT {o : AOper} {l : List AOper} {fr : T AV} {H : Heap} {Q : T AV → Heap → Prop} {g : Nat} {w : Bool} {vs : List AV} (hg : o.guard = some (g, w)) (hx : fr.get g = some (.tup vs))
    (hn : WpOps A l (putD fr o.dst (.tup [])) H Q) : WpOps A (o :: l) fr H Q := by
  refine WpOps.append (l := [o]) ⟨0, putD fr o.dst (.tup []), _, H, ?_, FLe.refl _, hn⟩
  simp only [evOps, hg, hx]
theorem WpOp.eval {o : AOp} {fr : T AV} {H H' : Heap} {v : AV} {Q : AV → Heap → Prop} (e : evOp (fun _ _ _ => none) o fr H = some (v, H')) (h : Q v H') : WpOp A o fr H Q :=
  ⟨0, v, H', evOp_le (by intro f vs H r h; cases h) (FLe.refl _) e, h⟩
theorem WpOp.call {f : Nat} {xs : List AX} {vs : List AV} {fr : T AV} {H : Heap} {Q : AV → Heap → Prop} (e : evXs fr xs = some vs) (h : WpCall A f vs H Q) : WpOp A (.call f xs) fr H Q := by
  obtain ⟨n, v, H', h1, h2⟩ := h
  exact ⟨n, v, H', by simp only [evOp, e, h1], h2⟩
theorem WpOp.callv {f : Nat} {x : AX} {xs : List AX} {vs cs : List AV} {fr : T AV} {H : Heap} {Q : AV → Heap → Prop} (e0 : evX fr x = some (.fn f cs)) (e : evXs fr xs = some vs) (h : WpCall A f (vs ++ cs) H Q) : WpOp A (.callv x xs) fr H Q := by
  obtain ⟨n, v, H', h1, h2⟩ := h
  exact ⟨n, v, H', by simp only [evOp, e0, e, h1], h2⟩

def outA : List AV → AV
  | [v] => v
  | vs => .tup vs
def funP (rs : List ARes) (Q : AV → Heap → Prop) : AE → T AV → Heap → Prop
  | .ex _, _, _ => False
  | _, fr, H => ∃ vs, getResults H fr rs = some vs ∧ Q (outA vs) H
theorem WpCall.intro {f : Nat} {fn : AFunc} {vs : List AV} {H : Heap} {Q : AV → Heap → Prop} (hf : A.get f = some fn) (hl : vs.length = fn.nparams) (h : Wp A fn.code (argFrame 0 vs .e) H (funP fn.results Q)) : WpCall A f vs H Q := by
  obtain ⟨n, e, f1, f0, H', h1, h2, h3⟩ := h
  cases e with
  | ex i => exact h3.elim
  | nm =>
    obtain ⟨ws, g1, g2⟩ := h3
    refine ⟨n, outA ws, H', ?_, g2⟩
    simp only [callA, callW, hf, if_pos hl, h1, getResults_le h2 g1]
    match ws with
    | [] => rfl
    | [v] => rfl
    | _ :: _ :: _ => rfl
  | rt =>
    obtain ⟨ws, g1, g2⟩ := h3
    refine ⟨n, outA ws, H', ?_, g2⟩
    simp only [callA, callW, hf, if_pos hl, h1, getResults_le h2 g1]
    match ws with
    | [] => rfl
    | [v] => rfl
    | _ :: _ :: _ => rfl
theorem WpCall.eval {f n : Nat} {vs : List AV} {H H' : Heap} {v : AV} {Q : AV → Heap → Prop} (e : callA A n f vs H = some (v, H')) (h : Q v H') : WpCall A f vs H Q := ⟨n, v, H', e, h⟩
end
end Go.AM
