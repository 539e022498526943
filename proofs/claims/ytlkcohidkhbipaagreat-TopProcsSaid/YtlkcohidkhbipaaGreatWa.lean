/- Rules for the machine. No condition. -/
import Derived.Test.YtlkcohidkhbipaaGreatAMc
set_option linter.all false
namespace Go.AM
/-! ## More fuel, more is known -/
def FLe (fr gr : T AV) : Prop := ∀ (k : Nat) (v : AV), fr.get k = some v → gr.get k = some v
theorem FLe.refl (fr : T AV) : FLe fr fr := fun _ _ h => h
theorem FLe.trans {a b c : T AV} (h : FLe a b) (k : FLe b c) : FLe a c := fun i v e => k i v (h i v e)
theorem FLe.set {fr gr : T AV} (h : FLe fr gr) (k : Nat) (x : Option AV) : FLe (fr.set k x) (gr.set k x) := by
 intro j v e
 rw [T.get_set] at e ⊢
 split at e
 ·rename_i hj; rw [if_pos hj]; exact e
 ·rename_i hj; rw [if_neg hj]; exact h _ _ e
theorem FLe.put {fr gr : T AV} (h : FLe fr gr) (d : Option Nat) (v : AV) : FLe (putD fr d v) (putD gr d v) := by
 cases d with
 | none => exact h
 | some d => exact h.set d _
section
variable {fr gr : T AV}
theorem evX_le (h : FLe fr gr) {x : AX} {v : AV} (e : evX fr x = some v) : evX gr x = some v := by
 cases x with
 | t n => exact h _ _ e
 | c w => exact e
theorem evXs_le (h : FLe fr gr) : ∀ {l : List AX} {vs : List AV}, evXs fr l = some vs → evXs gr l = some vs
 | [], _, e => e
 | x :: l, vs, e => by
   rw [evXs] at e ⊢
   cases hx : evX fr x with
   | none => rw [hx] at e; cases e
   | some v =>
     rw [hx] at e
     rw [evX_le h hx]
     cases hl : evXs fr l with
     | none => simp only [hl] at e; cases e
     | some ws => simp only [hl] at e; simp only [evXs_le h hl]; exact e
theorem fillA_le (h : FLe fr gr) : ∀ {ps : List (Nat × Nat × AX)} {cs ds : List AV}, fillA fr cs ps = some ds → fillA gr cs ps = some ds
 | [], _, _, e => e
 | (o, s, x) :: r, cs, ds, e => by
   rw [fillA] at e ⊢
   cases hx : evX fr x with
   | none => simp only [hx] at e; cases e
   | some v =>
     simp only [hx] at e
     simp only [evX_le h hx]
     cases hv : v.cs with
     | none => simp only [hv] at e; cases e
     | some vs =>
       simp only [hv] at e ⊢
       split at e
       ·rename_i hl
        rw [if_pos hl]
        cases hp : putAt cs o vs with
        | none => simp only [hp] at e; cases e
        | some cs' => simp only [hp] at e ⊢; exact fillA_le h e
       ·cases e
theorem boundX_fle (h : FLe fr gr) {d hi n : Nat} : ∀ {x : Option AX}, boundX fr d hi x = some n → boundX gr d hi x = some n
 | none, e => e
 | some x, e => by
   rw [boundX] at e ⊢
   cases hx : evX fr x with
   | none => simp only [hx] at e; cases e
   | some v => simp only [hx] at e; simp only [evX_le h hx]; exact e
def CLe (c c' : Nat → List AV → Heap → Option (AV × Heap)) : Prop := ∀ f vs H r, c f vs H = some r → c' f vs H = some r
theorem evOp_le {c c' : Nat → List AV → Heap → Option (AV × Heap)} (hc : CLe c c') (h : FLe fr gr) {o : AOp} {H : Heap} {r : AV × Heap} (e : evOp c o fr H = some r) : evOp c' o gr H = some r := by
 induction o generalizing r
 case ck ts o ih =>
  obtain ⟨v, H'⟩ := r
  obtain ⟨e1, hU⟩ := evOp_ck.1 e
  refine evOp_ck.2 ⟨ih e1, fun t ht => ?_⟩
  obtain ⟨v', g1, g2⟩ := hU t ht
  exact ⟨v', h t v' g1, g2⟩
 case pick q a b =>
  rcases hx : evX fr q with _ | u
  ·simp [evOp, hx] at e
  ·rcases u with x | _ | _ | _ | _ | _ | _ <;> try (simp [evOp, hx] at e; done)
   rcases x with t | _ | _ | _ | _ | _ | _ | _ | _ | _ | _ | _ <;> try (simp [evOp, hx] at e; done)
   cases t
   ·rcases hy : evX fr b with _ | u
    ·simp [evOp, hx, hy] at e
    ·simp only [evOp, hx, hy, evX_le h hx, evX_le h hy] at e ⊢; exact e
   ·rcases hy : evX fr a with _ | u
    ·simp [evOp, hx, hy] at e
    ·simp only [evOp, hx, hy, evX_le h hx, evX_le h hy] at e ⊢; exact e
 case build z ps =>
  rcases hx : fillA fr z ps with _ | u
  ·simp [evOp, hx] at e
  ·simp only [evOp, hx, fillA_le h hx] at e ⊢; exact e
 case bslice es len z ps =>
  rcases hx : fillA fr z ps with _ | u
  ·simp [evOp, hx] at e
  ·simp only [evOp, hx, fillA_le h hx] at e ⊢; exact e
 case eqnil a s x =>
  rcases hx : evX fr x with _ | u
  ·cases s <;> simp [evOp, hx] at e
  ·simp only [evOp, hx, evX_le h hx] at e ⊢; exact e
 case len s x =>
  rcases hx : evX fr x with _ | u
  ·cases s <;> simp [evOp, hx] at e
  ·simp only [evOp, hx, evX_le h hx] at e ⊢; exact e
 case slice es x lo hi =>
  rcases hx : evX fr x with _ | u
  ·simp [evOp, hx] at e
  ·simp only [evOp, hx, evX_le h hx] at e ⊢
   split at e
   ·split at e
    ·rename_i h1
     rw [boundX_fle h h1]
     split at e
     ·rename_i h2; simp only [boundX_fle h h2]; exact e
     ·cases e
    ·cases e
   ·split at e
    ·rename_i h1
     rw [boundX_fle h h1]
     split at e
     ·rename_i h2; simp only [boundX_fle h h2]; exact e
     ·cases e
    ·cases e
   ·cases e
 case sstr x lo hi =>
  rcases hx : evX fr x with _ | u
  ·simp [evOp, hx] at e
  ·simp only [evOp, hx, evX_le h hx] at e ⊢
   split at e
   ·split at e
    ·rename_i h1
     rw [boundX_fle h h1]
     split at e
     ·rename_i h2; simp only [boundX_fle h h2]; exact e
     ·cases e
    ·cases e
   ·cases e
 case call f xs =>
  rcases hx : evXs fr xs with _ | u
  ·simp [evOp, hx] at e
  ·simp only [evOp, hx, evXs_le h hx] at e ⊢; exact hc _ _ _ _ e
 case mkfn f xs =>
  rcases hx : evXs fr xs with _ | u
  ·simp [evOp, hx] at e
  ·simp only [evOp, hx, evXs_le h hx] at e ⊢; exact e
 case callv x xs =>
  rcases hx : evX fr x with _ | u
  ·simp [evOp, hx] at e
  ·simp only [evOp, hx, evX_le h hx] at e ⊢
   split at e
   ·rcases hy : evXs fr xs with _ | u
    ·simp [hy] at e
    ·simp only [hy, evXs_le h hy] at e ⊢; exact hc _ _ _ _ e
   ·split at e
    ·rename_i hb
     try rw [if_pos hb]
     rcases hy : evXs fr xs with _ | u
     ·simp [hy] at e
     ·simp only [hy, evXs_le h hy] at e ⊢; exact hc _ _ _ _ e
    ·cases e
   ·cases e
 case invk2 tb x xs =>
  rcases hx : evX fr x with _ | u
  ·simp [evOp, hx] at e
  ·simp only [evOp, hx, evX_le h hx] at e ⊢
   split at e
   ·split at e
    ·rcases hy : evXs fr xs with _ | u
     ·simp [hy] at e
     ·simp only [hy, evXs_le h hy] at e ⊢; exact hc _ _ _ _ e
    ·split at e
     ·split at e
      ·rcases hy : evXs fr xs with _ | u
       ·simp [hy] at e
       ·simp only [hy, evXs_le h hy] at e ⊢; exact hc _ _ _ _ e
      ·cases e
     ·cases e
    ·cases e
   ·cases e
 case invk tb x xs =>
  rcases hx : evX fr x with _ | u
  ·simp [evOp, hx] at e
  ·simp only [evOp, hx, evX_le h hx] at e ⊢
   split at e
   ·split at e
    ·rcases hy : evXs fr xs with _ | u
     ·simp [hy] at e
     ·simp only [hy, evXs_le h hy] at e ⊢; exact hc _ _ _ _ e
    ·cases e
   ·cases e
 case bad => simp [evOp] at e
 case store n x y =>
  rcases hx : evX fr x with _ | u
  ·simp [evOp, hx] at e
  ·rcases hy : evX fr y with _ | v
   ·simp [evOp, hx, hy] at e
   ·simp only [evOp, hx, hy, evX_le h hx, evX_le h hy] at e ⊢; exact e
 case bin n x y =>
  rcases hx : evX fr x with _ | u
  ·simp [evOp, hx] at e
  ·rcases hy : evX fr y with _ | v
   ·simp [evOp, hx, hy] at e
   ·simp only [evOp, hx, hy, evX_le h hx, evX_le h hy] at e ⊢; exact e
 case beq a b c x y =>
  rcases hx : evX fr x with _ | u
  ·simp [evOp, hx] at e
  ·rcases hy : evX fr y with _ | v
   ·simp [evOp, hx, hy] at e
   ·simp only [evOp, hx, hy, evX_le h hx, evX_le h hy] at e ⊢; exact e
 case mkslice a b c x y =>
  rcases hx : evX fr x with _ | u
  ·simp [evOp, hx] at e
  ·rcases hy : evX fr y with _ | v
   ·simp [evOp, hx, hy] at e
   ·simp only [evOp, hx, hy, evX_le h hx, evX_le h hy] at e ⊢; exact e
 case iaddr a x y =>
  rcases hx : evX fr x with _ | u
  ·simp [evOp, hx] at e
  ·rcases hy : evX fr y with _ | v
   ·simp [evOp, hx, hy] at e
   ·simp only [evOp, hx, hy, evX_le h hx, evX_le h hy] at e ⊢; exact e
 case aaddr a b x y =>
  rcases hx : evX fr x with _ | u
  ·simp [evOp, hx] at e
  ·rcases hy : evX fr y with _ | v
   ·simp [evOp, hx, hy] at e
   ·simp only [evOp, hx, hy, evX_le h hx, evX_le h hy] at e ⊢; exact e
 case sidx x y =>
  rcases hx : evX fr x with _ | u
  ·simp [evOp, hx] at e
  ·rcases hy : evX fr y with _ | v
   ·simp [evOp, hx, hy] at e
   ·simp only [evOp, hx, hy, evX_le h hx, evX_le h hy] at e ⊢; exact e
 case app a b x y =>
  rcases hx : evX fr x with _ | u
  ·simp [evOp, hx] at e
  ·rcases hy : evX fr y with _ | v
   ·simp [evOp, hx, hy] at e
   ·simp only [evOp, hx, hy, evX_le h hx, evX_le h hy] at e ⊢; exact e
 case mn x y =>
  rcases hx : evX fr x with _ | u
  ·simp [evOp, hx] at e
  ·rcases hy : evX fr y with _ | v
   ·simp [evOp, hx, hy] at e
   ·simp only [evOp, hx, hy, evX_le h hx, evX_le h hy] at e ⊢; exact e
 case mx x y =>
  rcases hx : evX fr x with _ | u
  ·simp [evOp, hx] at e
  ·rcases hy : evX fr y with _ | v
   ·simp [evOp, hx, hy] at e
   ·simp only [evOp, hx, hy, evX_le h hx, evX_le h hy] at e ⊢; exact e
 case appz a b z x y =>
  rcases hx : evX fr x with _ | u
  ·simp [evOp, hx] at e
  ·rcases hy : evX fr y with _ | v
   ·simp [evOp, hx, hy] at e
   ·simp only [evOp, hx, hy, evX_le h hx, evX_le h hy] at e ⊢; exact e
 case aidx a x y =>
  rcases hx : evX fr x with _ | u
  ·simp [evOp, hx] at e
  ·rcases hy : evX fr y with _ | v
   ·simp [evOp, hx, hy] at e
   ·simp only [evOp, hx, hy, evX_le h hx, evX_le h hy] at e ⊢; exact e
 case cpy a x y =>
  rcases hx : evX fr x with _ | u
  ·simp [evOp, hx] at e
  ·rcases hy : evX fr y with _ | v
   ·simp [evOp, hx, hy] at e
   ·simp only [evOp, hx, hy, evX_le h hx, evX_le h hy] at e ⊢; exact e
 case slice3 es x lo hi m3 =>
  rcases hx : evX fr x with _ | u
  ·simp [evOp, hx] at e
  ·simp only [evOp, hx, evX_le h hx] at e ⊢
   split at e
   ·split at e
    ·rename_i h0
     rw [boundX_fle h h0]
     simp only
     split at e
     ·rename_i h1
      rw [boundX_fle h h1]
      simp only
      split at e
      ·rename_i h2; simp only [boundX_fle h h2]; exact e
      ·cases e
     ·cases e
    ·cases e
   ·split at e
    ·rename_i h0
     rw [boundX_fle h h0]
     simp only
     split at e
     ·rename_i h1
      rw [boundX_fle h h1]
      simp only
      split at e
      ·rename_i h2; simp only [boundX_fle h h2]; exact e
      ·cases e
     ·cases e
    ·cases e
   ·cases e
 case ext x i =>
  rcases hx : evX fr x with _ | u
  ·simp [evOp, hx] at e
  ·simp only [evOp, hx, evX_le h hx] at e ⊢; exact e
 case mlook x y =>
  rcases hx : evX fr x with _ | u
  ·simp [evOp, hx] at e
  ·rcases hy : evX fr y with _ | v
   ·simp [evOp, hx, hy] at e
   ·simp only [evOp, hx, hy, evX_le h hx, evX_le h hy] at e ⊢; exact e
 case ment x y =>
  rcases hx : evX fr x with _ | u
  ·simp [evOp, hx] at e
  ·rcases hy : evX fr y with _ | v
   ·simp [evOp, hx, hy] at e
   ·simp only [evOp, hx, hy, evX_le h hx, evX_le h hy] at e ⊢; exact e
 case mst x y z =>
  rcases hx : evX fr x with _ | u
  ·simp [evOp, hx] at e
  ·rcases hy : evX fr y with _ | v
   ·simp [evOp, hx, hy] at e
   ·rcases hz : evX fr z with _ | t
    ·simp [evOp, hx, hy, hz] at e
    ·simp only [evOp, hx, hy, hz, evX_le h hx, evX_le h hy, evX_le h hz] at e ⊢; exact e
 case mup x y z =>
  rcases hx : evX fr x with _ | u
  ·simp [evOp, hx] at e
  ·rcases hy : evX fr y with _ | v
   ·simp [evOp, hx, hy] at e
   ·rcases hz : evX fr z with _ | t
    ·simp [evOp, hx, hy, hz] at e
    ·simp only [evOp, hx, hy, hz, evX_le h hx, evX_le h hy, evX_le h hz] at e ⊢; exact e
 case mkmap => exact e
 all_goals
  rename_i x
  rcases hx : evX fr x with _ | u
  ·simp [evOp, hx] at e
  ·simp only [evOp, hx, evX_le h hx] at e ⊢; exact e
end
end Go.AM
namespace Go.AM
section
variable {A : AProg}
/-! ## Ways through the code, forward: `Wp` says that the machine gets through, and where it comes out -/
theorem evOps_le {c c' : Nat → List AV → Heap → Option (AV × Heap)} (hc : CLe c c') : ∀ {l : List AOper} {fr gr : T AV} {H : Heap} {fr' : T AV} {H' : Heap}, FLe fr gr → evOps c l fr H = some (fr', H') → ∃ gr', evOps c' l gr H = some (gr', H') ∧ FLe fr' gr'
 | [], fr, gr, H, fr', H', h, e => by
   simp only [evOps, Option.some.injEq, Prod.mk.injEq] at e
   obtain ⟨rfl, rfl⟩ := e
   exact ⟨gr, rfl, h⟩
 | o :: l, fr, gr, H, fr', H', h, e => by
   rw [evOps] at e ⊢
   cases hg : o.guard with
   | none =>
     simp only [hg] at e ⊢
     cases ho : evOp c o.op fr H with
     | none => simp only [ho] at e; cases e
     | some r =>
       simp only [ho] at e
       simp only [evOp_le hc h ho]
       exact evOps_le hc (h.put _ _) e
   | some g =>
     obtain ⟨g, w⟩ := g
     simp only [hg] at e ⊢
     cases hx : fr.get g with
     | none => simp only [hx] at e; cases e
     | some v =>
       simp only [hx] at e
       simp only [h _ _ hx]
       split at e
       ·rename_i b hb
        obtain rfl := Option.some.inj hb
        split at e
        ·rename_i hw
         rw [if_pos hw]
         cases ho : evOp c o.op fr H with
         | none => simp only [ho] at e; cases e
         | some r =>
           simp only [ho] at e
           simp only [evOp_le hc h ho]
           exact evOps_le hc (h.put _ _) e
        ·rename_i hw
         rw [if_neg hw]
         exact evOps_le hc (h.put _ _) e
       ·rename_i b hb
        obtain rfl := Option.some.inj hb
        exact evOps_le hc (h.put _ _) e
       ·cases e
theorem getResult_le {fr gr : T AV} (h : FLe fr gr) {H : Heap} {r : ARes} {v : AV} (e : getResult H fr r = some v) : getResult H gr r = some v := by
 cases r with
 | tmp t => exact h _ _ e
 | cell1 t =>
   simp only [getResult] at e ⊢
   cases hx : fr.get t with
   | none => simp only [hx] at e; cases e
   | some u => simp only [hx] at e; simp only [h _ _ hx]; exact e
 | cellN t n =>
   simp only [getResult] at e ⊢
   cases hx : fr.get t with
   | none => simp only [hx] at e; cases e
   | some u => simp only [hx] at e; simp only [h _ _ hx]; exact e
theorem getResults_le {fr gr : T AV} (h : FLe fr gr) {H : Heap} : ∀ {l : List ARes} {vs : List AV}, getResults H fr l = some vs → getResults H gr l = some vs
 | [], _, e => e
 | r :: l, vs, e => by
   rw [getResults] at e ⊢
   cases hr : getResult H fr r with
   | none => simp only [hr] at e; cases e
   | some v =>
     simp only [hr] at e
     simp only [getResult_le h hr]
     cases hl : getResults H fr l with
     | none => simp only [hl] at e; cases e
     | some ws => simp only [hl] at e; simp only [getResults_le h hl]; exact e
def ExLe (x y : AC → T AV → Heap → Option (AE × T AV × Heap)) : Prop :=
 ∀ c (fr gr : T AV) H e fr' H', FLe fr gr → x c fr H = some (e, fr', H') → ∃ gr', y c gr H = some (e, gr', H') ∧ FLe fr' gr'
theorem callW_le {x y : AC → T AV → Heap → Option (AE × T AV × Heap)} (h : ExLe x y) : CLe (callW A x) (callW A y) := by
 intro f vs H r e
 unfold callW at e ⊢
 cases hf : A.get f with
 | none => simp only [hf] at e; cases e
 | some fn =>
   simp only [hf] at e ⊢
   split at e
   ·rename_i hl
    rw [if_pos hl]
    cases hx : x fn.code (argFrame 0 vs .e) H with
    | none => simp only [hx] at e; cases e
    | some p =>
      obtain ⟨z, fr', H'⟩ := p
      obtain ⟨gr', h1, h2⟩ := h _ _ _ _ _ _ _ (FLe.refl _) hx
      simp only [hx] at e
      simp only [h1]
      cases z with
      | ex i => simp at e
      | nm =>
        simp only [] at e ⊢
        cases hr : getResults H' fr' fn.results with
        | none => simp only [hr] at e; cases e
        | some ws => simp only [hr] at e; simp only [getResults_le h2 hr]; exact e
      | rt =>
        simp only [] at e ⊢
        cases hr : getResults H' fr' fn.results with
        | none => simp only [hr] at e; cases e
        | some ws => simp only [hr] at e; simp only [getResults_le h2 hr]; exact e
   ·cases e
theorem execB_le {x y : AC → T AV → Heap → Option (AE × T AV × Heap)} (h : ExLe x y) : ExLe (execB A x) (execB A y) := by
 intro c fr gr H e fr' H' hl he
 cases c with
 | skip => simp only [execB, Option.some.injEq, Prod.mk.injEq] at he ⊢; obtain ⟨rfl, rfl, rfl⟩ := he; exact ⟨gr, ⟨rfl, rfl, rfl⟩, hl⟩
 | reg id d ops =>
   cases d with
   | true => simp [execB] at he
   | false =>
     simp only [execB] at he ⊢
     cases hx : evOps (callW A x) ops fr H with
     | none => simp only [hx] at he; cases he
     | some p =>
       obtain ⟨f1, H1⟩ := p
       simp only [hx, Option.some.injEq, Prod.mk.injEq] at he
       obtain ⟨rfl, rfl, rfl⟩ := he
       obtain ⟨g1, k1, k2⟩ := evOps_le (callW_le h) hl hx
       exact ⟨g1, by simp only [k1], k2⟩
 | seq a b =>
   simp only [execB] at he ⊢
   cases hx : x a fr H with
   | none => simp only [hx] at he; cases he
   | some p =>
     obtain ⟨z, f1, H1⟩ := p
     obtain ⟨g1, k1, k2⟩ := h _ _ _ _ _ _ _ hl hx
     simp only [hx] at he
     simp only [k1]
     cases z with
     | nm => exact h _ _ _ _ _ _ _ k2 he
     | ex i => simp only [Option.some.injEq, Prod.mk.injEq] at he ⊢; obtain ⟨rfl, rfl, rfl⟩ := he; exact ⟨g1, ⟨rfl, rfl, rfl⟩, k2⟩
     | rt => simp only [Option.some.injEq, Prod.mk.injEq] at he ⊢; obtain ⟨rfl, rfl, rfl⟩ := he; exact ⟨g1, ⟨rfl, rfl, rfl⟩, k2⟩
 | cond q a b =>
   simp only [execB] at he ⊢
   cases hx : evX fr q with
   | none => simp only [hx] at he; cases he
   | some v =>
     simp only [hx] at he
     simp only [evX_le hl hx]
     split at he
     ·rename_i hv; obtain rfl := Option.some.inj hv; exact h _ _ _ _ _ _ _ hl he
     ·rename_i hv; obtain rfl := Option.some.inj hv; exact h _ _ _ _ _ _ _ hl he
     ·cases he
 | block id c =>
   simp only [execB] at he ⊢
   cases hx : x c fr H with
   | none => simp only [hx] at he; cases he
   | some p =>
     obtain ⟨z, f1, H1⟩ := p
     obtain ⟨g1, k1, k2⟩ := h _ _ _ _ _ _ _ hl hx
     simp only [hx] at he
     simp only [k1]
     cases z with
     | nm => simp only [Option.some.injEq, Prod.mk.injEq] at he ⊢; obtain ⟨rfl, rfl, rfl⟩ := he; exact ⟨g1, ⟨rfl, rfl, rfl⟩, k2⟩
     | rt => simp only [Option.some.injEq, Prod.mk.injEq] at he ⊢; obtain ⟨rfl, rfl, rfl⟩ := he; exact ⟨g1, ⟨rfl, rfl, rfl⟩, k2⟩
     | ex i =>
       simp only [] at he ⊢
       split at he
       ·rename_i hi
        simp only [Option.some.injEq, Prod.mk.injEq] at he
        obtain ⟨rfl, rfl, rfl⟩ := he
        exact ⟨g1, by rw [if_pos hi], k2⟩
       ·rename_i hi
        simp only [Option.some.injEq, Prod.mk.injEq] at he
        obtain ⟨rfl, rfl, rfl⟩ := he
        exact ⟨g1, by rw [if_neg hi], k2⟩
 | loop c =>
   simp only [execB] at he ⊢
   cases hx : x c fr H with
   | none => simp only [hx] at he; cases he
   | some p =>
     obtain ⟨z, f1, H1⟩ := p
     obtain ⟨g1, k1, k2⟩ := h _ _ _ _ _ _ _ hl hx
     simp only [hx] at he
     simp only [k1]
     cases z with
     | nm => exact h _ _ _ _ _ _ _ k2 he
     | ex i => simp only [Option.some.injEq, Prod.mk.injEq] at he ⊢; obtain ⟨rfl, rfl, rfl⟩ := he; exact ⟨g1, ⟨rfl, rfl, rfl⟩, k2⟩
     | rt => simp only [Option.some.injEq, Prod.mk.injEq] at he ⊢; obtain ⟨rfl, rfl, rfl⟩ := he; exact ⟨g1, ⟨rfl, rfl, rfl⟩, k2⟩
 | exit i => simp only [execB, Option.some.injEq, Prod.mk.injEq] at he ⊢; obtain ⟨rfl, rfl, rfl⟩ := he; exact ⟨gr, ⟨rfl, rfl, rfl⟩, hl⟩
 | ret => simp only [execB, Option.some.injEq, Prod.mk.injEq] at he ⊢; obtain ⟨rfl, rfl, rfl⟩ := he; exact ⟨gr, ⟨rfl, rfl, rfl⟩, hl⟩
theorem exec_le : ∀ {n m : Nat}, n ≤ m → ExLe (exec A n) (exec A m)
 | 0, _, _ => fun _ _ _ _ _ _ _ _ h => by simp [exec] at h
 | n + 1, 0, h => by omega
 | n + 1, m + 1, h => execB_le (exec_le (by omega))
def Wp (A : AProg) (c : AC) (fr : T AV) (H : Heap) (Q : AE → T AV → Heap → Prop) : Prop := ∃ n e fr' fr0 H', exec A n c fr H = some (e, fr', H') ∧ FLe fr0 fr' ∧ Q e fr0 H'
def WpOps (A : AProg) (l : List AOper) (fr : T AV) (H : Heap) (Q : T AV → Heap → Prop) : Prop := ∃ n fr' fr0 H', evOps (callA A n) l fr H = some (fr', H') ∧ FLe fr0 fr' ∧ Q fr0 H'
def WpOp (A : AProg) (o : AOp) (fr : T AV) (H : Heap) (Q : AV → Heap → Prop) : Prop := ∃ n v H', evOp (callA A n) o fr H = some (v, H') ∧ Q v H'
def WpCall (A : AProg) (f : Nat) (vs : List AV) (H : Heap) (Q : AV → Heap → Prop) : Prop := ∃ n v H', callA A n f vs H = some (v, H') ∧ Q v H'
theorem callA_le {n m : Nat} (h : n ≤ m) : CLe (callA A n) (callA A m) := callW_le (exec_le h)
theorem Wp.mono {c : AC} {fr : T AV} {H : Heap} {Q Q' : AE → T AV → Heap → Prop} (h : Wp A c fr H Q) (k : ∀ e fr H, Q e fr H → Q' e fr H) : Wp A c fr H Q' :=
 let ⟨n, e, f, f0, H', a, b, d⟩ := h; ⟨n, e, f, f0, H', a, b, k _ _ _ d⟩
theorem Wp.frame {c : AC} {fr gr : T AV} {H : Heap} {Q : AE → T AV → Heap → Prop} (h : Wp A c fr H Q) (hl : FLe fr gr) : Wp A c gr H Q := by
 obtain ⟨n, e, f, f0, H', a, b, d⟩ := h
 obtain ⟨g, k1, k2⟩ := exec_le (Nat.le_refl n) _ _ _ _ _ _ _ hl a
 exact ⟨n, e, g, f0, H', k1, b.trans k2, d⟩
theorem WpOps.mono {l : List AOper} {fr : T AV} {H : Heap} {Q Q' : T AV → Heap → Prop} (h : WpOps A l fr H Q) (k : ∀ fr H, Q fr H → Q' fr H) : WpOps A l fr H Q' :=
 let ⟨n, f, f0, H', a, b, d⟩ := h; ⟨n, f, f0, H', a, b, k _ _ d⟩
theorem WpOps.frame {l : List AOper} {fr gr : T AV} {H : Heap} {Q : T AV → Heap → Prop} (h : WpOps A l fr H Q) (hl : FLe fr gr) : WpOps A l gr H Q := by
 obtain ⟨n, f, f0, H', a, b, d⟩ := h
 obtain ⟨g, k1, k2⟩ := evOps_le (callA_le (Nat.le_refl n)) hl a
 exact ⟨n, g, f0, H', k1, b.trans k2, d⟩
theorem WpCall.mono {f : Nat} {vs : List AV} {H : Heap} {Q Q' : AV → Heap → Prop} (h : WpCall A f vs H Q) (k : ∀ v H, Q v H → Q' v H) : WpCall A f vs H Q' :=
 let ⟨n, v, H', a, b⟩ := h; ⟨n, v, H', a, k _ _ b⟩
theorem WpOp.mono {o : AOp} {fr : T AV} {H : Heap} {Q Q' : AV → Heap → Prop} (h : WpOp A o fr H Q) (k : ∀ v H, Q v H → Q' v H) : WpOp A o fr H Q' :=
 let ⟨n, v, H', a, b⟩ := h; ⟨n, v, H', a, k _ _ b⟩
theorem Wp.skip {fr : T AV} {H : Heap} {Q : AE → T AV → Heap → Prop} (h : Q .nm fr H) : Wp A .skip fr H Q := ⟨1, _, _, _, _, rfl, FLe.refl _, h⟩
theorem Wp.exit {id : Nat} {fr : T AV} {H : Heap} {Q : AE → T AV → Heap → Prop} (h : Q (.ex id) fr H) : Wp A (.exit id) fr H Q := ⟨1, _, _, _, _, rfl, FLe.refl _, h⟩
theorem Wp.ret {fr : T AV} {H : Heap} {Q : AE → T AV → Heap → Prop} (h : Q .rt fr H) : Wp A .ret fr H Q := ⟨1, _, _, _, _, rfl, FLe.refl _, h⟩
theorem Wp.reg {id : Nat} {l : List AOper} {fr : T AV} {H : Heap} {Q : AE → T AV → Heap → Prop} (h : WpOps A l fr H (Q .nm)) : Wp A (.reg id false l) fr H Q := by
 obtain ⟨n, f, f0, H', a, b, d⟩ := h
 refine ⟨n + 1, .nm, f, f0, H', ?_, b, d⟩
 have a' : evOps (callW A (exec A n)) l fr H = some (f, H') := a
 show execB A (exec A n) _ fr H = _
 simp only [execB, a']
def thenP (A : AProg) (b : AC) (Q : AE → T AV → Heap → Prop) : AE → T AV → Heap → Prop
 | .nm, fr, H => Wp A b fr H Q
 | e, fr, H => Q e fr H
theorem Wp.seq {a b : AC} {fr : T AV} {H : Heap} {Q : AE → T AV → Heap → Prop} (h : Wp A a fr H (thenP A b Q)) : Wp A (.seq a b) fr H Q := by
 obtain ⟨n, e, f, f0, H', h1, h2, h3⟩ := h
 cases e with
 | nm =>
   obtain ⟨m, e, g, g0, H2, k1, k2, k3⟩ := Wp.frame (show Wp A b f0 H' Q from h3) h2
   obtain ⟨f', r1, r2⟩ := exec_le (A := A) (Nat.le_max_left n m) _ _ _ _ _ _ _ (FLe.refl _) h1
   obtain ⟨g', s1, s2⟩ := exec_le (A := A) (Nat.le_max_right n m) _ _ _ _ _ _ _ r2 k1
   refine ⟨max n m + 1, e, g', g0, H2, ?_, k2.trans s2, k3⟩
   show execB A (exec A (max n m)) _ fr H = _
   simp only [execB, r1, s1]
 | ex i =>
   refine ⟨n + 1, .ex i, f, f0, H', ?_, h2, h3⟩
   show execB A (exec A n) _ fr H = _
   simp only [execB, h1]
 | rt =>
   refine ⟨n + 1, .rt, f, f0, H', ?_, h2, h3⟩
   show execB A (exec A n) _ fr H = _
   simp only [execB, h1]
theorem Wp.cond {x : AX} {a b : AC} {fr : T AV} {H : Heap} {Q : AE → T AV → Heap → Prop} {q : Bool} (hx : evX fr x = some (.v (.bool q))) (ha : q = true → Wp A a fr H Q) (hb : q = false → Wp A b fr H Q) : Wp A (.cond x a b) fr H Q := by
 cases q with
 | true =>
   obtain ⟨n, e, f, f0, H', h1, h2, h3⟩ := ha rfl
   refine ⟨n + 1, e, f, f0, H', ?_, h2, h3⟩
   show execB A (exec A n) _ fr H = _
   simp only [execB, hx, h1]
 | false =>
   obtain ⟨n, e, f, f0, H', h1, h2, h3⟩ := hb rfl
   refine ⟨n + 1, e, f, f0, H', ?_, h2, h3⟩
   show execB A (exec A n) _ fr H = _
   simp only [execB, hx, h1]
def blockP (id : Nat) (Q : AE → T AV → Heap → Prop) : AE → T AV → Heap → Prop
 | .ex i, fr, H => if i = id then Q .nm fr H else Q (.ex i) fr H
 | e, fr, H => Q e fr H
theorem Wp.block {id : Nat} {c : AC} {fr : T AV} {H : Heap} {Q : AE → T AV → Heap → Prop} (h : Wp A c fr H (blockP id Q)) : Wp A (.block id c) fr H Q := by
 obtain ⟨n, e, f, f0, H', h1, h2, h3⟩ := h
 cases e with
 | nm =>
   refine ⟨n + 1, .nm, f, f0, H', ?_, h2, h3⟩
   show execB A (exec A n) _ fr H = _
   simp only [execB, h1]
 | rt =>
   refine ⟨n + 1, .rt, f, f0, H', ?_, h2, h3⟩
   show execB A (exec A n) _ fr H = _
   simp only [execB, h1]
 | ex i =>
   by_cases hi : i = id
   ·refine ⟨n + 1, .nm, f, f0, H', ?_, h2, ?_⟩
    ·show execB A (exec A n) _ fr H = _
     simp only [execB, h1, if_pos hi]
    ·have h3' : (if i = id then Q .nm f0 H' else Q (.ex i) f0 H') := h3
     rwa [if_pos hi] at h3'
   ·refine ⟨n + 1, .ex i, f, f0, H', ?_, h2, ?_⟩
    ·show execB A (exec A n) _ fr H = _
     simp only [execB, h1, if_neg hi]
    ·have h3' : (if i = id then Q .nm f0 H' else Q (.ex i) f0 H') := h3
     rwa [if_neg hi] at h3'
def mkF : List (Nat × AV) → T AV
 | [] => .e
 | p :: r => (mkF r).set p.1 (some p.2)
def hasF (fr : T AV) : List (Nat × AV) → Prop
 | [] => True
 | p :: r => fr.get p.1 = some p.2 ∧ hasF fr r
theorem hasF_le {fr : T AV} : ∀ {l : List (Nat × AV)}, hasF fr l → FLe (mkF l) fr
 | [], _ => fun k v e => by simp [mkF, T.get] at e
 | p :: r, h => by
   intro k v e
   rw [mkF, T.get_set] at e
   split at e
   ·rename_i hk; subst hk; rw [← e]; exact h.1
   ·exact hasF_le h.2 _ _ e
def loopP (next : T AV → Heap → Prop) (Q : AE → T AV → Heap → Prop) : AE → T AV → Heap → Prop
 | .nm, fr, H => next fr H
 | e, fr, H => Q e fr H
theorem Wp.loop {S : Type} {c : AC} {Q : AE → T AV → Heap → Prop} (F : S → List (Nat × AV)) (I : S → Heap → Prop) (m : S → Nat)
 (hstep : ∀ s H, I s H → Wp A c (mkF (F s)) H (loopP (fun fr' H' => ∃ s', m s' < m s ∧ I s' H' ∧ hasF fr' (F s')) Q))
 (s : S) {fr : T AV} {H : Heap} (h0 : I s H) (hfr : hasF fr (F s)) : Wp A (.loop c) fr H Q := by
 suffices H0 : ∀ (k : Nat) (s : S) (H : Heap), m s < k → I s H → Wp A (.loop c) (mkF (F s)) H Q from (H0 _ s H (Nat.lt_succ_self _) h0).frame (hasF_le hfr)
 intro k
 induction k with
 | zero => intro s H h; omega
 | succ k ih =>
   intro s H hk hI
   obtain ⟨n, e, f, f0, H', h1, h2, h3⟩ := hstep s H hI
   cases e with
   | nm =>
     obtain ⟨s', g1, g2, g3⟩ := h3
     obtain ⟨m', e, g, g0, H2, k1, k2, k3⟩ := (ih s' H' (by omega) g2).frame ((hasF_le g3).trans h2)
     obtain ⟨f', r1, r2⟩ := exec_le (A := A) (Nat.le_max_left n m') _ _ _ _ _ _ _ (FLe.refl _) h1
     obtain ⟨g', s1, s2⟩ := exec_le (A := A) (Nat.le_max_right n m') _ _ _ _ _ _ _ r2 k1
     refine ⟨max n m' + 1, e, g', g0, H2, ?_, k2.trans s2, k3⟩
     show execB A (exec A (max n m')) _ _ H = _
     simp only [execB, r1, s1]
   | ex i =>
     refine ⟨n + 1, .ex i, f, f0, H', ?_, h2, h3⟩
     show execB A (exec A n) _ _ H = _
     simp only [execB, h1]
   | rt =>
     refine ⟨n + 1, .rt, f, f0, H', ?_, h2, h3⟩
     show execB A (exec A n) _ _ H = _
     simp only [execB, h1]
/-! operations -/
theorem WpOps.nil {fr : T AV} {H : Heap} {Q : T AV → Heap → Prop} (h : Q fr H) : WpOps A [] fr H Q := ⟨0, _, _, _, rfl, FLe.refl _, h⟩
theorem WpOps.eval {l : List AOper} {fr fr' : T AV} {H H' : Heap} {Q : T AV → Heap → Prop} (e : evOps (fun _ _ _ => none) l fr H = some (fr', H')) (h : Q fr' H') : WpOps A l fr H Q := by
 obtain ⟨g, k1, k2⟩ := evOps_le (c' := callA A 0) (by intro f vs H r h; cases h) (FLe.refl _) e
 exact ⟨0, g, fr', H', k1, k2, h⟩
theorem WpOps.append {l l' : List AOper} {fr : T AV} {H : Heap} {Q : T AV → Heap → Prop} (h : WpOps A l fr H (fun fr H => WpOps A l' fr H Q)) : WpOps A (l ++ l') fr H Q := by
 obtain ⟨n, f, f0, H1, h1, h2, h3⟩ := h
 obtain ⟨m, g, g0, H2, k1, k2, k3⟩ := WpOps.frame h3 h2
 obtain ⟨f', r1, r2⟩ := evOps_le (callA_le (A := A) (Nat.le_max_left n m)) (FLe.refl _) h1
 obtain ⟨g', s1, s2⟩ := evOps_le (callA_le (A := A) (Nat.le_max_right n m)) r2 k1
 refine ⟨max n m, g', g0, H2, ?_, k2.trans s2, k3⟩
 revert r1
 generalize callA A (max n m) = c at s1 ⊢
 clear h1 h3 k1 h2
 intro r1
 induction l generalizing fr H with
 | nil => simp only [evOps, Option.some.injEq, Prod.mk.injEq] at r1; obtain ⟨rfl, rfl⟩ := r1; exact s1
 | cons o l ih =>
   rw [List.cons_append, evOps]
   rw [evOps] at r1
   split at r1
   ·split at r1
    ·exact ih r1
    ·cases r1
   ·split at r1
    ·split at r1
     ·rename_i hb
      rw [if_pos hb]
      split at r1
      ·exact ih r1
      ·cases r1
     ·rename_i hb
      rw [if_neg hb]
      exact ih r1
    ·exact ih r1
    ·cases r1
theorem WpOps.cons {o : AOper} {l : List AOper} {fr : T AV} {H : Heap} {Q : T AV → Heap → Prop} (hg : o.guard = none) (h : WpOp A o.op fr H (fun v H' => WpOps A l (putD fr o.dst v) H' Q)) : WpOps A (o :: l) fr H Q := by
 obtain ⟨n, v, H1, h1, h2⟩ := h
 refine WpOps.append (l := [o]) ⟨n, putD fr o.dst v, _, H1, ?_, FLe.refl _, h2⟩
 simp only [evOps, hg, h1]
theorem WpOps.consG {o : AOper} {l : List AOper} {fr : T AV} {H : Heap} {Q : T AV → Heap → Prop} {g : Nat} {w b : Bool} (hg : o.guard = some (g, w)) (hx : fr.get g = some (.v (.bool b)))
 (hy : b = w → WpOp A o.op fr H (fun v H' => WpOps A l (putD fr o.dst v) H' Q)) (hn : b ≠ w → WpOps A l (putD fr o.dst (.tup [])) H Q) : WpOps A (o :: l) fr H Q := by
 by_cases hb : b = w
 ·obtain ⟨n, v, H1, h1, h2⟩ := hy hb
  refine WpOps.append (l := [o]) ⟨n, putD fr o.dst v, _, H1, ?_, FLe.refl _, h2⟩
  simp only [evOps, hg, hx, if_pos hb, h1]
 ·refine WpOps.append (l := [o]) ⟨0, putD fr o.dst (.tup []), _, H, ?_, FLe.refl _, hn hb⟩
  simp only [evOps, hg, hx, if_neg hb]
theorem WpOps.consT {o : AOper} {l : List AOper} {fr : T AV} {H : Heap} {Q : T AV → Heap → Prop} {g : Nat} {w : Bool} {vs : List AV} (hg : o.guard = some (g, w)) (hx : fr.get g = some (.tup vs))
 (hn : WpOps A l (putD fr o.dst (.tup [])) H Q) : WpOps A (o :: l) fr H Q := by
 refine WpOps.append (l := [o]) ⟨0, putD fr o.dst (.tup []), _, H, ?_, FLe.refl _, hn⟩
 simp only [evOps, hg, hx]
theorem WpOp.eval {o : AOp} {fr : T AV} {H H' : Heap} {v : AV} {Q : AV → Heap → Prop} (e : evOp (fun _ _ _ => none) o fr H = some (v, H')) (h : Q v H') : WpOp A o fr H Q :=
 ⟨0, v, H', evOp_le (by intro f vs H r h; cases h) (FLe.refl _) e, h⟩
theorem WpOp.call {f : Nat} {xs : List AX} {vs : List AV} {fr : T AV} {H : Heap} {Q : AV → Heap → Prop} (e : evXs fr xs = some vs) (h : WpCall A f vs H Q) : WpOp A (.call f xs) fr H Q := by
 obtain ⟨n, v, H', h1, h2⟩ := h
 exact ⟨n, v, H', by simp only [evOp, e, h1], h2⟩
theorem WpOp.callv {f : Nat} {x : AX} {xs : List AX} {vs cs : List AV} {fr : T AV} {H : Heap} {Q : AV → Heap → Prop} (e0 : evX fr x = some (.fn f cs)) (e : evXs fr xs = some vs) (h : WpCall A f (vs ++ cs) H Q) : WpOp A (.callv x xs) fr H Q := by
 obtain ⟨n, v, H', h1, h2⟩ := h
 exact ⟨n, v, H', by simp only [evOp, e0, e, h1], h2⟩
theorem WpOp.invk {tb : List (Nat × Nat)} {t f : Nat} {x : AX} {xs : List AX} {c : AV} {vs : List AV} {fr : T AV} {H : Heap} {Q : AV → Heap → Prop} (e0 : evX fr x = some (.ifc t c)) (hl : tb.lookup t = some f) (e : evXs fr xs = some vs) (h : WpCall A f (c :: vs) H Q) : WpOp A (.invk tb x xs) fr H Q := by
 obtain ⟨n, v, H', h1, h2⟩ := h
 exact ⟨n, v, H', by simp only [evOp, e0, hl, e, h1], h2⟩
def outA : List AV → AV
 | [v] => v
 | vs => .tup vs
def funP (rs : List ARes) (Q : AV → Heap → Prop) : AE → T AV → Heap → Prop
 | .ex _, _, _ => False
 | _, fr, H => ∃ vs, getResults H fr rs = some vs ∧ Q (outA vs) H
theorem WpCall.intro {f : Nat} {fn : AFunc} {vs : List AV} {H : Heap} {Q : AV → Heap → Prop} (hf : A.get f = some fn) (hl : vs.length = fn.nparams) (h : Wp A fn.code (argFrame 0 vs .e) H (funP fn.results Q)) : WpCall A f vs H Q := by
 obtain ⟨n, e, f1, f0, H', h1, h2, h3⟩ := h
 cases e with
 | ex i => exact h3.elim
 | nm =>
   obtain ⟨ws, g1, g2⟩ := h3
   refine ⟨n, outA ws, H', ?_, g2⟩
   simp only [callA, callW, hf, if_pos hl, h1, getResults_le h2 g1]
   match ws with
   | [] => rfl
   | [v] => rfl
   | _ :: _ :: _ => rfl
 | rt =>
   obtain ⟨ws, g1, g2⟩ := h3
   refine ⟨n, outA ws, H', ?_, g2⟩
   simp only [callA, callW, hf, if_pos hl, h1, getResults_le h2 g1]
   match ws with
   | [] => rfl
   | [v] => rfl
   | _ :: _ :: _ => rfl
theorem WpCall.eval {f n : Nat} {vs : List AV} {H H' : Heap} {v : AV} {Q : AV → Heap → Prop} (e : callA A n f vs H = some (v, H')) (h : Q v H') : WpCall A f vs H Q := ⟨n, v, H', e, h⟩
end
end Go.AM
namespace Go.AM
section
variable {A : AProg}
def evOp0 (o : AOp) (fr : T AV) (H : Heap) (K : AV → Heap → Prop) : Prop :=
 match evOp (fun _ _ _ => none) o fr H with
 | some (v, H') => K v H'
 | none => False
def wpOp (A : AProg) (o : AOp) (fr : T AV) (H : Heap) (K : AV → Heap → Prop) : Prop :=
 match o with
 | .call f xs => match evXs fr xs with | some vs => WpCall A f vs H K | none => False
 | .callv x xs => match evX fr x with
   | some (.fn f cs) => match evXs fr xs with | some vs => WpCall A f (vs ++ cs) H K | none => False
   | _ => False
 | o => evOp0 o fr H K
def wpOps (A : AProg) : List AOper → T AV → Heap → (T AV → Heap → Prop) → Prop
 | [], fr, H, Q => Q fr H
 | o :: l, fr, H, Q => match o.guard with
   | none => wpOp A o.op fr H (fun v H => wpOps A l (putD fr o.dst v) H Q)
   | some (g, w) => match fr.get g with
     | some (.v (.bool b)) => if b = w then wpOp A o.op fr H (fun v H => wpOps A l (putD fr o.dst v) H Q) else wpOps A l (putD fr o.dst (.tup [])) H Q
     | some (.tup _) => wpOps A l (putD fr o.dst (.tup [])) H Q
     | _ => False
end
end Go.AM
namespace Go.AM
section
variable {A : AProg} {L : List (Nat × AV)} {l : List AOper} {H H' : Heap} {Q : T AV → Heap → Prop}
/-! ## One rule for each operation, over frames that are written out -/
def lk : List (Nat × AV) → Nat → Option AV
 | [], _ => none
 | p :: r, k => match Nat.beq p.1 k with
   | true => some p.2
   | false => lk r k
theorem lk_get : ∀ {L : List (Nat × AV)} {k : Nat} {v : AV}, lk L k = some v → (mkF L).get k = some v
 | [], _, _, h => by cases h
 | p :: r, k, v, h => by
   rw [mkF, T.get_set]
   rw [lk] at h
   cases hb : Nat.beq p.1 k with
   | true => rw [hb] at h; rw [if_pos (Nat.eq_of_beq_eq_true hb).symm]; exact h
   | false => rw [hb] at h; rw [if_neg (fun c => by subst c; simp at hb)]; exact lk_get h
def lkX (L : List (Nat × AV)) : AX → Option AV
 | .t n => lk L n
 | .c v => some v
theorem lkX_ev {x : AX} {v : AV} (h : lkX L x = some v) : evX (mkF L) x = some v := by
 cases x with
 | t n => exact lk_get h
 | c w => exact h
def lkXs (L : List (Nat × AV)) : List AX → Option (List AV)
 | [] => some []
 | x :: r => match lkX L x with
   | some v => match lkXs L r with
     | some vs => some (v :: vs)
     | none => none
   | none => none
theorem lkXs_ev : ∀ {xs : List AX} {vs : List AV}, lkXs L xs = some vs → evXs (mkF L) xs = some vs
 | [], _, h => h
 | x :: r, vs, h => by
   rw [lkXs] at h
   rw [evXs]
   cases hx : lkX L x with
   | none => simp only [hx] at h; cases h
   | some v =>
     simp only [hx] at h
     rw [lkX_ev hx]
     cases hr : lkXs L r with
     | none => simp only [hr] at h; cases h
     | some ws => simp only [hr] at h; simp only [lkXs_ev hr]; exact h
def putL (L : List (Nat × AV)) : Option Nat → AV → List (Nat × AV)
 | some d, v => (d, v) :: L
 | none, _ => L
theorem putL_eq (L : List (Nat × AV)) (d : Option Nat) (v : AV) : putD (mkF L) d v = mkF (putL L d v) := by cases d <;> rfl
theorem S.any {d : Option Nat} {o : AOp} {v : AV} (e : evOp (fun _ _ _ => none) o (mkF L) H = some (v, H')) (h : WpOps A l (mkF (putL L d v)) H' Q) : WpOps A (⟨d, o, none⟩ :: l) (mkF L) H Q :=
 WpOps.cons rfl (WpOp.eval e (by rw [putL_eq]; exact h))
theorem S.mv {d : Nat} {x : AX} {v : AV} (hx : lkX L x = some v) (h : WpOps A l (mkF ((d, v) :: L)) H Q) : WpOps A (⟨some d, .mv x, none⟩ :: l) (mkF L) H Q :=
 S.any (d := some d) (by simp only [evOp, lkX_ev hx]) h
theorem S.pick {d : Nat} {c a b : AX} {q : Bool} {v w : AV} (hc : lkX L c = some (.v (.bool q))) (ha : lkX L a = some v) (hb : lkX L b = some w) (h : WpOps A l (mkF ((d, if q then v else w) :: L)) H Q) : WpOps A (⟨some d, .pick c a b, none⟩ :: l) (mkF L) H Q := by
 cases q
 ·exact S.any (d := some d) (v := w) (by simp only [evOp, lkX_ev hc, lkX_ev hb]) h
 ·exact S.any (d := some d) (v := v) (by simp only [evOp, lkX_ev hc, lkX_ev ha]) h
theorem S.box {d : Nat} {x : AX} {v : AV} {vs : List AV} (hx : lkX L x = some v) (hv : v.cs = some vs) (h : WpOps A l (mkF ((d, .ptr H.next 0) :: L)) (H.alloc 0 vs) Q) : WpOps A (⟨some d, .box x, none⟩ :: l) (mkF L) H Q :=
 S.any (d := some d) (by simp only [evOp, lkX_ev hx, hv]) h
def lkPs (L : List (Nat × AV)) (cs : List AV) : List (Nat × Nat × AX) → Option (List AV)
 | [] => some cs
 | (o, s, x) :: r => match lkX L x with
   | some v => match v.cs with
     | some vs => match Nat.beq vs.length s with
       | true => match putAt cs o vs with
         | some cs => lkPs L cs r
         | none => none
       | false => none
     | none => none
   | none => none
theorem lkPs_ev : ∀ {ps : List (Nat × Nat × AX)} {cs ds : List AV}, lkPs L cs ps = some ds → fillA (mkF L) cs ps = some ds
 | [], _, _, h => h
 | (o, s, x) :: r, cs, ds, h => by
   rw [lkPs] at h
   rw [fillA]
   cases hx : lkX L x with
   | none => simp only [hx] at h; cases h
   | some v =>
     simp only [hx] at h
     simp only [lkX_ev hx]
     cases hv : v.cs with
     | none => simp only [hv] at h; cases h
     | some vs =>
       simp only [hv] at h ⊢
       cases hb : Nat.beq vs.length s with
       | false => simp only [hb] at h; cases h
       | true =>
         simp only [hb] at h
         rw [if_pos (Nat.eq_of_beq_eq_true hb)]
         cases hp : putAt cs o vs with
         | none => simp only [hp] at h; cases h
         | some cs' => simp only [hp] at h ⊢; exact lkPs_ev h
theorem S.build {d : Nat} {z : List AV} {ps : List (Nat × Nat × AX)} {cs : List AV} (e : lkPs L z ps = some cs) (h : WpOps A l (mkF ((d, .agg cs) :: L)) H Q) : WpOps A (⟨some d, .build z ps, none⟩ :: l) (mkF L) H Q :=
 S.any (d := some d) (by simp only [evOp, lkPs_ev e]) h
theorem S.bslice {d es len : Nat} {z : List AV} {ps : List (Nat × Nat × AX)} {cs : List AV} (e : lkPs L z ps = some cs) (h : WpOps A l (mkF ((d, .sl H.next 0 len len true) :: L)) (H.alloc es cs) Q) : WpOps A (⟨some d, .bslice es len z ps, none⟩ :: l) (mkF L) H Q :=
 S.any (d := some d) (by simp only [evOp, lkPs_ev e]) h
theorem S.load1 {d b off : Nat} {x : AX} {blk : Blk} {v : AV} (hx : lkX L x = some (.ptr b off)) (hb : H.blks.get b = some blk) (hv : blk.cells[off]? = some v) (h : WpOps A l (mkF ((d, v) :: L)) H Q) : WpOps A (⟨some d, .load1 x, none⟩ :: l) (mkF L) H Q := by
 refine S.any (d := some d) ?_ h
 have : takeN 1 (blk.cells.drop off) = some [v] := by
  have e : (blk.cells.drop off).head? = some v := by rw [List.head?_drop, hv]
  match hd : blk.cells.drop off, e with
  | x :: r, e => simp at e; simp [takeN, e]
 simp only [evOp, lkX_ev hx, getN, hb, this]
theorem S.loadN {d b off n : Nat} {x : AX} {blk : Blk} {vs : List AV} (hx : lkX L x = some (.ptr b off)) (hb : H.blks.get b = some blk) (hv : takeN n (blk.cells.drop off) = some vs) (h : WpOps A l (mkF ((d, .agg vs) :: L)) H Q) : WpOps A (⟨some d, .loadN n x, none⟩ :: l) (mkF L) H Q :=
 S.any (d := some d) (by simp only [evOp, lkX_ev hx, getN, hb, hv]) h
theorem S.store {n b off : Nat} {x y : AX} {v : AV} {vs : List AV} (hx : lkX L x = some (.ptr b off)) (hy : lkX L y = some v) (hv : v.cs = some vs) (hn : vs.length = n) (hw : H.write b off vs = some H') (h : WpOps A l (mkF L) H' Q) : WpOps A (⟨none, .store n x y, none⟩ :: l) (mkF L) H Q :=
 S.any (d := none) (v := .tup []) (by simp only [evOp, lkX_ev hx, lkX_ev hy, hv, if_pos hn, hw]) h
theorem S.bin {d : Nat} {o : BinOp} {x y : AX} {a b r : Value} (hx : lkX L x = some (.v a)) (hy : lkX L y = some (.v b)) (hr : binV o a b = some r) (h : WpOps A l (mkF ((d, .v r) :: L)) H Q) : WpOps A (⟨some d, .bin o x y, none⟩ :: l) (mkF L) H Q :=
 S.any (d := some d) (by simp only [evOp, lkX_ev hx, lkX_ev hy, hr]) h
theorem S.beq {d : Nat} {neq agg : Bool} {ks : List SK} {x y : AX} {a b : AV} {r : Bool} (hx : lkX L x = some a) (hy : lkX L y = some b) (hr : avEq agg ks a b = some r) (h : WpOps A l (mkF ((d, .v (.bool (xor neq r))) :: L)) H Q) : WpOps A (⟨some d, .beq neq agg ks x y, none⟩ :: l) (mkF L) H Q :=
 S.any (d := some d) (by simp only [evOp, lkX_ev hx, lkX_ev hy, hr]) h
theorem S.un {d : Nat} {o : UnOp} {x : AX} {a r : Value} (hx : lkX L x = some (.v a)) (hr : unV o a = some r) (h : WpOps A l (mkF ((d, .v r) :: L)) H Q) : WpOps A (⟨some d, .un o x, none⟩ :: l) (mkF L) H Q :=
 S.any (d := some d) (by simp only [evOp, lkX_ev hx, hr]) h
theorem S.convi {d : Nat} {k k' : IntKind} {x : AX} {n : Int} (hx : lkX L x = some (.v (.int k' n))) (h : WpOps A l (mkF ((d, .v (.int k (k.wrap n))) :: L)) H Q) : WpOps A (⟨some d, .convi k x, none⟩ :: l) (mkF L) H Q :=
 S.any (d := some d) (by simp only [evOp, lkX_ev hx]) h
theorem S.nilc {d b off : Nat} {x : AX} (hx : lkX L x = some (.ptr b off)) (h : WpOps A l (mkF ((d, .ptr b off) :: L)) H Q) : WpOps A (⟨some d, .nilc x, none⟩ :: l) (mkF L) H Q :=
 S.any (d := some d) (by simp only [evOp, lkX_ev hx]) h
theorem S.faddr {d b off o : Nat} {x : AX} (hx : lkX L x = some (.ptr b o)) (h : WpOps A l (mkF ((d, .ptr b (o + off)) :: L)) H Q) : WpOps A (⟨some d, .faddr off x, none⟩ :: l) (mkF L) H Q :=
 S.any (d := some d) (by simp only [evOp, lkX_ev hx]) h
theorem S.field1 {d off : Nat} {x : AX} {cs : List AV} {v : AV} (hx : lkX L x = some (.agg cs)) (hv : cs[off]? = some v) (h : WpOps A l (mkF ((d, v) :: L)) H Q) : WpOps A (⟨some d, .field1 off x, none⟩ :: l) (mkF L) H Q :=
 S.any (d := some d) (by simp only [evOp, lkX_ev hx, hv]) h
theorem S.fieldN {d off n : Nat} {x : AX} {cs vs : List AV} (hx : lkX L x = some (.agg cs)) (hv : takeN n (cs.drop off) = some vs) (h : WpOps A l (mkF ((d, .agg vs) :: L)) H Q) : WpOps A (⟨some d, .fieldN off n x, none⟩ :: l) (mkF L) H Q :=
 S.any (d := some d) (by simp only [evOp, lkX_ev hx, hv]) h
theorem S.iaddr {d es b off len cap : Nat} {ex : Bool} {k : IntKind} {x i : AX} {n : Nat} {m : Int} (hx : lkX L x = some (.sl b off len cap ex)) (hi : lkX L i = some (.v (.int k m))) (hm : m = (n : Int)) (hn : n < len) (h : WpOps A l (mkF ((d, .ptr b (off + n * es)) :: L)) H Q) : WpOps A (⟨some d, .iaddr es x i, none⟩ :: l) (mkF L) H Q := by
 refine S.any (d := some d) ?_ h
 have : 0 ≤ m ∧ m < (len : Int) := by omega
 simp only [evOp, lkX_ev hx, lkX_ev hi, if_pos this]
 rw [hm, Int.toNat_natCast]
theorem S.aaddr {d es b off len : Nat} {k : IntKind} {x i : AX} {n : Nat} {m : Int} (hx : lkX L x = some (.ptr b off)) (hi : lkX L i = some (.v (.int k m))) (hm : m = (n : Int)) (hn : n < len) (h : WpOps A l (mkF ((d, .ptr b (off + n * es)) :: L)) H Q) : WpOps A (⟨some d, .aaddr len es x i, none⟩ :: l) (mkF L) H Q := by
 refine S.any (d := some d) ?_ h
 have : 0 ≤ m ∧ m < (len : Int) := by omega
 simp only [evOp, lkX_ev hx, lkX_ev hi, if_pos this]
 rw [hm, Int.toNat_natCast]
theorem S.ext {d i : Nat} {x : AX} {vs : List AV} {v : AV} (hx : lkX L x = some (.tup vs)) (hv : vs[i]? = some v) (h : WpOps A l (mkF ((d, v) :: L)) H Q) : WpOps A (⟨some d, .ext x i, none⟩ :: l) (mkF L) H Q :=
 S.any (d := some d) (by simp only [evOp, lkX_ev hx, hv]) h
theorem S.len {d b off n cap : Nat} {ex : Bool} {x : AX} (hx : lkX L x = some (.sl b off n cap ex)) (h : WpOps A l (mkF ((d, .v (.int .i64 (n : Int))) :: L)) H Q) : WpOps A (⟨some d, .len false x, none⟩ :: l) (mkF L) H Q :=
 S.any (d := some d) (by simp only [evOp, lkX_ev hx]) h
theorem S.call {d : Option Nat} {f : Nat} {xs : List AX} {vs : List AV} {K : AV → Heap → Prop} (hx : lkXs L xs = some vs) (hc : WpCall A f vs H K) (h : ∀ v H', K v H' → WpOps A l (mkF (putL L d v)) H' Q) : WpOps A (⟨d, .call f xs, none⟩ :: l) (mkF L) H Q :=
 WpOps.cons rfl (WpOp.call (lkXs_ev hx) (hc.mono fun v H' hk => by rw [putL_eq]; exact h v H' hk))
theorem S.app {d es by_ : Nat} {x y : AX} {s t v : AV} (hx : lkX L x = some s) (hy : lkX L y = some t) (e : appendA H es by_ s t = some (v, H')) (h : WpOps A l (mkF ((d, v) :: L)) H' Q) : WpOps A (⟨some d, .app es by_ x y, none⟩ :: l) (mkF L) H Q :=
 S.any (d := some d) (by simp only [evOp, lkX_ev hx, lkX_ev hy, e]) h
theorem S.yes {d : Option Nat} {o : AOp} {g : Nat} {w : Bool} (hg : lk L g = some (.v (.bool w))) (h : WpOps A (⟨d, o, none⟩ :: l) (mkF L) H Q) : WpOps A (⟨d, o, some (g, w)⟩ :: l) (mkF L) H Q := by
 obtain ⟨n, f, f0, H', h1, h2, h3⟩ := h
 refine ⟨n, f, f0, H', ?_, h2, h3⟩
 rw [evOps] at h1 ⊢
 simp only [lk_get hg, if_true]
 exact h1
theorem S.no {d : Option Nat} {o : AOp} {g : Nat} {w b : Bool} (hg : lk L g = some (.v (.bool b))) (hb : b ≠ w) (h : WpOps A l (mkF (putL L d (.tup []))) H Q) : WpOps A (⟨d, o, some (g, w)⟩ :: l) (mkF L) H Q :=
 WpOps.consG rfl (lk_get hg) (fun c => absurd c hb) (fun _ => by rw [putL_eq]; exact h)
def allIn (L : List (Nat × AV)) : List (Nat × AV) → Prop
 | [] => True
 | p :: r => lk L p.1 = some p.2 ∧ allIn L r
theorem allIn_has : ∀ {M : List (Nat × AV)}, allIn L M → hasF (mkF L) M
 | [], _ => trivial
 | _ :: _, h => ⟨lk_get h.1, allIn_has h.2⟩
theorem S.frame (M : List (Nat × AV)) (hM : allIn L M) (h : WpOps A l (mkF M) H Q) : WpOps A l (mkF L) H Q := h.frame (hasF_le (allIn_has hM))
end
end Go.AM
namespace Go.AM
section
variable {H : Heap}
/-! ## What a heap holds -/
theorem Heap.write_upd {b off : Nat} {vs cs : List AV} {blk : Blk} (hb : H.blks.get b = some blk) (hw : blk.wr = true) (hp : putAt blk.cells off vs = some cs) : H.write b off vs = some (H.upd b blk cs) := by
 simp only [Heap.write, hb, hw, if_true, hp, Heap.upd]
theorem Heap.upd_next (b : Nat) (blk : Blk) (cs : List AV) : (H.upd b blk cs).next = H.next := rfl
theorem Heap.alloc_self {es : Nat} {cs : List AV} {k : Nat} (h : k = H.next) : (H.alloc es cs).blks.get k = some ⟨cs, true, none, es⟩ := by
 subst h; simp only [Heap.alloc, T.get_set, if_true]
theorem Heap.alloc_ne {es : Nat} {cs : List AV} {k : Nat} (h : k ≠ H.next) : (H.alloc es cs).blks.get k = H.blks.get k := by
 simp only [Heap.alloc, T.get_set, if_neg h]
theorem Heap.upd_self {b : Nat} {blk : Blk} {cs : List AV} {k : Nat} (h : k = b) : (H.upd b blk cs).blks.get k = some ⟨cs, true, none, blk.es⟩ := by
 subst h; simp only [Heap.upd, T.get_set, if_true]
theorem Heap.upd_ne {b : Nat} {blk : Blk} {cs : List AV} {k : Nat} (h : k ≠ b) (hm : blk.mate ≠ some k) : (H.upd b blk cs).blks.get k = H.blks.get k := by
 simp only [Heap.upd, T.get_set, if_neg h]
 cases hb : blk.mate with
 | none => rfl
 | some m =>
   simp only [Heap.kill, T.get_set]
   rw [if_neg (fun c => hm (by rw [hb, c]))]
def Keep (H H' : Heap) : Prop := H.next ≤ H'.next ∧ ∀ (b : Nat) (blk : Blk), b < H.next → H.blks.get b = some blk → H'.blks.get b = some blk
theorem Keep.refl (H : Heap) : Keep H H := ⟨Nat.le_refl _, fun _ _ _ h => h⟩
theorem Keep.trans {a b c : Heap} (h : Keep a b) (k : Keep b c) : Keep a c := ⟨Nat.le_trans h.1 k.1, fun x y hx e => k.2 x y (Nat.lt_of_lt_of_le hx h.1) (h.2 x y hx e)⟩
theorem Keep.alloc (es : Nat) (cs : List AV) : Keep H (H.alloc es cs) := ⟨Nat.le_succ _, fun _ _ hx e => by rw [Heap.alloc_ne (Nat.ne_of_lt hx)]; exact e⟩
theorem Keep.upd {H0 : Heap} {b : Nat} {blk : Blk} {cs : List AV} (h : Keep H0 H) (hb : H0.next ≤ b) (hm : ∀ m, blk.mate = some m → H0.next ≤ m) : Keep H0 (H.upd b blk cs) :=
 ⟨h.1, fun x y hx e => by rw [Heap.upd_ne (by omega) (fun c => by have := hm _ c; omega)]; exact h.2 x y hx e⟩
theorem Keep.mate2 {H0 : Heap} {b : Nat} {blk : Blk} {cs : List AV} (h : Keep H0 H) (hb : H0.next ≤ b) (hm : ∀ m, blk.mate = some m → H0.next ≤ m) : Keep H0 (H.mate2 b blk cs) := by
 refine ⟨Nat.le_trans h.1 (Nat.le_succ _), fun x y hx e => ?_⟩
 have h1 := h.1
 have h2 := h.2 x y hx e
 simp only [Heap.mate2, T.get_set]
 rw [if_neg (by omega), if_neg (by omega)]
 cases hk : blk.mate with
 | none => exact h2
 | some m =>
   have := hm m hk
   simp only [Heap.kill, T.get_set]
   rw [if_neg (by omega)]
   exact h2
end
section
variable {A : AProg} {L : List (Nat × AV)} {l : List AOper} {H : Heap} {Q : T AV → Heap → Prop}
end
end Go.AM
namespace Go.AM
section
variable {A : AProg} {L : List (Nat × AV)} {H : Heap} {Q : T AV → Heap → Prop}
/-! ## What runs only if a truth says so: `a || b`, `a && b` -/
def grd (g : Nat) (w : Bool) : List AOper → List AOper
 | ⟨d, o, some (g', w')⟩ :: r => match Nat.beq g' g && (w' == w) with
   | true => ⟨d, o, none⟩ :: grd g w r
   | false => []
 | _ => []
def rst (g : Nat) (w : Bool) : List AOper → List AOper
 | ⟨d, o, some (g', w')⟩ :: r => match Nat.beq g' g && (w' == w) with
   | true => rst g w r
   | false => ⟨d, o, some (g', w')⟩ :: r
 | l => l
def newIn (L : List (Nat × AV)) (l : List AOper) : Bool := l.all fun o => match o.dst with | some d => (lk L d).isNone | none => true
theorem mkF_none : ∀ {L : List (Nat × AV)} {k : Nat}, lk L k = none → (mkF L).get k = none
 | [], _, _ => by simp [mkF, T.get]
 | p :: r, k, h => by
   rw [mkF, T.get_set]
   rw [lk] at h
   cases hb : Nat.beq p.1 k with
   | true => rw [hb] at h; cases h
   | false => rw [hb] at h; rw [if_neg (fun c => by subst c; simp at hb)]; exact mkF_none h
theorem FLe.putNew {fr : T AV} {d : Option Nat} {v : AV} (h : FLe (mkF L) fr) (hd : ∀ k, d = some k → lk L k = none) : FLe (mkF L) (putD fr d v) := by
 cases d with
 | none => exact h
 | some k =>
   intro j x e
   simp only [putD, T.get_set]
   split
   ·rename_i hj; subst hj; rw [mkF_none (hd _ rfl)] at e; cases e
   ·exact h _ _ e
theorem newIn_cons {o : AOper} {l : List AOper} (h : newIn L (o :: l) = true) : (∀ k, o.dst = some k → lk L k = none) ∧ newIn L l = true := by
 simp only [newIn, List.all_cons, Bool.and_eq_true] at h
 refine ⟨fun k hk => ?_, h.2⟩
 have := h.1
 rw [hk] at this
 simpa using this
theorem grd_yes {call : Nat → List AV → Heap → Option (AV × Heap)} {g : Nat} {w : Bool} (hg : lk L g = some (.v (.bool w))) : ∀ {l : List AOper} {fr fr' : T AV} {H H' : Heap}, newIn L (grd g w l) = true → FLe (mkF L) fr →
 evOps call (grd g w l) fr H = some (fr', H') → FLe (mkF L) fr' ∧ evOps call l fr H = evOps call (rst g w l) fr' H'
 | [], fr, fr', H, H', _, hf, e => by
   simp only [grd, evOps, Option.some.injEq, Prod.mk.injEq] at e
   obtain ⟨rfl, rfl⟩ := e
   exact ⟨hf, rfl⟩
 | ⟨d, o, none⟩ :: r, fr, fr', H, H', _, hf, e => by
   simp only [grd, evOps, Option.some.injEq, Prod.mk.injEq] at e
   obtain ⟨rfl, rfl⟩ := e
   exact ⟨hf, rfl⟩
 | ⟨d, o, some (g', w')⟩ :: r, fr, fr', H, H', hn, hf, e => by
   rw [grd] at hn e
   rw [rst]
   cases hb : (Nat.beq g' g && (w' == w)) with
   | false =>
     simp only [hb, evOps, Option.some.injEq, Prod.mk.injEq] at e
     obtain ⟨rfl, rfl⟩ := e
     exact ⟨hf, rfl⟩
   | true =>
     simp only [hb] at hn e ⊢
     simp only [Bool.and_eq_true, beq_iff_eq] at hb
     obtain ⟨h1, rfl⟩ := hb
     obtain rfl := Nat.eq_of_beq_eq_true h1
     obtain ⟨hd, hn⟩ := newIn_cons hn
     rw [evOps] at e
     simp only [] at e
     rw [evOps]
     simp only [hf _ _ (lk_get hg), if_true]
     split at e
     ·rename_i v H1 ho
      exact grd_yes hg hn (hf.putNew hd) e
     ·cases e
theorem grd_no {call : Nat → List AV → Heap → Option (AV × Heap)} {g : Nat} {w q : Bool} (hg : lk L g = some (.v (.bool q))) (hq : q ≠ w) : ∀ {l : List AOper} {fr : T AV} {H : Heap}, newIn L (grd g w l) = true → FLe (mkF L) fr →
 ∃ fr', FLe (mkF L) fr' ∧ evOps call l fr H = evOps call (rst g w l) fr' H
 | [], fr, H, _, hf => ⟨fr, hf, rfl⟩
 | ⟨d, o, none⟩ :: r, fr, H, _, hf => ⟨fr, hf, rfl⟩
 | ⟨d, o, some (g', w')⟩ :: r, fr, H, hn, hf => by
   rw [grd] at hn
   rw [rst]
   cases hb : (Nat.beq g' g && (w' == w)) with
   | false => exact ⟨fr, hf, rfl⟩
   | true =>
     simp only [hb] at hn ⊢
     simp only [Bool.and_eq_true, beq_iff_eq] at hb
     obtain ⟨h1, rfl⟩ := hb
     obtain rfl := Nat.eq_of_beq_eq_true h1
     obtain ⟨hd, hn⟩ := newIn_cons hn
     rw [evOps]
     simp only [hf _ _ (lk_get hg), if_neg hq]
     exact grd_no hg hq hn (hf.putNew hd)
def sideP (H : Heap) (r : Nat) (p : Bool) (fr : T AV) (H' : Heap) : Prop := H' = H ∧ fr.get r = some (.v (.bool p))
theorem S.or' {ops l : List AOper} {d g r : Nat} {q p : Bool} (hg : lk L g = some (.v (.bool q))) (hn : newIn L (grd g false ops) = true)
 (hr : rst g false ops = ⟨some d, .pick (.t g) (.c (.v (.bool true))) (.t r), none⟩ :: l)
 (hB : q = false → WpOps A (grd g false ops) (mkF L) H (sideP H r p)) (h : WpOps A l (mkF ((d, .v (.bool (q || p))) :: L)) H Q) : WpOps A ops (mkF L) H Q := by
 cases q with
 | true =>
   obtain ⟨n, f, f0, H', h1, h2, h3⟩ := h
   obtain ⟨fr', k1, k2⟩ := grd_no (call := callA A n) (H := H) hg (w := false) (by decide) hn (FLe.refl _)
   have : FLe (mkF ((d, .v (.bool (true || p))) :: L)) (putD fr' (some d) (.v (.bool true))) := FLe.put k1 (some d) _
   obtain ⟨f2, g1, g2⟩ := evOps_le (callA_le (Nat.le_refl n)) this h1
   refine ⟨n, f2, f0, H', ?_, h2.trans g2, h3⟩
   rw [k2, hr, evOps]
   simp only [evOp, evX, k1 _ _ (lk_get hg), g1]
 | false =>
   obtain ⟨n, f, f0, H', h1, h2, h3⟩ := h
   obtain ⟨m, s, s0, H2, i1, i2, rfl, i4⟩ := hB rfl
   obtain ⟨u, u1, u2⟩ := evOps_le (callA_le (A := A) (Nat.le_max_right n m)) (FLe.refl _) i1
   obtain ⟨k1, k2⟩ := grd_yes (call := callA A (max n m)) hg hn (FLe.refl _) u1
   have : FLe (mkF ((d, .v (.bool (false || p))) :: L)) (putD u (some d) (.v (.bool p))) := FLe.put k1 (some d) _
   obtain ⟨f2, g1, g2⟩ := evOps_le (callA_le (Nat.le_max_left n m)) this h1
   refine ⟨max n m, f2, f0, H', ?_, h2.trans g2, h3⟩
   rw [k2, hr, evOps]
   simp only [evOp, evX, k1 _ _ (lk_get hg), u2 _ _ (i2 _ _ i4), g1]
theorem S.and' {ops l : List AOper} {d g r : Nat} {q p : Bool} (hg : lk L g = some (.v (.bool q))) (hn : newIn L (grd g true ops) = true)
 (hr : rst g true ops = ⟨some d, .pick (.t g) (.t r) (.c (.v (.bool false))), none⟩ :: l)
 (hB : q = true → WpOps A (grd g true ops) (mkF L) H (sideP H r p)) (h : WpOps A l (mkF ((d, .v (.bool (q && p))) :: L)) H Q) : WpOps A ops (mkF L) H Q := by
 cases q with
 | false =>
   obtain ⟨n, f, f0, H', h1, h2, h3⟩ := h
   obtain ⟨fr', k1, k2⟩ := grd_no (call := callA A n) (H := H) hg (w := true) (by decide) hn (FLe.refl _)
   have : FLe (mkF ((d, .v (.bool (false && p))) :: L)) (putD fr' (some d) (.v (.bool false))) := FLe.put k1 (some d) _
   obtain ⟨f2, g1, g2⟩ := evOps_le (callA_le (Nat.le_refl n)) this h1
   refine ⟨n, f2, f0, H', ?_, h2.trans g2, h3⟩
   rw [k2, hr, evOps]
   simp only [evOp, evX, k1 _ _ (lk_get hg), g1]
 | true =>
   obtain ⟨n, f, f0, H', h1, h2, h3⟩ := h
   obtain ⟨m, s, s0, H2, i1, i2, rfl, i4⟩ := hB rfl
   obtain ⟨u, u1, u2⟩ := evOps_le (callA_le (A := A) (Nat.le_max_right n m)) (FLe.refl _) i1
   obtain ⟨k1, k2⟩ := grd_yes (call := callA A (max n m)) hg hn (FLe.refl _) u1
   have : FLe (mkF ((d, .v (.bool (true && p))) :: L)) (putD u (some d) (.v (.bool p))) := FLe.put k1 (some d) _
   obtain ⟨f2, g1, g2⟩ := evOps_le (callA_le (Nat.le_max_left n m)) this h1
   refine ⟨max n m, f2, f0, H', ?_, h2.trans g2, h3⟩
   rw [k2, hr, evOps]
   simp only [evOp, evX, k1 _ _ (lk_get hg), u2 _ _ (i2 _ _ i4), g1]
theorem S.or {d0 : Option Nat} {o0 : AOp} {ops l : List AOper} {d g r : Nat} {q p : Bool} (hg : lk L g = some (.v (.bool q))) (hn : newIn L (grd g false (⟨d0, o0, some (g, false)⟩ :: ops)) = true)
 (hr : rst g false (⟨d0, o0, some (g, false)⟩ :: ops) = ⟨some d, .pick (.t g) (.c (.v (.bool true))) (.t r), none⟩ :: l)
 (hB : q = false → WpOps A (grd g false (⟨d0, o0, some (g, false)⟩ :: ops)) (mkF L) H (sideP H r p)) (h : WpOps A l (mkF ((d, .v (.bool (q || p))) :: L)) H Q) : WpOps A (⟨d0, o0, some (g, false)⟩ :: ops) (mkF L) H Q := S.or' hg hn hr hB h
theorem S.and {d0 : Option Nat} {o0 : AOp} {ops l : List AOper} {d g r : Nat} {q p : Bool} (hg : lk L g = some (.v (.bool q))) (hn : newIn L (grd g true (⟨d0, o0, some (g, true)⟩ :: ops)) = true)
 (hr : rst g true (⟨d0, o0, some (g, true)⟩ :: ops) = ⟨some d, .pick (.t g) (.t r) (.c (.v (.bool false))), none⟩ :: l)
 (hB : q = true → WpOps A (grd g true (⟨d0, o0, some (g, true)⟩ :: ops)) (mkF L) H (sideP H r p)) (h : WpOps A l (mkF ((d, .v (.bool (q && p))) :: L)) H Q) : WpOps A (⟨d0, o0, some (g, true)⟩ :: ops) (mkF L) H Q := S.and' hg hn hr hB h
end
end Go.AM
namespace Go.AM
section
variable {L : List (Nat × AV)} {H : Heap}
/-! ## Results -/
theorem R.nil {fr : T AV} : getResults H fr [] = some [] := rfl
theorem R.cons {fr : T AV} {r : ARes} {rs : List ARes} {v : AV} {vs : List AV} (h : getResult H fr r = some v) (k : getResults H fr rs = some vs) : getResults H fr (r :: rs) = some (v :: vs) := by
 rw [getResults, h, k]
theorem R.tmp {t : Nat} {v : AV} (h : lk L t = some v) : getResult H (mkF L) (.tmp t) = some v := lk_get h
theorem R.cell1 {t b off : Nat} {blk : Blk} {v : AV} (h : lk L t = some (.ptr b off)) (hb : H.blks.get b = some blk) (hv : blk.cells[off]? = some v) : getResult H (mkF L) (.cell1 t) = some v := by
 have : takeN 1 (blk.cells.drop off) = some [v] := by
  have e : (blk.cells.drop off).head? = some v := by rw [List.head?_drop, hv]
  match hd : blk.cells.drop off, e with
  | x :: r, e => simp at e; simp [takeN, e]
 simp only [getResult, lk_get h, getN, hb, this]
theorem R.cellN {t n b off : Nat} {blk : Blk} {vs : List AV} (h : lk L t = some (.ptr b off)) (hb : H.blks.get b = some blk) (hv : takeN n (blk.cells.drop off) = some vs) : getResult H (mkF L) (.cellN t n) = some (.agg vs) := by
 simp only [getResult, lk_get h, getN, hb, hv, Option.map]
theorem R.done {fr : T AV} {rs : List ARes} {vs : List AV} {Q : AV → Heap → Prop} {e : AE} (he : ∀ i, e ≠ .ex i) (h : getResults H fr rs = some vs) (k : Q (outA vs) H) : funP rs Q e fr H := by
 cases e with
 | ex i => exact absurd rfl (he i)
 | nm => exact ⟨vs, h, k⟩
 | rt => exact ⟨vs, h, k⟩
end
end Go.AM
namespace Go.AM
/-! ## Slices that grow -/
def Grow (H0 H : Heap) (v : AV) (es : Nat) (cs : List AV) (n : Nat) : Prop :=
 (n = 0 ∧ cs = [] ∧ v = .v (.slice none 0 0)) ∨
 ∃ (b : Nat) (m : Option Nat), v = .sl b 0 n n false ∧ H0.next ≤ b ∧ b < H.next ∧ H.blks.get b = some ⟨cs, true, m, es⟩ ∧ cs.length = n * es ∧ ∀ k, m = some k → H0.next ≤ k
theorem Grow.nil (H0 H : Heap) (es : Nat) : Grow H0 H (.v (.slice none 0 0)) es [] 0 := .inl ⟨rfl, rfl, rfl⟩
theorem Grow.keep {H0 H H' : Heap} {v : AV} {es n : Nat} {cs : List AV} (h : Grow H0 H v es cs n) (k : Keep H H') : Grow H0 H' v es cs n := by
 rcases h with h | ⟨b, m, h1, h2, h3, h4, h5, h6⟩
 ·exact .inl h
 ·exact .inr ⟨b, m, h1, h2, Nat.lt_of_lt_of_le h3 k.1, k.2 _ _ h3 h4, h5, h6⟩
theorem takeN_all : ∀ (l : List AV), takeN l.length l = some l
 | [] => rfl
 | x :: r => by simp [takeN, takeN_all r]
theorem Heap.mate2_new {H : Heap} {b : Nat} {blk : Blk} {cs : List AV} : (H.mate2 b blk cs).blks.get H.next = some ⟨cs, true, some b, blk.es⟩ := by
 simp only [Heap.mate2, T.get_set, if_true]
theorem Grow.app {H0 H : Heap} {v x : AV} {es by_ n m : Nat} {cs news : List AV} (h : Grow H0 H v es cs n) (hk : Keep H0 H) (hx : newsOf H es x = some (m, news)) (hm : 0 < m) (hl : news.length = m * es) (hs : (n + m) * by_ ≤ 2 ^ 47) :
 ∃ v' H', appendA H es by_ v x = some (v', H') ∧ Grow H0 H' v' es (cs ++ news) (n + m) ∧ Keep H0 H' := by
 obtain ⟨m, rfl⟩ : ∃ k, m = k + 1 := ⟨m - 1, by omega⟩
 rcases h with ⟨rfl, rfl, rfl⟩ | ⟨b, mt, rfl, h2, h3, h4, h5, h6⟩
 ·refine ⟨.sl H.next 0 (m + 1) (m + 1) false, H.alloc es news, ?_, .inr ⟨H.next, none, by rw [Nat.zero_add], hk.1, Nat.lt_succ_self _, Heap.alloc_self rfl, by simpa using hl, fun k c => by cases c⟩, hk.trans (Keep.alloc ..)⟩
  simp only [appendA, hx]
  rw [if_pos (by simpa using hs)]
 ·refine ⟨.sl H.next 0 (n + (m + 1)) (n + (m + 1)) false, H.mate2 b ⟨cs, true, mt, es⟩ (cs ++ news), ?_, .inr ⟨H.next, some b, rfl, hk.1, Nat.lt_succ_self _, Heap.mate2_new, by simp [h5, hl, Nat.add_mul], fun k c => by cases c; exact h2⟩, hk.mate2 h2 h6⟩
  simp only [appendA, hx, h4, List.drop_zero]
  rw [if_neg (by omega)]
  have : takeN (n * es) cs = some cs := by rw [← h5]; exact takeN_all cs
  simp only [this]
  simp only [hs, h5, Nat.zero_add, and_self, if_true, Bool.false_eq_true, if_false]
section
variable {A : AProg} {L : List (Nat × AV)} {l : List AOper} {H H0 : Heap} {Q : T AV → Heap → Prop}
end
end Go.AM
namespace Go.AM
end Go.AM
