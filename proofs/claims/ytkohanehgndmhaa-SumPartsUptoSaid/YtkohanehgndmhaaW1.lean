/- Rules for the machine. No condition. -/
import Derived.Test.YtkohanehgndmhaaAM10
set_option linter.all false
namespace Go.AM
/-! ## More fuel, more is known -/
def FLe (fr gr : T AV) : Prop := ∀ (k : Nat) (v : AV), fr.get k = some v → gr.get k = some v
theorem FLe.refl (fr : T AV) : FLe fr fr := fun _ _ h => h
theorem FLe.trans {a b c : T AV} (h : FLe a b) (k : FLe b c) : FLe a c := fun i v e => k i v (h i v e)
theorem FLe.set {fr gr : T AV} (h : FLe fr gr) (k : Nat) (x : Option AV) : FLe (fr.set k x) (gr.set k x) := by
  intro j v e
  rw [T.get_set] at e ⊢
  split at e
  · rename_i hj; rw [if_pos hj]; exact e
  · rename_i hj; rw [if_neg hj]; exact h _ _ e
theorem FLe.put {fr gr : T AV} (h : FLe fr gr) (d : Option Nat) (v : AV) : FLe (putD fr d v) (putD gr d v) := by
  cases d with
  | none => exact h
  | some d => exact h.set d _

section
variable {fr gr : T AV}
theorem evX_le (h : FLe fr gr) {x : AX} {v : AV} (e : evX fr x = some v) : evX gr x = some v := by
  cases x with
  | t n => exact h _ _ e
  | c w => exact e
theorem evXs_le (h : FLe fr gr) : ∀ {l : List AX} {vs : List AV}, evXs fr l = some vs → evXs gr l = some vs
  | [], _, e => e
  | x :: l, vs, e => by
    rw [evXs] at e ⊢
    cases hx : evX fr x with
    | none => rw [hx] at e; cases e
    | some v =>
      rw [hx] at e
      rw [evX_le h hx]
      cases hl : evXs fr l with
      | none => simp only [hl] at e; cases e
      | some ws => simp only [hl] at e; simp only [evXs_le h hl]; exact e
theorem fillA_le (h : FLe fr gr) : ∀ {ps : List (Nat × Nat × AX)} {cs ds : List AV}, fillA fr cs ps = some ds → fillA gr cs ps = some ds
  | [], _, _, e => e
  | (o, s, x) :: r, cs, ds, e => by
    rw [fillA] at e ⊢
    cases hx : evX fr x with
    | none => simp only [hx] at e; cases e
    | some v =>
      simp only [hx] at e
      simp only [evX_le h hx]
      cases hv : v.cs with
      | none => simp only [hv] at e; cases e
      | some vs =>
        simp only [hv] at e ⊢
        split at e
        · rename_i hl
          rw [if_pos hl]
          cases hp : putAt cs o vs with
          | none => simp only [hp] at e; cases e
          | some cs' => simp only [hp] at e ⊢; exact fillA_le h e
        · cases e
theorem boundX_fle (h : FLe fr gr) {d hi n : Nat} : ∀ {x : Option AX}, boundX fr d hi x = some n → boundX gr d hi x = some n
  | none, e => e
  | some x, e => by
    rw [boundX] at e ⊢
    cases hx : evX fr x with
    | none => simp only [hx] at e; cases e
    | some v => simp only [hx] at e; simp only [evX_le h hx]; exact e

def CLe (c c' : Nat → List AV → Heap → Option (AV × Heap)) : Prop := ∀ f vs H r, c f vs H = some r → c' f vs H = some r

theorem evOp_le {c c' : Nat → List AV → Heap → Option (AV × Heap)} (hc : CLe c c') (h : FLe fr gr) {o : AOp} {H : Heap} {r : AV × Heap} (e : evOp c o fr H = some r) : evOp c' o gr H = some r := by
  induction o generalizing r
  case ck ts o ih =>
    obtain ⟨v, H'⟩ := r
    obtain ⟨e1, hU⟩ := evOp_ck.1 e
    refine evOp_ck.2 ⟨ih e1, fun t ht => ?_⟩
    obtain ⟨v', g1, g2⟩ := hU t ht
    exact ⟨v', h t v' g1, g2⟩
  case pick q a b =>
    rcases hx : evX fr q with _ | u
    · simp [evOp, hx] at e
    · rcases u with x | _ | _ | _ | _ | _ | _ <;> try (simp [evOp, hx] at e; done)
      rcases x with t | _ | _ | _ | _ | _ | _ | _ | _ | _ | _ | _ <;> try (simp [evOp, hx] at e; done)
      cases t
      · rcases hy : evX fr b with _ | u
        · simp [evOp, hx, hy] at e
        · simp only [evOp, hx, hy, evX_le h hx, evX_le h hy] at e ⊢; exact e
      · rcases hy : evX fr a with _ | u
        · simp [evOp, hx, hy] at e
        · simp only [evOp, hx, hy, evX_le h hx, evX_le h hy] at e ⊢; exact e
  case build z ps =>
    rcases hx : fillA fr z ps with _ | u
    · simp [evOp, hx] at e
    · simp only [evOp, hx, fillA_le h hx] at e ⊢; exact e
  case bslice es len z ps =>
    rcases hx : fillA fr z ps with _ | u
    · simp [evOp, hx] at e
    · simp only [evOp, hx, fillA_le h hx] at e ⊢; exact e
  case eqnil a s x =>
    rcases hx : evX fr x with _ | u
    · cases s <;> simp [evOp, hx] at e
    · simp only [evOp, hx, evX_le h hx] at e ⊢; exact e
  case len s x =>
    rcases hx : evX fr x with _ | u
    · cases s <;> simp [evOp, hx] at e
    · simp only [evOp, hx, evX_le h hx] at e ⊢; exact e
  case slice es x lo hi =>
    rcases hx : evX fr x with _ | u
    · simp [evOp, hx] at e
    · simp only [evOp, hx, evX_le h hx] at e ⊢
      split at e
      · split at e
        · rename_i h1
          rw [boundX_fle h h1]
          split at e
          · rename_i h2; simp only [boundX_fle h h2]; exact e
          · cases e
        · cases e
      · split at e
        · rename_i h1
          rw [boundX_fle h h1]
          split at e
          · rename_i h2; simp only [boundX_fle h h2]; exact e
          · cases e
        · cases e
      · cases e
  case sstr x lo hi =>
    rcases hx : evX fr x with _ | u
    · simp [evOp, hx] at e
    · simp only [evOp, hx, evX_le h hx] at e ⊢
      split at e
      · split at e
        · rename_i h1
          rw [boundX_fle h h1]
          split at e
          · rename_i h2; simp only [boundX_fle h h2]; exact e
          · cases e
        · cases e
      · cases e
  case call f xs =>
    rcases hx : evXs fr xs with _ | u
    · simp [evOp, hx] at e
    · simp only [evOp, hx, evXs_le h hx] at e ⊢; exact hc _ _ _ _ e
  case mkfn f xs =>
    rcases hx : evXs fr xs with _ | u
    · simp [evOp, hx] at e
    · simp only [evOp, hx, evXs_le h hx] at e ⊢; exact e
  case callv x xs =>
    rcases hx : evX fr x with _ | u
    · simp [evOp, hx] at e
    · simp only [evOp, hx, evX_le h hx] at e ⊢
      split at e
      · rcases hy : evXs fr xs with _ | u
        · simp [hy] at e
        · simp only [hy, evXs_le h hy] at e ⊢; exact hc _ _ _ _ e
      · cases e
  case bad => simp [evOp] at e
  case store n x y =>
    rcases hx : evX fr x with _ | u
    · simp [evOp, hx] at e
    · rcases hy : evX fr y with _ | v
      · simp [evOp, hx, hy] at e
      · simp only [evOp, hx, hy, evX_le h hx, evX_le h hy] at e ⊢; exact e
  case bin n x y =>
    rcases hx : evX fr x with _ | u
    · simp [evOp, hx] at e
    · rcases hy : evX fr y with _ | v
      · simp [evOp, hx, hy] at e
      · simp only [evOp, hx, hy, evX_le h hx, evX_le h hy] at e ⊢; exact e
  case beq a b c x y =>
    rcases hx : evX fr x with _ | u
    · simp [evOp, hx] at e
    · rcases hy : evX fr y with _ | v
      · simp [evOp, hx, hy] at e
      · simp only [evOp, hx, hy, evX_le h hx, evX_le h hy] at e ⊢; exact e
  case mkslice a b c x y =>
    rcases hx : evX fr x with _ | u
    · simp [evOp, hx] at e
    · rcases hy : evX fr y with _ | v
      · simp [evOp, hx, hy] at e
      · simp only [evOp, hx, hy, evX_le h hx, evX_le h hy] at e ⊢; exact e
  case iaddr a x y =>
    rcases hx : evX fr x with _ | u
    · simp [evOp, hx] at e
    · rcases hy : evX fr y with _ | v
      · simp [evOp, hx, hy] at e
      · simp only [evOp, hx, hy, evX_le h hx, evX_le h hy] at e ⊢; exact e
  case aaddr a b x y =>
    rcases hx : evX fr x with _ | u
    · simp [evOp, hx] at e
    · rcases hy : evX fr y with _ | v
      · simp [evOp, hx, hy] at e
      · simp only [evOp, hx, hy, evX_le h hx, evX_le h hy] at e ⊢; exact e
  case sidx x y =>
    rcases hx : evX fr x with _ | u
    · simp [evOp, hx] at e
    · rcases hy : evX fr y with _ | v
      · simp [evOp, hx, hy] at e
      · simp only [evOp, hx, hy, evX_le h hx, evX_le h hy] at e ⊢; exact e
  case app a b x y =>
    rcases hx : evX fr x with _ | u
    · simp [evOp, hx] at e
    · rcases hy : evX fr y with _ | v
      · simp [evOp, hx, hy] at e
      · simp only [evOp, hx, hy, evX_le h hx, evX_le h hy] at e ⊢; exact e
  case mn x y =>
    rcases hx : evX fr x with _ | u
    · simp [evOp, hx] at e
    · rcases hy : evX fr y with _ | v
      · simp [evOp, hx, hy] at e
      · simp only [evOp, hx, hy, evX_le h hx, evX_le h hy] at e ⊢; exact e
  case mx x y =>
    rcases hx : evX fr x with _ | u
    · simp [evOp, hx] at e
    · rcases hy : evX fr y with _ | v
      · simp [evOp, hx, hy] at e
      · simp only [evOp, hx, hy, evX_le h hx, evX_le h hy] at e ⊢; exact e
  case appz a b z x y =>
    rcases hx : evX fr x with _ | u
    · simp [evOp, hx] at e
    · rcases hy : evX fr y with _ | v
      · simp [evOp, hx, hy] at e
      · simp only [evOp, hx, hy, evX_le h hx, evX_le h hy] at e ⊢; exact e
  case aidx a x y =>
    rcases hx : evX fr x with _ | u
    · simp [evOp, hx] at e
    · rcases hy : evX fr y with _ | v
      · simp [evOp, hx, hy] at e
      · simp only [evOp, hx, hy, evX_le h hx, evX_le h hy] at e ⊢; exact e
  case cpy a x y =>
    rcases hx : evX fr x with _ | u
    · simp [evOp, hx] at e
    · rcases hy : evX fr y with _ | v
      · simp [evOp, hx, hy] at e
      · simp only [evOp, hx, hy, evX_le h hx, evX_le h hy] at e ⊢; exact e
  case slice3 es x lo hi m3 =>
    rcases hx : evX fr x with _ | u
    · simp [evOp, hx] at e
    · simp only [evOp, hx, evX_le h hx] at e ⊢
      split at e
      · split at e
        · rename_i h0
          rw [boundX_fle h h0]
          simp only
          split at e
          · rename_i h1
            rw [boundX_fle h h1]
            simp only
            split at e
            · rename_i h2; simp only [boundX_fle h h2]; exact e
            · cases e
          · cases e
        · cases e
      · split at e
        · rename_i h0
          rw [boundX_fle h h0]
          simp only
          split at e
          · rename_i h1
            rw [boundX_fle h h1]
            simp only
            split at e
            · rename_i h2; simp only [boundX_fle h h2]; exact e
            · cases e
          · cases e
        · cases e
      · cases e
  case ext x i =>
    rcases hx : evX fr x with _ | u
    · simp [evOp, hx] at e
    · simp only [evOp, hx, evX_le h hx] at e ⊢; exact e
  all_goals
    rename_i x
    rcases hx : evX fr x with _ | u
    · simp [evOp, hx] at e
    · simp only [evOp, hx, evX_le h hx] at e ⊢; exact e
end
end Go.AM
