/- Contracts of the functions that the statement reaches. No condition. -/
import Derived.Test.YtabhoinefficpaaPL8d
set_option linter.all false
set_option maxRecDepth 10000
namespace Go.AM.PL
/-- turned about at places -/
def turnV (l : List Rn) (ats : List Int) : List Rn := ats.foldl (fun X a => swapV X (within a 0 ((l.length : Int) - 2))) l
theorem turn_len (l : List Rn) (ats : List Int) : (turnV l ats).length = l.length := by
  unfold turnV
  have key : ∀ (ats : List Int) (X : List Rn), X.length = l.length → (ats.foldl (fun X a => swapV X (within a 0 ((l.length : Int) - 2))) X).length = l.length := by
    intro ats
    induction ats with
    | nil => intro X h; exact h
    | cons a ats ih => intro X h; exact ih _ (by rw [swap_len]; exact h)
  exact key ats l rfl
theorem turn_mem (l : List Rn) (ats : List Int) : ∀ r ∈ turnV l ats, r ∈ l := by
  unfold turnV
  have key : ∀ (ats : List Int) (X : List Rn), (∀ r ∈ X, r ∈ l) → ∀ r ∈ ats.foldl (fun X a => swapV X (within a 0 ((l.length : Int) - 2))) X, r ∈ l := by
    intro ats
    induction ats with
    | nil => intro X h; exact h
    | cons a ats ih => intro X h; exact ih _ (fun r hr => h r (swap_mem r hr))
  exact key ats l (fun _ h => h)
theorem turn_snoc {l : List Rn} {ats : List Int} {i : Nat} (h : i < ats.length) : turnV l (ats.take (i + 1)) = swapV (turnV l (ats.take i)) (within ats[i] 0 ((l.length : Int) - 2)) := by
  unfold turnV; rw [foldl_take _ _ h]
theorem swap_set {l : List Rn} {k : Nat} (h : k + 1 < l.length) : swapV l (k : Int) = (l.set k (l.getD (k + 1) ⟨0, 0⟩)).set (k + 1) (l.getD k ⟨0, 0⟩) := by
  unfold swapV; rw [if_pos (by omega), Int.toNat_natCast]
/-- what the law's `turned` makes -/
def turnedV (l : List Rn) (ats : List Int) : List Rn := if l.length > 1 then turnV l (ats.take 30) else l
theorem turned_len (l : List Rn) (ats : List Int) : (turnedV l ats).length = l.length := by
  unfold turnedV; split
  · exact turn_len _ _
  · rfl
theorem turned_mem (l : List Rn) (ats : List Int) : ∀ r ∈ turnedV l ats, r ∈ l := by
  unfold turnedV; split
  · exact turn_mem _ _
  · exact fun _ h => h
theorem turned_ok {l : List Rn} {ats : List Int} {P : Rn → Prop} (h : ∀ r ∈ l, P r) : ∀ r ∈ turnedV l ats, P r := fun r hr => h r (turned_mem l ats r hr)
/-! what is turned about step by step -/
def moveStep (dep : List (List Bool)) (l X : List Rn) (a : Int) : List Rn :=
  let k := (within a 0 ((l.length : Int) - 2)).toNat
  let u := X.getD k ⟨0, 0⟩
  let v := X.getD (k + 1) ⟨0, 0⟩
  if u.p = -1 ∨ v.p = -1 ∨ (u.p ≠ v.p ∧ (dep.getD u.p.toNat []).getD v.p.toNat false = false) then swapV X (k : Int) else X
def moveV (dep : List (List Bool)) (l : List Rn) (ats : List Int) : List Rn := ats.foldl (moveStep dep l) l
theorem move_snoc {dep : List (List Bool)} {l : List Rn} {ats : List Int} {i : Nat} (h : i < ats.length) : moveV dep l (ats.take (i + 1)) = moveStep dep l (moveV dep l (ats.take i)) ats[i] := by
  unfold moveV; rw [foldl_take _ _ h]
theorem step_len (dep : List (List Bool)) (l X : List Rn) (a : Int) : (moveStep dep l X a).length = X.length := by
  unfold moveStep; dsimp only; split
  · exact swap_len _ _
  · rfl
theorem step_mem (dep : List (List Bool)) (l X : List Rn) (a : Int) : ∀ r ∈ moveStep dep l X a, r ∈ X := by
  unfold moveStep; dsimp only; split
  · exact swap_mem
  · exact fun _ h => h
def MInv (dep : List (List Bool)) (l X : List Rn) : Prop := X.length = l.length ∧ (∀ r ∈ X, r ∈ l) ∧ okP l X dep
theorem step_inv {bits : Int} {l X : List Rn} {a : Int} (hl : 1 < l.length) (h4 : ∀ r ∈ l, -1 ≤ r.p ∧ r.p < 4) (h : MInv (depM 4 bits) l X) : MInv (depM 4 bits) l (moveStep (depM 4 bits) l X a) := by
  obtain ⟨h1, h2, h3⟩ := h
  refine ⟨by rw [step_len]; exact h1, fun r hr => h2 r (step_mem _ _ _ _ r hr), ?_⟩
  unfold moveStep
  dsimp only
  split
  · rename_i c
    have hw := within_rng a 0 ((l.length : Int) - 2) (by omega)
    generalize hk : (within a 0 ((l.length : Int) - 2)).toNat = k at *
    have hkl : k + 1 < X.length := by omega
    refine h3.trans (swap_same hkl ?_)
    have hu := h4 _ (h2 _ (getD_mem (l := X) (i := k) (by omega)))
    have hv := h4 _ (h2 _ (getD_mem hkl))
    generalize X.getD k ⟨0, 0⟩ = u at *
    generalize X.getD (k + 1) ⟨0, 0⟩ = v at *
    rcases c with c | c | ⟨c1, c2⟩
    · exact .inl c
    · exact .inr (.inl c)
    · by_cases e1 : u.p = -1
      · exact .inl e1
      · by_cases e2 : v.p = -1
        · exact .inr (.inl e2)
        · exact .inr (.inr ⟨c1, by rw [← depM_get (by omega) (by omega) c1]; exact c2⟩)
  · exact h3
theorem move_inv {bits : Int} {l : List Rn} (hl : 1 < l.length) (h4 : ∀ r ∈ l, -1 ≤ r.p ∧ r.p < 4) (ats : List Int) : MInv (depM 4 bits) l (moveV (depM 4 bits) l ats) := by
  unfold moveV
  have key : ∀ (ats : List Int) (X : List Rn), MInv (depM 4 bits) l X → MInv (depM 4 bits) l (ats.foldl (moveStep (depM 4 bits) l) X) := by
    intro ats
    induction ats with
    | nil => intro X h; exact h
    | cons a ats ih => intro X h; exact ih _ (step_inv hl h4 h)
  exact key ats l ⟨rfl, fun _ h => h, okP.refl⟩
def movedV (dep : List (List Bool)) (l : List Rn) (ats : List Int) : List Rn := if l.length > 1 then moveV dep l (ats.take 25) else l
theorem moved_inv {bits : Int} {l : List Rn} (h4 : ∀ r ∈ l, -1 ≤ r.p ∧ r.p < 4) (ats : List Int) : MInv (depM 4 bits) l (movedV (depM 4 bits) l ats) := by
  unfold movedV; split
  · rename_i c; exact move_inv c h4 _
  · exact ⟨rfl, fun _ h => h, okP.refl⟩
theorem order_val {l x y : List Rn} {dep : List (List Bool)} : ((!(!(differV l x dep).2.2) || !(!(differV x y dep).2.2)) || !(differV l y dep).2.2) = true := by
  have h1 := same_iff (a := l) (b := x) (dep := dep)
  have h2 := same_iff (a := x) (b := y) (dep := dep)
  have h3 := same_iff (a := l) (b := y) (dep := dep)
  cases e1 : (differV l x dep).2.2 with
  | true => rfl
  | false =>
    cases e2 : (differV x y dep).2.2 with
    | true => rfl
    | false => rw [h3.2 ((h1.1 e1).trans (h2.1 e2))]; rfl
theorem more_val {l x : List Rn} {a b : Int} : (!(!(differV l x (depM 4 (orI .i64 a b))).2.2) || !(differV l x (depM 4 a)).2.2) = true := by
  have h1 := same_iff (a := l) (b := x) (dep := depM 4 (orI .i64 a b))
  have h3 := same_iff (a := l) (b := x) (dep := depM 4 a)
  cases e1 : (differV l x (depM 4 (orI .i64 a b))).2.2 with
  | true => rfl
  | false => rw [h3.2 ((h1.1 e1).mono depV8_or)]; rfl
end Go.AM.PL
namespace Go.AM.PL
def tapeL (c k n : Nat) : List Int := (List.range n).map fun i : Nat => ((i : Int) * i * 7 + (k : Int) * c + (i : Int) * k) % 211
theorem tapeL_snoc {c k i : Nat} : tapeL c k (i + 1) = tapeL c k i ++ [((i : Int) * i * 7 + (k : Int) * c + (i : Int) * k) % 211] := by unfold tapeL; rw [List.range_succ, List.map_append]; rfl
theorem tapeL_len {c k n : Nat} : (tapeL c k n).length = n := by unfold tapeL; simp
theorem tapeL_i64 {c k n : Nat} : ∀ x ∈ tapeL c k n, i64 x := fun x hx => by
  unfold tapeL at hx
  obtain ⟨i, _, rfl⟩ := List.mem_map.1 hx
  unfold i64; omega
theorem mul_le' {a b : Nat} {m n : Int} (h1 : (a : Int) ≤ m) (h2 : (b : Int) ≤ n) : 0 ≤ (a : Int) * b ∧ (a : Int) * b ≤ m * n := by
  have := Int.mul_le_mul h1 h2 (by omega) (by omega)
  have h3 := Int.mul_nonneg (show 0 ≤ (a : Int) by omega) (show 0 ≤ (b : Int) by omega)
  exact ⟨h3, this⟩
theorem rdep_val {dep : List (List Bool)} {a b : Int} (hsq : ∀ r ∈ dep, r.length = dep.length) (hne : ¬ a = b) :
    ((((decide (a ≥ 0) && decide (b ≥ 0)) && decide (a < (dep.length : Int))) && decide (b < (dep.length : Int))) && ((dep.getD a.toNat []).getD b.toNat false || (dep.getD b.toNat []).getD a.toNat false)) = depV8 dep a b := by
  have hrow : ∀ i : Nat, i < dep.length → (dep.getD i []).length = dep.length := fun i hi => hsq _ (by rw [List.getD_eq_getElem?_getD, List.getElem?_eq_getElem hi]; exact List.getElem_mem hi)
  unfold depV8 toV
  rw [show (a == b) = false by simpa using hne]
  by_cases h1 : a ≥ 0
  · by_cases h2 : b ≥ 0
    · by_cases h3 : a < (dep.length : Int)
      · by_cases h4 : b < (dep.length : Int)
        · rw [hrow _ (by omega), hrow _ (by omega)]; simp [h1, h2, h3, h4]
        · rw [hrow _ (by omega)]; simp [h1, h2, h3, h4]
      · by_cases h4 : b < (dep.length : Int)
        · rw [hrow b.toNat (by omega)]; simp [h1, h2, h3, h4]
        · simp [h1, h2, h3, h4]
    · simp [h1, h2]
  · simp [h1]
end Go.AM.PL
namespace Go.AM.PL
theorem okT_N5 {l : List Rn} (h : ∀ r ∈ l, okT 5 r) : ∀ r ∈ l, okN r := fun r hr => by
  have := h r hr
  unfold okT at this
  unfold okN i64; omega
end Go.AM.PL
namespace Go.AM.PL
theorem swap_out {l : List Rn} {a : Int} (h : ¬ (0 ≤ a ∧ a < (l.length : Int) - 1)) : swapV l a = l := by unfold swapV; rw [if_neg h]
end Go.AM.PL
