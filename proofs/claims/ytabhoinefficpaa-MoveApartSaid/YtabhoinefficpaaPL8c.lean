/- Contracts of the functions that the statement reaches. No condition. -/
import Derived.Test.YtabhoinefficpaaPL8b
import Derived.Test.YtabhoinefficpaaPL1b
set_option linter.all false
set_option maxRecDepth 10000
namespace Go.AM.PL
section
variable (a b : List Rn) (dep : List (List Bool))
def okP : Prop := (∀ x y : Nat, x ≤ y → y < 6 → depV8 dep x y = true → projV a x y = projV b x y) ∧ tickV a (-1) = tickV b (-1)
end
section
variable {a b c : List Rn} {dep all : List (List Bool)}
theorem difV_not {x y : Int} : ¬ difV a b dep x y = true ↔ (depV8 dep x y = true → projV a x y = projV b x y) := by
  unfold difV
  cases depV8 dep x y with
  | false => simp
  | true => simp
theorem dyV_none {x : Nat} : ∀ (k y : Nat), (dyV a b dep x k y = none ↔ ∀ j, y ≤ j → j < y + k → ¬ difV a b dep x j = true)
  | 0, y => ⟨fun _ j h1 h2 => by omega, fun _ => rfl⟩
  | k + 1, y => by
    rw [dyV]
    by_cases h : difV a b dep x y = true
    · rw [if_pos h]
      exact ⟨fun e => (by cases e), fun e => absurd h (e y (Nat.le_refl _) (by omega))⟩
    · rw [if_neg h, dyV_none k (y + 1)]
      refine ⟨fun e j h1 h2 => ?_, fun e j h1 h2 => e j (by omega) (by omega)⟩
      by_cases hj : j = y
      · subst hj; exact h
      · exact e j (by omega) (by omega)
theorem dxV_none : ∀ (k x : Nat), x + k = 6 → (dxV a b dep k x = none ↔ ∀ i j : Nat, x ≤ i → i ≤ j → j < 6 → ¬ difV a b dep i j = true)
  | 0, x, h => ⟨fun _ i j h1 h2 h3 => by omega, fun _ => rfl⟩
  | k + 1, x, h => by
    rw [dxV]
    cases hd : dyV a b dep x (6 - x) x with
    | some z =>
      refine ⟨fun e => (by cases e), fun e => ?_⟩
      have : dyV a b dep x (6 - x) x = none := (dyV_none _ _).2 fun j h1 h2 => e x j (Nat.le_refl _) h1 (by omega)
      rw [hd] at this; cases this
    | none =>
      have h0 := (dyV_none _ _).1 hd
      show dxV a b dep k (x + 1) = none ↔ _
      rw [dxV_none k (x + 1) (by omega)]
      refine ⟨fun e i j h1 h2 h3 => ?_, fun e i j h1 h2 h3 => e i j (by omega) h2 h3⟩
      by_cases hi : i = x
      · subst hi; exact h0 j h2 (by omega)
      · exact e i j (by omega) h2 h3
theorem dxV_ok : dxV a b dep 6 0 = none ↔ ∀ x y : Nat, x ≤ y → y < 6 → depV8 dep x y = true → projV a x y = projV b x y := by
  rw [dxV_none 6 0 rfl]
  exact ⟨fun h x y h1 h2 => difV_not.1 (h x y (Nat.zero_le _) h1 h2), fun h i j _ h1 h2 => difV_not.2 (h i j h1 h2)⟩
theorem same_val (h : okP a b dep) : differV a b dep = (-1, -1, false) := by
  unfold differV
  rw [dxV_ok.2 h.1, h.2]
  simp
theorem same_iff : (differV a b dep).2.2 = false ↔ okP a b dep := by
  refine ⟨fun h => ?_, fun h => by rw [same_val h]⟩
  unfold differV at h
  cases hd : dxV a b dep 6 0 with
  | some z => rw [hd] at h; cases h
  | none =>
    rw [hd] at h
    exact ⟨dxV_ok.1 hd, by simpa using h⟩
theorem okP.refl : okP a a dep := ⟨fun _ _ _ _ _ => rfl, rfl⟩
theorem okP.symm (h : okP a b dep) : okP b a dep := ⟨fun x y h1 h2 h3 => (h.1 x y h1 h2 h3).symm, h.2.symm⟩
theorem okP.trans (h : okP a b dep) (k : okP b c dep) : okP a c dep := ⟨fun x y h1 h2 h3 => (h.1 x y h1 h2 h3).trans (k.1 x y h1 h2 h3), h.2.trans k.2⟩
theorem okP.mono (h : okP a b all) (k : ∀ x y : Nat, depV8 dep x y = true → depV8 all x y = true) : okP a b dep := ⟨fun x y h1 h2 h3 => h.1 x y h1 h2 (k x y h3), h.2⟩
theorem same_symm : (differV a b dep).2.2 = (differV b a dep).2.2 := by
  have h1 := same_iff (a := a) (b := b) (dep := dep)
  have h2 := same_iff (a := b) (b := a) (dep := dep)
  cases e1 : (differV a b dep).2.2 with
  | false => exact (h2.2 (h1.1 e1).symm).symm
  | true =>
    cases e2 : (differV b a dep).2.2 with
    | true => rfl
    | false => rw [h1.2 (h2.1 e2).symm] at e1; cases e1
end
/-! a row that is tidied is the same to all -/
theorem tidy_filter (f : Int → Bool) (Y : List Rn) : (∀ r ∈ Y, okN r) → tidyR ((tidyV Y).filter fun r => f r.p) = tidyR (Y.filter fun r => f r.p) := by
  induction Y using snoc_ind with
  | h0 => intro _; rfl
  | h1 Y r ih =>
    intro hY
    have hYo : ∀ x ∈ Y, okN x := fun x hx => hY x (List.mem_append_left _ hx)
    have ih := ih hYo
    have hq := tidyR_ok Y hYo
    have snoc : ∀ (X : List Rn) (z : Rn), tidyR ((X ++ [z]).filter fun r => f r.p) = if f z.p = true then tstep (tidyR (X.filter fun r => f r.p)) z else tidyR (X.filter fun r => f r.p) := fun X z => by
      rw [List.filter_append]
      split
      · rename_i c; rw [List.filter_cons_of_pos (by exact c), List.filter_nil, tidyR_app1]
      · rename_i c; rw [List.filter_cons_of_neg (by exact c), List.filter_nil, List.append_nil]
    rw [snoc]
    unfold tidyV
    rw [tidyR_app1]
    by_cases c : r.n < 1
    · rw [tstep_0 c]
      show tidyR ((tidyV Y).filter _) = _
      rw [ih]
      split
      · rw [tstep_0 c]
      · rfl
    · by_cases d : 0 < (tidyR Y).length ∧ (hdR (tidyR Y)).p = r.p
      · rw [tstep_T c d.1 d.2]
        unfold tidyV at ih
        cases e : tidyR Y with
        | nil => rw [e] at d; simp at d
        | cons q Q =>
          rw [e] at d ih hq
          have hd : q.p = r.p := d.2
          have hqn := (hq q (List.mem_cons_self ..)).2
          rw [List.reverse_cons] at ih
          rw [List.reverse_cons, snoc]
          rw [snoc] at ih
          show (if f q.p = true then tstep _ ⟨q.p, sadd q.n r.n⟩ else _) = _
          by_cases z : f r.p = true
          · rw [if_pos (by rw [hd]; exact z)] at ih
            rw [if_pos (by rw [hd]; exact z), if_pos z, ← ih, tstep_two hd hqn c]; rfl
          · rw [if_neg (by rw [hd]; exact z)] at ih
            rw [if_neg (by rw [hd]; exact z), if_neg z, ← ih]; rfl
      · rw [tstep_F c (by by_cases z : (tidyR Y).length = 0
                          · exact .inl z
                          · exact .inr (fun h => d ⟨by omega, h⟩)), List.reverse_cons, snoc]
        show (if f r.p = true then tstep (tidyR ((tidyV Y).filter _)) r else tidyR ((tidyV Y).filter _)) = _
        rw [ih]
theorem proj_tidy (Y : List Rn) (a b : Int) (h : ∀ r ∈ Y, okN r) : projV (tidyV Y) a b = projV Y a b := by
  have := tidy_filter (fun p => p == a || p == b) Y h
  show (tidyR ((tidyV Y).filter (both a b))).reverse = (tidyR (Y.filter (both a b))).reverse
  exact congrArg List.reverse this
theorem okP_tidy (Y : List Rn) (dep : List (List Bool)) (h : ∀ r ∈ Y, okN r) : okP Y (tidyV Y) dep := ⟨fun x y _ _ _ => (proj_tidy Y x y h).symm, (tick_tidy Y (-1) h).symm⟩
/-! two runs side by side turned about -/
theorem swap_form {l : List Rn} {k : Nat} (h : k + 1 < l.length) : ∃ A B, l = A ++ l.getD k ⟨0, 0⟩ :: l.getD (k + 1) ⟨0, 0⟩ :: B ∧ swapV l (k : Int) = A ++ l.getD (k + 1) ⟨0, 0⟩ :: l.getD k ⟨0, 0⟩ :: B ∧ A.length = k := by
  have h1 : l.getD k ⟨0, 0⟩ = l[k] := by rw [List.getD_eq_getElem?_getD, List.getElem?_eq_getElem (by omega)]; rfl
  have h2 : l.getD (k + 1) ⟨0, 0⟩ = l[k + 1] := by rw [List.getD_eq_getElem?_getD, List.getElem?_eq_getElem h]; rfl
  have e : l = l.take k ++ l[k] :: l[k + 1] :: l.drop (k + 2) := by
    conv => lhs; rw [← List.take_append_drop k l, List.drop_eq_getElem_cons (by omega), List.drop_eq_getElem_cons h]
  have hk : (l.take k).length = k := by rw [List.length_take]; omega
  refine ⟨l.take k, l.drop (k + 2), by rw [h1, h2]; exact e, ?_, hk⟩
  unfold swapV
  rw [if_pos (by omega), Int.toNat_natCast]
  generalize hu : l.getD k ⟨0, 0⟩ = u at *
  generalize hv : l.getD (k + 1) ⟨0, 0⟩ = v at *
  rw [← h1, ← h2] at e
  obtain ⟨A, hA⟩ : ∃ A, l.take k = A := ⟨_, rfl⟩
  obtain ⟨B, hB⟩ : ∃ B, l.drop (k + 2) = B := ⟨_, rfl⟩
  rw [hA, hB] at e
  rw [hA] at hk ⊢
  rw [hB, e]
  rw [List.set_append_right _ _ (by omega), List.set_append_right _ _ (by omega), hk, Nat.sub_self, show k + 1 - k = 1 by omega]
  rfl
theorem sadd_comm (a b : Int) : sadd a b = sadd b a := by unfold sadd; (repeat' split) <;> omega
theorem sadd_swap (t u v : Int) : sadd (sadd t v) u = sadd (sadd t u) v := by rw [sadd_assoc, sadd_assoc, sadd_comm v u]
theorem tick_swap (A B : List Rn) (u v : Rn) (p : Int) : tickV (A ++ v :: u :: B) p = tickV (A ++ u :: v :: B) p := by
  unfold tickV
  rw [List.foldl_append, List.foldl_append]
  simp only [List.foldl_cons]
  congr 1
  by_cases h1 : u.p = p
  · by_cases h2 : v.p = p
    · rw [if_pos h1, if_pos h2, if_pos h2, if_pos h1, sadd_swap]
    · rw [if_pos h1, if_neg h2, if_neg h2, if_pos h1]
  · by_cases h2 : v.p = p
    · rw [if_neg h1, if_pos h2, if_pos h2, if_neg h1]
    · rw [if_neg h1, if_neg h2, if_neg h2, if_neg h1]
theorem total_swap (A B : List Rn) (u v : Rn) : total (A ++ v :: u :: B) = total (A ++ u :: v :: B) := by
  unfold total
  rw [List.foldl_append, List.foldl_append]
  simp only [List.foldl_cons]
  rw [sadd_swap]
theorem proj_swap (A B : List Rn) (u v : Rn) (a b : Int) (h : ¬ (both a b u = true ∧ both a b v = true)) : projV (A ++ u :: v :: B) a b = projV (A ++ v :: u :: B) a b := by
  unfold projV
  congr 1
  rw [List.filter_append, List.filter_append]
  congr 1
  simp only [List.filter_cons]
  by_cases h1 : both a b u = true
  · have h2 : ¬ both a b v = true := fun c => h ⟨h1, c⟩
    rw [if_pos h1, if_neg h2, if_neg h2, if_pos h1]
  · rw [if_neg h1, if_neg h1]
theorem depV8_symm (dep : List (List Bool)) (a b : Int) : depV8 dep a b = depV8 dep b a := by
  unfold depV8
  rw [show (a == b) = (b == a) from by rw [Bool.eq_iff_iff]; simp; omega]
  cases (b == a) <;> cases toV dep a b <;> cases toV dep b a <;> rfl
theorem both_iff {a b : Int} {r : Rn} : both a b r = true ↔ r.p = a ∨ r.p = b := by unfold both; simp
theorem swap_same {l : List Rn} {k : Nat} {dep : List (List Bool)} (h : k + 1 < l.length) (hf : (l.getD k ⟨0, 0⟩).p = -1 ∨ (l.getD (k + 1) ⟨0, 0⟩).p = -1 ∨ ((l.getD k ⟨0, 0⟩).p ≠ (l.getD (k + 1) ⟨0, 0⟩).p ∧ depV8 dep (l.getD k ⟨0, 0⟩).p (l.getD (k + 1) ⟨0, 0⟩).p = false)) : okP l (swapV l (k : Int)) dep := by
  obtain ⟨A, B, e1, e2, _⟩ := swap_form h
  generalize l.getD k ⟨0, 0⟩ = u at *
  generalize l.getD (k + 1) ⟨0, 0⟩ = v at *
  rw [e2]
  rw [e1]
  refine ⟨fun x y hx hy hd => proj_swap A B u v x y fun ⟨h1, h2⟩ => ?_, (tick_swap A B u v (-1)).symm⟩
  rw [both_iff] at h1 h2
  rcases hf with hf | hf | ⟨hf, hf2⟩
  · omega
  · omega
  · rcases h1 with h1 | h1
    · rcases h2 with h2 | h2
      · exact hf (h1.trans h2.symm)
      · rw [h1, h2, hd] at hf2; cases hf2
    · rcases h2 with h2 | h2
      · rw [h1, h2, depV8_symm, hd] at hf2; cases hf2
      · exact hf (h1.trans h2.symm)
/-! the word of a row -/
def word (l : List Rn) : List Int := l.flatMap fun r => List.replicate r.n.toNat r.p
theorem word_app (A B : List Rn) : word (A ++ B) = word A ++ word B := List.flatMap_append
theorem word_cons (r : Rn) (B : List Rn) : word (r :: B) = List.replicate r.n.toNat r.p ++ word B := rfl
theorem word_mem_len {l : List Rn} {r : Rn} (h : r ∈ l) : r.n.toNat ≤ (word l).length := by
  obtain ⟨A, B, rfl⟩ := List.append_of_mem h
  rw [word_app, word_cons]
  simp only [List.length_append, List.length_replicate]; omega
theorem word_tidy (Y : List Rn) : (∀ r ∈ Y, okN r) → (word Y).length < 2 ^ 62 → word (tidyV Y) = word Y := by
  induction Y using snoc_ind with
  | h0 => intro _ _; rfl
  | h1 Y r ih =>
    intro hY hl
    have hYo : ∀ x ∈ Y, okN x := fun x hx => hY x (List.mem_append_left _ hx)
    rw [word_app] at hl ⊢
    have hl2 : (word Y).length + r.n.toNat < 2 ^ 62 := by
      rw [List.length_append, word_cons] at hl
      simp only [List.length_append, List.length_replicate] at hl
      omega
    have ih := ih hYo (by omega)
    have hq := tidyR_ok Y hYo
    have hwr : word [r] = List.replicate r.n.toNat r.p := by rw [word_cons]; exact List.append_nil _
    rw [hwr]
    unfold tidyV
    rw [tidyR_app1]
    by_cases c : r.n < 1
    · rw [tstep_0 c, show r.n.toNat = 0 by omega]
      show word (tidyV Y) = _
      rw [ih]; simp
    · by_cases d : 0 < (tidyR Y).length ∧ (hdR (tidyR Y)).p = r.p
      · rw [tstep_T c d.1 d.2]
        unfold tidyV at ih
        cases e : tidyR Y with
        | nil => rw [e] at d; simp at d
        | cons q Q =>
          rw [e] at d ih hq
          have hd : q.p = r.p := d.2
          have hqn := (hq q (List.mem_cons_self ..)).2
          rw [List.reverse_cons, word_app] at ih
          have hqw : word [q] = List.replicate q.n.toNat q.p := by rw [word_cons]; exact List.append_nil _
          rw [hqw] at ih
          have hql : q.n.toNat ≤ (word Y).length := by rw [← ih]; simp
          have hs : sadd q.n r.n = q.n + r.n := by unfold sadd; rw [if_neg (by omega)]; omega
          show word (⟨q.p, sadd q.n r.n⟩ :: Q).reverse = _
          rw [List.reverse_cons, word_app, hs]
          have h3 : word [⟨q.p, q.n + r.n⟩] = List.replicate q.n.toNat q.p ++ List.replicate r.n.toNat r.p := by
            rw [word_cons]
            show List.replicate (q.n + r.n).toNat q.p ++ [] = _
            rw [List.append_nil, show (q.n + r.n).toNat = q.n.toNat + r.n.toNat by omega, ← List.replicate_append_replicate, ← hd]
          rw [h3, ← List.append_assoc, ih]
      · rw [tstep_F c (by by_cases z : (tidyR Y).length = 0
                          · exact .inl z
                          · exact .inr (fun h => d ⟨by omega, h⟩)), List.reverse_cons, word_app, hwr]
        show word (tidyV Y) ++ _ = _
        rw [ih]
theorem word_filter_len (f : Rn → Bool) (l : List Rn) : (word (l.filter f)).length ≤ (word l).length := by
  induction l with
  | nil => exact Nat.le_refl _
  | cons r l ih =>
    rw [List.filter_cons]
    split
    · rw [word_cons, word_cons, List.length_append, List.length_append]; omega
    · rw [word_cons, List.length_append]; omega
theorem word_swap_ne {A B : List Rn} {u v : Rn} (hu : 1 ≤ u.n) (hv : 1 ≤ v.n) (hp : u.p ≠ v.p) : word (A ++ u :: v :: B) ≠ word (A ++ v :: u :: B) := fun h => by
  rw [word_app, word_app, word_cons, word_cons, word_cons, word_cons] at h
  have h := List.append_cancel_left h
  obtain ⟨i, hi⟩ : ∃ i, u.n.toNat = i + 1 := ⟨u.n.toNat - 1, by omega⟩
  obtain ⟨j, hj⟩ : ∃ j, v.n.toNat = j + 1 := ⟨v.n.toNat - 1, by omega⟩
  rw [hi, hj, List.replicate_succ, List.replicate_succ] at h
  simp only [List.cons_append, List.cons.injEq] at h
  exact hp h.1
theorem proj_swap_ne {A B : List Rn} {u v : Rn} {a b : Int} (hu : both a b u = true) (hv : both a b v = true) (h1 : 1 ≤ u.n) (h2 : 1 ≤ v.n) (hp : u.p ≠ v.p) (hok : ∀ r ∈ A ++ u :: v :: B, okN r) (hl : (word (A ++ u :: v :: B)).length < 2 ^ 62) : projV (A ++ u :: v :: B) a b ≠ projV (A ++ v :: u :: B) a b := fun h => by
  have hok2 : ∀ r ∈ A ++ v :: u :: B, okN r := fun r hr => hok r (by
    simp only [List.mem_append, List.mem_cons] at hr ⊢
    rcases hr with h | h | h | h
    · exact .inl h
    · exact .inr (.inr (.inl h))
    · exact .inr (.inl h)
    · exact .inr (.inr (.inr h)))
  have hl2 : (word (A ++ v :: u :: B)).length = (word (A ++ u :: v :: B)).length := by
    simp only [word_app, word_cons, List.length_append]; omega
  have h := congrArg word h
  unfold projV at h
  rw [word_tidy _ (fun r hr => hok r (List.mem_filter.1 hr).1) (by have := word_filter_len (both a b) (A ++ u :: v :: B); omega), word_tidy _ (fun r hr => hok2 r (List.mem_filter.1 hr).1) (by have := word_filter_len (both a b) (A ++ v :: u :: B); omega)] at h
  rw [List.filter_append, List.filter_append, List.filter_cons_of_pos hu, List.filter_cons_of_pos hv, List.filter_cons_of_pos hv, List.filter_cons_of_pos hu] at h
  exact word_swap_ne h1 h2 hp h
theorem swap_turns {l : List Rn} {k : Nat} {dep : List (List Bool)} (h : k + 1 < l.length) (hok : ∀ r ∈ l, okN r ∧ 1 ≤ r.n) (hl : (word l).length < 2 ^ 62) (hne : (l.getD k ⟨0, 0⟩).p ≠ (l.getD (k + 1) ⟨0, 0⟩).p)
    (h0 : 0 ≤ (l.getD k ⟨0, 0⟩).p ∧ (l.getD k ⟨0, 0⟩).p < 6) (h1 : 0 ≤ (l.getD (k + 1) ⟨0, 0⟩).p ∧ (l.getD (k + 1) ⟨0, 0⟩).p < 6) (hd : depV8 dep (l.getD k ⟨0, 0⟩).p (l.getD (k + 1) ⟨0, 0⟩).p = true) : ¬ okP l (swapV l (k : Int)) dep := fun ho => by
  obtain ⟨A, B, e1, e2, _⟩ := swap_form h
  generalize l.getD k ⟨0, 0⟩ = u at *
  generalize l.getD (k + 1) ⟨0, 0⟩ = v at *
  have hu := hok u (by rw [e1]; simp)
  have hv := hok v (by rw [e1]; simp)
  rw [e2] at ho
  rw [e1] at ho
  have hok' : ∀ r ∈ A ++ u :: v :: B, okN r := fun r hr => (hok r (by rw [e1]; exact hr)).1
  rw [e1] at hl
  rcases Int.lt_or_gt_of_ne hne with c | c
  · have := ho.1 u.p.toNat v.p.toNat (by omega) (by omega) (by rw [Int.toNat_of_nonneg h0.1, Int.toNat_of_nonneg h1.1]; exact hd)
    rw [Int.toNat_of_nonneg h0.1, Int.toNat_of_nonneg h1.1] at this
    exact proj_swap_ne (both_iff.2 (.inl rfl)) (both_iff.2 (.inr rfl)) hu.2 hv.2 hne hok' hl this
  · have := ho.1 v.p.toNat u.p.toNat (by omega) (by omega) (by rw [Int.toNat_of_nonneg h0.1, Int.toNat_of_nonneg h1.1, depV8_symm]; exact hd)
    rw [Int.toNat_of_nonneg h0.1, Int.toNat_of_nonneg h1.1] at this
    exact proj_swap_ne (both_iff.2 (.inr rfl)) (both_iff.2 (.inl rfl)) hu.2 hv.2 hne hok' hl this
/-! what a tidied row is -/
theorem tidy_adj (Y : List Rn) : (∀ r ∈ Y, okN r) → ∀ i, i + 1 < (tidyR Y).length → ((tidyR Y).getD i ⟨0, 0⟩).p ≠ ((tidyR Y).getD (i + 1) ⟨0, 0⟩).p := by
  induction Y using snoc_ind with
  | h0 => intro _ i h; simp [tidyR] at h
  | h1 Y r ih =>
    intro hY
    have ih := ih (fun x hx => hY x (List.mem_append_left _ hx))
    rw [tidyR_app1]
    by_cases c : r.n < 1
    · rw [tstep_0 c]; exact ih
    · cases e : tidyR Y with
      | nil => rw [tstep_F (R := []) c (.inl rfl)]; intro i h; simp at h
      | cons q Q =>
        rw [e] at ih
        by_cases d : q.p = r.p
        · rw [tstep_T (R := q :: Q) c (by simp) d]
          intro i h
          have := ih i (by simpa using h)
          cases i with
          | zero => exact this
          | succ i => exact this
        · rw [tstep_F (R := q :: Q) c (.inr d)]
          intro i h
          cases i with
          | zero => exact fun x => d x.symm
          | succ i => exact ih i (by simp only [List.length_cons] at h ⊢; omega)
theorem tidyV_adj {Y : List Rn} (h : ∀ r ∈ Y, okN r) {k : Nat} (hk : k + 1 < (tidyV Y).length) : ((tidyV Y).getD k ⟨0, 0⟩).p ≠ ((tidyV Y).getD (k + 1) ⟨0, 0⟩).p := by
  unfold tidyV at *
  rw [List.length_reverse] at hk
  have := tidy_adj Y h ((tidyR Y).length - 1 - (k + 1)) (by omega)
  rw [List.getD_eq_getElem?_getD, List.getD_eq_getElem?_getD, List.getElem?_reverse (by omega), List.getElem?_reverse (by omega)]
  rw [show (tidyR Y).length - 1 - k = (tidyR Y).length - 1 - (k + 1) + 1 by omega, ← List.getD_eq_getElem?_getD, ← List.getD_eq_getElem?_getD]
  exact fun c => this c.symm
theorem tidyR_part (P : Int → Prop) (Y : List Rn) : (∀ r ∈ Y, P r.p) → ∀ q ∈ tidyR Y, P q.p := by
  induction Y using snoc_ind with
  | h0 => intro _ q h; cases h
  | h1 Y r ih =>
    intro hY q hq
    have ih := ih (fun x hx => hY x (List.mem_append_left _ hx))
    have hr := hY r (by simp)
    rw [tidyR_app1] at hq
    unfold tstep at hq
    split at hq
    · exact ih q hq
    · cases e : tidyR Y with
      | nil => rw [e] at hq; rw [List.mem_singleton.1 hq]; exact hr
      | cons z Z =>
        rw [e] at hq ih
        have hq : q ∈ (if z.p = r.p then ⟨z.p, sadd z.n r.n⟩ :: Z else r :: z :: Z) := hq
        split at hq
        · rcases List.mem_cons.1 hq with rfl | h
          · exact ih z (List.mem_cons_self ..)
          · exact ih q (List.mem_cons_of_mem _ h)
        · rcases List.mem_cons.1 hq with rfl | h
          · exact hr
          · exact ih q h
theorem tidyV_part {P : Int → Prop} {Y : List Rn} (h : ∀ r ∈ Y, P r.p) : ∀ q ∈ tidyV Y, P q.p := fun q hq => tidyR_part P Y h q (List.mem_reverse.1 hq)
theorem word_small {m : Nat} : ∀ (l : List Rn), (∀ r ∈ l, r.n ≤ (m : Int)) → (word l).length ≤ m * l.length
  | [], _ => Nat.zero_le _
  | r :: l, h => by
    have ih := word_small l (fun x hx => h x (List.mem_cons_of_mem _ hx))
    have hr := h r (List.mem_cons_self ..)
    rw [word_cons, List.length_append, List.length_replicate, List.length_cons, Nat.mul_add]
    omega
end Go.AM.PL
