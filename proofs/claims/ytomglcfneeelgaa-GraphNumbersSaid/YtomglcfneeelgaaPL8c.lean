/- Contracts of the functions that the statement reaches. No condition. -/
import Derived.Test.YtomglcfneeelgaaPL8b
import Derived.Test.YtomglcfneeelgaaPL1b
set_option linter.all false
set_option maxRecDepth 10000
namespace Go.AM.PL
section
variable (a b : List Rn) (dep : List (List Bool))
def okP : Prop := (∀ x y : Nat, x ≤ y → y < 6 → depV8 dep x y = true → projV a x y = projV b x y) ∧ tickV a (-1) = tickV b (-1)
end
section
variable {a b c : List Rn} {dep all : List (List Bool)}
theorem okP.refl : okP a a dep := ⟨fun _ _ _ _ _ => rfl, rfl⟩
theorem okP.symm (h : okP a b dep) : okP b a dep := ⟨fun x y h1 h2 h3 => (h.1 x y h1 h2 h3).symm, h.2.symm⟩
theorem okP.trans (h : okP a b dep) (k : okP b c dep) : okP a c dep := ⟨fun x y h1 h2 h3 => (h.1 x y h1 h2 h3).trans (k.1 x y h1 h2 h3), h.2.trans k.2⟩
theorem okP.mono (h : okP a b all) (k : ∀ x y : Nat, depV8 dep x y = true → depV8 all x y = true) : okP a b dep := ⟨fun x y h1 h2 h3 => h.1 x y h1 h2 (k x y h3), h.2⟩
end
/-! a row that is tidied is the same to all -/
/-! two runs side by side turned about -/
/-! the word of a row -/
def word (l : List Rn) : List Int := l.flatMap fun r => List.replicate r.n.toNat r.p
theorem word_app (A B : List Rn) : word (A ++ B) = word A ++ word B := List.flatMap_append
theorem word_cons (r : Rn) (B : List Rn) : word (r :: B) = List.replicate r.n.toNat r.p ++ word B := rfl
theorem word_tidy (Y : List Rn) : (∀ r ∈ Y, okN r) → (word Y).length < 2 ^ 62 → word (tidyV Y) = word Y := by
  induction Y using snoc_ind with
  | h0 => intro _ _; rfl
  | h1 Y r ih =>
    intro hY hl
    have hYo : ∀ x ∈ Y, okN x := fun x hx => hY x (List.mem_append_left _ hx)
    rw [word_app] at hl ⊢
    have hl2 : (word Y).length + r.n.toNat < 2 ^ 62 := by
      rw [List.length_append, word_cons] at hl
      simp only [List.length_append, List.length_replicate] at hl
      omega
    have ih := ih hYo (by omega)
    have hq := tidyR_ok Y hYo
    have hwr : word [r] = List.replicate r.n.toNat r.p := by rw [word_cons]; exact List.append_nil _
    rw [hwr]
    unfold tidyV
    rw [tidyR_app1]
    by_cases c : r.n < 1
    · rw [tstep_0 c, show r.n.toNat = 0 by omega]
      show word (tidyV Y) = _
      rw [ih]; simp
    · by_cases d : 0 < (tidyR Y).length ∧ (hdR (tidyR Y)).p = r.p
      · rw [tstep_T c d.1 d.2]
        unfold tidyV at ih
        cases e : tidyR Y with
        | nil => rw [e] at d; simp at d
        | cons q Q =>
          rw [e] at d ih hq
          have hd : q.p = r.p := d.2
          have hqn := (hq q (List.mem_cons_self ..)).2
          rw [List.reverse_cons, word_app] at ih
          have hqw : word [q] = List.replicate q.n.toNat q.p := by rw [word_cons]; exact List.append_nil _
          rw [hqw] at ih
          have hql : q.n.toNat ≤ (word Y).length := by rw [← ih]; simp
          have hs : sadd q.n r.n = q.n + r.n := by unfold sadd; rw [if_neg (by omega)]; omega
          show word (⟨q.p, sadd q.n r.n⟩ :: Q).reverse = _
          rw [List.reverse_cons, word_app, hs]
          have h3 : word [⟨q.p, q.n + r.n⟩] = List.replicate q.n.toNat q.p ++ List.replicate r.n.toNat r.p := by
            rw [word_cons]
            show List.replicate (q.n + r.n).toNat q.p ++ [] = _
            rw [List.append_nil, show (q.n + r.n).toNat = q.n.toNat + r.n.toNat by omega, ← List.replicate_append_replicate, ← hd]
          rw [h3, ← List.append_assoc, ih]
      · rw [tstep_F c (by by_cases z : (tidyR Y).length = 0
                          · exact .inl z
                          · exact .inr (fun h => d ⟨by omega, h⟩)), List.reverse_cons, word_app, hwr]
        show word (tidyV Y) ++ _ = _
        rw [ih]
/-! what a tidied row is -/
end Go.AM.PL
