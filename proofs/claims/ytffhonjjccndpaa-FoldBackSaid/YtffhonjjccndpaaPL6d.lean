/- Contracts of the functions that the statement reaches. No condition. -/
import Derived.Test.YtffhonjjccndpaaPL6c
set_option linter.all false
set_option maxRecDepth 10000
namespace Go.AM.PL
theorem okT_okN {p : Int} (hp : p ≤ 2 ^ 40) {l : List Rn} (h : ∀ r ∈ l, okT p r) : ∀ r ∈ l, okN r := fun r hr => by
 have := h r hr
 unfold okT at this
 unfold okN i64; omega
theorem back_row {A L : List Rn} (hA : ∀ r ∈ A, okT 3 r) (hL : ∀ r ∈ L, okT 3 r) (hA6 : A.length ≤ 6) (hL6 : L.length ≤ 6) {n : Int} {m : Nat} (h : againOk A L n m) : (∀ r ∈ A ++ repR m L ++ A, okN r) ∧ (A ++ repR m L ++ A).length ≤ 110 := by
 have h1 := okT_okN (by decide) hA
 have h2 := okT_okN (by decide) hL
 refine ⟨fun r hr => ?_, ?_⟩
 ·rcases List.mem_append.1 hr with hr | hr
  ·rcases List.mem_append.1 hr with hr | hr
   ·exact h1 r hr
   ·exact h2 r (repR_mem m hr)
  ·exact h1 r hr
 ·rw [List.length_append, List.length_append, repR_len]
  rcases h.2.1 with e | e
  ·rw [e, Nat.zero_mul]; omega
  ·omega
def k6t : List Nd := [⟨4, 0, 3⟩, ⟨3, 0, 2⟩, ⟨1, 0, 1⟩, ⟨1, 1, 1⟩]
end Go.AM.PL
