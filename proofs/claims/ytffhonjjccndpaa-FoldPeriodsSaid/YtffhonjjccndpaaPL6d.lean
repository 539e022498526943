/- Contracts of the functions that the statement reaches. No condition. -/
import Derived.Test.YtffhonjjccndpaaPL6c
set_option linter.all false
set_option maxRecDepth 10000
namespace Go.AM.PL
theorem or3_true {A P N L : Int} (h : N = 0 ∨ (A + P * N ≤ L ∧ 2 ≤ N)) : ((decide (L < 3) || (N == 0)) || (decide (A + P * N ≤ L) && decide (N ≥ 2))) = true := by
 rcases h with rfl | h
 ·simp
 ·rw [decide_eq_true h.1, decide_eq_true (show N ≥ 2 from h.2)]; simp
theorem mod_i {a b : Nat} (h : a % b = 0) : (a : Int) % (b : Int) = 0 := by rw [← Int.natCast_emod, h]; rfl
theorem per_row {L : List Rn} (hl : 1 ≤ L.length) (hl8 : L.length ≤ 8) {n : Int} {m : Nat} (hn : 0 < n) (h : againOk [] L n m) : 1 ≤ m ∧ m * L.length < 90 := by
 have h1 := h.2.2 hn (by simp only [List.length_nil]; omega)
 refine ⟨h1, ?_⟩
 rcases h.2.1 with e | e
 ·omega
 ·simpa using e
def k6t : List Nd := [⟨4, 0, 3⟩, ⟨3, 0, 2⟩, ⟨1, 0, 1⟩, ⟨1, 1, 1⟩]
end Go.AM.PL
