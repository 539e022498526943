/- Contracts of the functions that the statement reaches. No condition. -/
import Derived.Test.YtomglcfneeelgaaPL8d
set_option linter.all false
set_option maxRecDepth 10000
namespace Go.AM.PL
/-! what is turned about step by step -/
end Go.AM.PL
namespace Go.AM.PL
def tapeL (c k n : Nat) : List Int := (List.range n).map fun i : Nat => ((i : Int) * i * 7 + (k : Int) * c + (i : Int) * k) % 211
theorem tapeL_snoc {c k i : Nat} : tapeL c k (i + 1) = tapeL c k i ++ [((i : Int) * i * 7 + (k : Int) * c + (i : Int) * k) % 211] := by unfold tapeL; rw [List.range_succ, List.map_append]; rfl
theorem tapeL_len {c k n : Nat} : (tapeL c k n).length = n := by unfold tapeL; simp
theorem tapeL_i64 {c k n : Nat} : ∀ x ∈ tapeL c k n, i64 x := fun x hx => by
  unfold tapeL at hx
  obtain ⟨i, _, rfl⟩ := List.mem_map.1 hx
  unfold i64; omega
theorem mul_le' {a b : Nat} {m n : Int} (h1 : (a : Int) ≤ m) (h2 : (b : Int) ≤ n) : 0 ≤ (a : Int) * b ∧ (a : Int) * b ≤ m * n := by
  have := Int.mul_le_mul h1 h2 (by omega) (by omega)
  have h3 := Int.mul_nonneg (show 0 ≤ (a : Int) by omega) (show 0 ≤ (b : Int) by omega)
  exact ⟨h3, this⟩
end Go.AM.PL
namespace Go.AM.PL
end Go.AM.PL
namespace Go.AM.PL
end Go.AM.PL
