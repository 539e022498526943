/- Contracts of the functions that the statement reaches. No condition. -/
import Derived.Test.YtabhoinefficpaaRWa
import Derived.Test.YtabhoinefficpaaGMc
set_option linter.all false
set_option maxRecDepth 10000
namespace Go.AM.PL
theorem flat_snoc {α : Type} (rows : List (List α)) (i : Nat) (h : i < rows.length) : (rows.take (i + 1)).flatten = (rows.take i).flatten ++ rows[i] := by
  rw [List.take_succ_eq_append_getElem h, List.flatten_append]; simp
def lens {α : Type} (rows : List (List α)) : Nat := rows.flatten.length
theorem lens_take {α : Type} (rows : List (List α)) (i : Nat) : lens (rows.take i) ≤ lens rows := by
  unfold lens
  have : rows.flatten = (rows.take i).flatten ++ (rows.drop i).flatten := by rw [← List.flatten_append, List.take_append_drop]
  rw [this, List.length_append]; omega
theorem lens_step {α : Type} (rows : List (List α)) (i : Nat) (h : i < rows.length) : lens (rows.take (i + 1)) = lens (rows.take i) + rows[i].length := by
  unfold lens; rw [flat_snoc _ _ h, List.length_append]
theorem take_stepG {α : Type} {xs ys : List α} {i : Nat} (h1 : i < xs.length) (h2 : i < ys.length) (h : xs.take i = ys.take i) : xs.take (i + 1) = ys.take (i + 1) ↔ xs[i] = ys[i] := by
  rw [List.take_succ_eq_append_getElem h1, List.take_succ_eq_append_getElem h2, h]
  constructor
  · intro e; exact List.cons.inj (List.append_cancel_left e) |>.1
  · intro e; rw [e]
theorem take_allG {α : Type} {l : List α} {i : Nat} (h : l.length ≤ i) : l.take i = l := List.take_of_length_le h

end Go.AM.PL
