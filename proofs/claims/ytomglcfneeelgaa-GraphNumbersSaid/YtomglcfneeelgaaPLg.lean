/- Contracts of the functions that the statement reaches. No condition. -/
import Derived.Test.YtomglcfneeelgaaRWa
import Derived.Test.YtomglcfneeelgaaGMc
set_option linter.all false
set_option maxRecDepth 10000
namespace Go.AM.PL
theorem take_stepG {α : Type} {xs ys : List α} {i : Nat} (h1 : i < xs.length) (h2 : i < ys.length) (h : xs.take i = ys.take i) : xs.take (i + 1) = ys.take (i + 1) ↔ xs[i] = ys[i] := by
  rw [List.take_succ_eq_append_getElem h1, List.take_succ_eq_append_getElem h2, h]
  constructor
  · intro e; exact List.cons.inj (List.append_cancel_left e) |>.1
  · intro e; rw [e]
theorem take_allG {α : Type} {l : List α} {i : Nat} (h : l.length ≤ i) : l.take i = l := List.take_of_length_le h
end Go.AM.PL
