/- Contracts of the functions that the statement reaches. No condition. -/
import Derived.Test.YtomglcfneeelgaaPLg
import Derived.Test.YtomglcfneeelgaaGMc
import Derived.Test.YtomglcfneeelgaaPL1b
set_option linter.all false
set_option maxRecDepth 10000
namespace Go.AM.PL
structure Ch where
  fr : Int
  to : Int
  q : Bool
  cap : Int
  max : Int
  late : Int
  deriving DecidableEq
def encC (c : Ch) : List GV := [.v (.int .i64 c.fr), .v (.int .i64 c.to), .v (.bool c.q), .v (.int .i64 c.cap), .v (.int .u32 c.max), .v (.int .i64 c.late)]
def encU (n : Int) : List GV := [.v (.int .u32 n)]
theorem gd17 {α : Type} {l : List α} {i : Nat} (d : α) (h : i < l.length) : l[i]? = some (l.getD i d) := by
  rw [List.getD_eq_getElem?_getD, List.getElem?_eq_getElem h]; rfl
def isC (C : List Ch) (i : Int) : Prop := 0 ≤ i ∧ i < (C.length : Int)
instance (C : List Ch) (i : Int) : Decidable (isC C i) := by unfold isC; infer_instance
end Go.AM.PL
namespace Go.AM.PL
section
variable {C : List Ch} {S : List (List Int)} {q : Nat} {n : Int}
end
end Go.AM.PL
namespace Go.AM.PL
end Go.AM.PL
