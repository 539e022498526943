/- Contracts of the functions that the statement reaches. No condition. -/
import Derived.Test.YtomglcfneeelgaaPL9c
set_option linter.all false
set_option maxRecDepth 10000
namespace Go.AM.PL
def zP : Pt := ⟨ByteArray.empty, 0, 0, false, false, 0, 0, 0, 0, 0⟩
def zP3 : List Pt := [zP, zP, zP]
section
variable {l : List Rn} (h : ∀ r ∈ l, 1 ≤ r.n) (k : Nat)
include h
end
section
variable {l : List Rn} {p q v : Int}
end
end Go.AM.PL
