/- Contracts of the functions that the statement reaches. No condition. -/
import Derived.Test.YtomglcfneeelgaaPL1
set_option linter.all false
set_option maxRecDepth 10000
namespace Go.AM.PL
def ts (T : BitVec 32) (i : Nat) : UInt8 := b8 ((I32 T).fdiv (2 ^ (min (8 * (i : Int)).toNat 32)))
end Go.AM.PL
