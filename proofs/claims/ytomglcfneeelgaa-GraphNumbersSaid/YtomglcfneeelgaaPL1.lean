/- Contracts of the functions that the statement reaches. No condition. -/
import Derived.Test.YtomglcfneeelgaaPLg
import Derived.Test.YtomglcfneeelgaaPLb
set_option linter.all false
set_option maxRecDepth 10000
namespace Go.AM.PL
def I32 (c : BitVec 32) : Int := (c.toNat : Int)
end Go.AM.PL
