/- Contracts of the functions that the statement reaches. No condition. -/
import Derived.Test.YtomglcfneeelgaaPL17
set_option linter.all false
set_option maxRecDepth 10000
namespace Go.AM.PL
/-! two rows of rows, one by one -/
end Go.AM.PL
namespace Go.AM.PL
end Go.AM.PL
