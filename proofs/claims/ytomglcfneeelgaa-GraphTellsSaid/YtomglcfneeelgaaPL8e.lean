/- Contracts of the functions that the statement reaches. No condition. -/
import Derived.Test.YtomglcfneeelgaaPL8d
set_option linter.all false
set_option maxRecDepth 10000
namespace Go.AM.PL
/-! what is turned about step by step -/
end Go.AM.PL
namespace Go.AM.PL
end Go.AM.PL
namespace Go.AM.PL
end Go.AM.PL
namespace Go.AM.PL
end Go.AM.PL
