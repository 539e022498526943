/- Contracts of the functions that the statement reaches. No condition. -/
import Derived.Test.YtffhonjjccndpaaPLo
set_option linter.all false
set_option maxRecDepth 10000
namespace Go.AM.PL
end Go.AM.PL
