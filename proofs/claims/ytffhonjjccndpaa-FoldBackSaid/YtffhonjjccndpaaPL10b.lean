/- Contracts of the functions that the statement reaches. No condition. -/
import Derived.Test.YtffhonjjccndpaaPL10
set_option linter.all false
set_option maxRecDepth 10000
namespace Go.AM.PL
theorem wlen_nil : wlen [] = 0 := by unfold wlen; simp [word]
theorem tidy_idem {Y : List Rn} (h : ∀ r ∈ Y, okN r) : tidyV (tidyV Y) = tidyV Y := by
 have := fold_tidy [] Y h
 unfold tidyV at *
 exact congrArg List.reverse this
section
variable {l : List Rn} {dep : List (List Bool)}
end
end Go.AM.PL
