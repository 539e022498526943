/- Contracts of the functions that the statement reaches. No condition. -/
import Derived.Test.YthmcocmhalhbfaaPL10
set_option linter.all false
set_option maxRecDepth 10000
namespace Go.AM.PL
section
variable {l : List Rn} {dep : List (List Bool)}
end
theorem runs_wlen {l : List Rn} {p : Int} (h : ∀ r ∈ l, okT p r) (hn : l.length ≤ 16) : wlen l ≤ 8192 := by
 have h2 := word_small (m := 4) l fun r hr => (h r hr).2.2.2
 unfold wlen; omega
end Go.AM.PL
