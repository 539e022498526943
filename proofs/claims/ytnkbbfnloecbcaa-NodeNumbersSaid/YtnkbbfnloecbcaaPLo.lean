/- Contracts of the functions that the statement reaches. No condition. -/
import Derived.Test.YtnkbbfnloecbcaaPLn
import Derived.Test.YtnkbbfnloecbcaaPLm
set_option linter.all false
set_option maxRecDepth 10000
namespace Go.AM.PL
theorem cnt_le {l : List Rn} (h : ∀ r ∈ l, 1 ≤ r.n) (p : Int) : 0 ≤ cnt (spV p 0 l) ∧ cnt (spV p 0 l) ≤ wlen l := by
 have := cnt_rng (a := 0) (sp_rising p l 0 h); omega
/-! what is asked -/
end Go.AM.PL
namespace Go.AM.PL
end Go.AM.PL
namespace Go.AM.PL
end Go.AM.PL
namespace Go.AM.PL
end Go.AM.PL
set_option linter.all false
set_option maxRecDepth 10000
namespace Go.AM.PL
section
variable {l : List Rn} (h : ∀ r ∈ l, 1 ≤ r.n) (k : Nat)
include h
end
section
variable {l : List Rn} {p q v : Int}
end
end Go.AM.PL
set_option linter.all false
set_option maxRecDepth 10000
namespace Go.AM.PL
/-! square tables that are filled row by row -/
/-! who depends, who sways -/
/-! what goes on over others -/
end Go.AM.PL
set_option linter.all false
set_option maxRecDepth 10000
namespace Go.AM.PL
namespace Fo
theorem one_kid {ks : Fo} (h : ks.cnt = 1) : ∃ y js, ks = one y js := by
 cases ks with
 | nil => cases h
 | cons y js r =>
   have h0 : (cons y js r).cnt = 1 + r.cnt := rfl
   have := cnt_zero (f := r) (by omega)
   subst this
   exact ⟨y, js, rfl⟩
end Fo
end Go.AM.PL
set_option linter.all false
set_option maxRecDepth 10000
namespace Go.AM.PL
namespace Fo
end Fo
end Go.AM.PL
set_option linter.all false
set_option maxRecDepth 10000
namespace Go.AM.PL
end Go.AM.PL
set_option linter.all false
set_option maxRecDepth 10000
namespace Go.AM.PL
section
variable {w : List Int} {p q : Int} {t v : Nat}
end
section
variable {l : List Rn} {p q : Int}
end
end Go.AM.PL
