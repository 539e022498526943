/- Contracts of the functions that the statement reaches. No condition. -/
import Derived.Test.YtffhonjjccndpaaPLo
set_option linter.all false
set_option maxRecDepth 10000
namespace Go.AM.PL
structure Pc where
 p : Pt
 pr : List Sp
def encTb (t : List Nd) : List GV := [.fsl 3 (t.map encD)]
def parts (X : List Pc) : List Pt := X.map (·.p)
def hs5 (c : Pc) : List Int := [c.p.h0, c.p.h1, c.p.h2, c.p.h3, c.p.h4]
end Go.AM.PL
set_option linter.all false
set_option maxRecDepth 10000
namespace Go.AM.PL
section
variable {rs : List (List Rn)} {n : Int} {C : List Ch} {X : List Pc}
end
end Go.AM.PL
set_option linter.all false
set_option maxRecDepth 10000
namespace Go.AM.PL
end Go.AM.PL
set_option linter.all false
set_option maxRecDepth 10000
namespace Go.AM.PL
section
variable {P : List Pt} {C : List Ch} {n : Nat} {f g : Nat → Nat → Bool} {x : Ch}
end
/-! with a channel more -/
section
variable {P : List Pt} {C : List Ch} {ch : Ch}
end
section
variable {F : Nat → Bool} {now : List Nat} {j : Nat}
end
end Go.AM.PL
namespace Go.AM.PL
end Go.AM.PL
namespace Go.AM.PL
end Go.AM.PL
namespace Go.AM.PL
end Go.AM.PL
