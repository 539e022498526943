/- Contracts of the functions that the statement reaches. No condition. -/
import Derived.Test.YtomglcfneeelgaaRWa
import Derived.Test.YtomglcfneeelgaaGMb
set_option linter.all false
set_option maxRecDepth 10000
namespace Go.AM.PL
structure Lcl where
  t : Int
  p : Int
  c : Int
  o : Int
  f : Int
  v : Int
  deriving DecidableEq
def leq (x y : Lcl) : Bool := x.t == y.t && (x.p == y.p && (x.c == y.c && (x.o == y.o && (x.f == y.f && (x.v == y.v && true)))))
def wrem (n lo hi : Int) : Int := if n.tmod (hi - lo + 1) < 0 then n.tmod (hi - lo + 1) + hi - lo + 1 else n.tmod (hi - lo + 1)
def within (n lo hi : Int) : Int := if n ≥ lo ∧ n ≤ hi then n else lo + wrem n lo hi
theorem within_rng (n lo hi : Int) (h : lo ≤ hi) : lo ≤ within n lo hi ∧ within n lo hi ≤ hi := by
  have h1 := Int.tmod_lt_of_pos n (show 0 < hi - lo + 1 by omega)
  have h2 := Int.lt_tmod_of_pos n (show 0 < hi - lo + 1 by omega)
  unfold within wrem
  split
  · omega
  · split <;> omega
structure Rn where
  p : Int
  n : Int
def encN (x : Rn) : List GV := [.v (.int .i64 x.p), .v (.int .i64 x.n)]
def tot : List Rn → Int
  | [] => 0
  | r :: l => r.n + tot l
def encK (n : Int) : List GV := [.v (.int .i64 n)]
end Go.AM.PL
