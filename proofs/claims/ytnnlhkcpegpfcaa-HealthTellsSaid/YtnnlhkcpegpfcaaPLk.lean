/- Contracts of the functions that the statement reaches. No condition. -/
import Derived.Test.YtnnlhkcpegpfcaaRWa
import Derived.Test.YtnnlhkcpegpfcaaGMb
import Derived.Test.YtnnlhkcpegpfcaaGMc
set_option linter.all false
set_option maxRecDepth 10000
namespace Go.AM.PL
structure Lcl where
 t : Int
 p : Int
 c : Int
 o : Int
 f : Int
 v : Int
 deriving DecidableEq
def leq (x y : Lcl) : Bool := x.t == y.t && (x.p == y.p && (x.c == y.c && (x.o == y.o && (x.f == y.f && (x.v == y.v && true)))))
structure Rn where
 p : Int
 n : Int
def tot : List Rn → Int
 | [] => 0
 | r :: l => r.n + tot l
def encK (n : Int) : List GV := [.v (.int .i64 n)]
end Go.AM.PL
set_option linter.all false
set_option maxRecDepth 10000
namespace Go.AM.PL
def i64 (n : Int) : Prop := -2 ^ 63 ≤ n ∧ n < 2 ^ 63
def sadd (a b : Int) : Int := if max a 0 > 9223372036854775807 - max b 0 then 9223372036854775807 else max a 0 + max b 0
end Go.AM.PL
set_option linter.all false
set_option maxRecDepth 10000
namespace Go.AM.PL
end Go.AM.PL
set_option linter.all false
set_option maxRecDepth 10000
namespace Go.AM.PL
def I32 (c : BitVec 32) : Int := (c.toNat : Int)
end Go.AM.PL
set_option linter.all false
set_option maxRecDepth 10000
namespace Go.AM.PL
def ts (T : BitVec 32) (i : Nat) : UInt8 := b8 ((I32 T).fdiv (2 ^ (min (8 * (i : Int)).toNat 32)))
end Go.AM.PL
set_option linter.all false
set_option maxRecDepth 10000
namespace Go.AM.PL
def val (l : List UInt8) : Nat := l.foldl (fun u b => u * 256 + b.toNat) 0
end Go.AM.PL
