/- Contracts of the functions that the statement reaches. No condition. -/
import Derived.Test.YtkcacljpghfiaaaRWa
import Derived.Test.YtkcacljpghfiaaaGMb
import Derived.Test.YtkcacljpghfiaaaGMc
set_option linter.all false
set_option maxRecDepth 10000
namespace Go.AM.PL
structure Lcl where
 t : Int
 p : Int
 c : Int
 o : Int
 f : Int
 v : Int
 deriving DecidableEq
def leq (x y : Lcl) : Bool := x.t == y.t && (x.p == y.p && (x.c == y.c && (x.o == y.o && (x.f == y.f && (x.v == y.v && true)))))
structure Rn where
 p : Int
 n : Int
def tot : List Rn → Int
 | [] => 0
 | r :: l => r.n + tot l
def encK (n : Int) : List GV := [.v (.int .i64 n)]
end Go.AM.PL
set_option linter.all false
set_option maxRecDepth 10000
namespace Go.AM.PL
def i64 (n : Int) : Prop := -2 ^ 63 ≤ n ∧ n < 2 ^ 63
def sadd (a b : Int) : Int := if max a 0 > 9223372036854775807 - max b 0 then 9223372036854775807 else max a 0 + max b 0
theorem nil1 {A : AProg} {f w : Nat} {vs : List GV} {P : GHp} {K : GV → GHp → Prop} (hc : WpCallG A f (.fsl w [] :: vs) P K) : WpCallG A f (.v (.slice none 0 0) :: vs) P K := fun Z om as H hr hv => by
 cases hv with
 | cons h k => obtain rfl := h.v_inv; exact hc Z om _ H hr (.cons (.pure .fnil) k)
theorem nil2 {A : AProg} {f w : Nat} {v : GV} {vs : List GV} {P : GHp} {K : GV → GHp → Prop} (hc : WpCallG A f (v :: .fsl w [] :: vs) P K) : WpCallG A f (v :: .v (.slice none 0 0) :: vs) P K := fun Z om as H hr hv => by
 cases hv with
 | cons h k => cases k with
   | cons h' k => obtain rfl := h'.v_inv; exact hc Z om _ H hr (.cons h (.cons (.pure .fnil) k))
end Go.AM.PL
set_option linter.all false
set_option maxRecDepth 10000
namespace Go.AM.PL
end Go.AM.PL
set_option linter.all false
set_option maxRecDepth 10000
namespace Go.AM.PL
end Go.AM.PL
set_option linter.all false
set_option maxRecDepth 10000
namespace Go.AM.PL
end Go.AM.PL
set_option linter.all false
set_option maxRecDepth 10000
namespace Go.AM.PL
def val (l : List UInt8) : Nat := l.foldl (fun u b => u * 256 + b.toNat) 0
end Go.AM.PL
