/- Contracts of the functions that the statement reaches. No condition. -/
import Derived.Test.YtnnlhkcpegpfcaaPLk
set_option linter.all false
set_option maxRecDepth 10000
namespace Go.AM.PL
structure Nd where
 k : Int
 p : Int
 n : Int
deriving DecidableEq
structure Fm where
 x : Nd
 left : Int
 dep : Int
 tot : Int
def kidV (x : Nd) : Int :=
 if x.n < 1 ∨ (x.k ≠ 1 ∧ x.p ≠ 0) then -1
 else if (x.k = 1 ∧ 0 ≤ x.p ∧ x.p < 6) ∨ x.k = 2 then 0
 else if x.k = 3 ∧ x.n ≤ 128 then x.n
 else if x.k = 4 then 1 else -1
def timV (a b : Int) : Int := min 4097 (IntKind.i64.wrap (min 4097 a * b))
def addV (a b : Int) : Int := min 4097 (IntKind.i64.wrap (a + min 4097 b))
def pop1 (F G : Fm) : Fm := ⟨G.x, IntKind.i64.wrap (G.left - 1), max G.dep (IntKind.i64.wrap (F.dep + 1)), addV G.tot (if F.x.k = 4 then timV F.x.n F.tot else F.tot)⟩
def settleF : Fm → List Fm → Fm × List Fm
 | F, [] => (F, [])
 | F, G :: S => if F.left = 0 then settleF (pop1 F G) S else (F, G :: S)
def mk (x : Nd) : Fm := ⟨x, kidV x, 0, if kidV x = 0 then min 4097 x.n else 0⟩
def push (s : Fm × List Fm) (x : Nd) : Fm × List Fm := settleF (mk x) (s.1 :: s.2)
end Go.AM.PL
set_option linter.all false
set_option maxRecDepth 10000
namespace Go.AM.PL
inductive Fo where
 | nil
 | cons (x : Nd) (ks r : Fo)
namespace Fo
def cnt : Fo → Nat
 | nil => 0
 | cons _ _ r => 1 + cnt r
def ok : Fo → Prop
 | nil => True
 | cons x ks r => kidV x = cnt ks ∧ ok ks ∧ ok r
def dep : Fo → Int
 | nil => 0
 | cons _ ks r => max (1 + dep ks) (dep r)
def lenX (x : Nd) (t : Int) : Int := if x.k = 4 then min 4097 (min 4097 x.n * t) else if kidV x = 0 then min 4097 x.n else t
def tot : Fo → Int
 | nil => 0
 | cons x ks r => min 4097 (lenX x (tot ks) + tot r)
def one (x : Nd) (ks : Fo) : Fo := cons x ks nil
def upd (F : Fm) (f : Fo) : Fm := ⟨F.x, F.left - f.cnt, max F.dep f.dep, min 4097 (F.tot + f.tot)⟩
end Fo
namespace Fo
end Fo
namespace Fo
def app : Fo → Fo → Fo
 | nil, g => g
 | cons x ks r, g => cons x ks (app r g)
end Fo
namespace Fo
end Fo
namespace Fo
end Fo
namespace Fo
end Fo
namespace Fo
end Fo
namespace Fo
end Fo
namespace Fo
end Fo
end Go.AM.PL
set_option linter.all false
set_option maxRecDepth 10000
namespace Go.AM.PL
def tstep (R : List Rn) (r : Rn) : List Rn :=
 if r.n < 1 then R else match R with
 | [] => [r]
 | q :: Q => if q.p = r.p then ⟨q.p, sadd q.n r.n⟩ :: Q else r :: q :: Q
def tidyR (l : List Rn) : List Rn := l.foldl tstep []
def tidyV (l : List Rn) : List Rn := (tidyR l).reverse
def tickV (l : List Rn) (p : Int) : Int := l.foldl (fun n r => if r.p = p then sadd n r.n else n) 0
def both (a b : Int) (r : Rn) : Bool := (r.p == a) || (r.p == b)
def projV (l : List Rn) (a b : Int) : List Rn := tidyV (l.filter (both a b))
instance : DecidableEq Rn := fun x y => decidable_of_iff (x.p = y.p ∧ x.n = y.n) ⟨fun h => by cases x; cases y; simp at h; simp [h], fun h => by rw [h]; exact ⟨rfl, rfl⟩⟩
def toV (dep : List (List Bool)) (a b : Int) : Bool := ((((decide (a ≥ 0) && decide (b ≥ 0)) && decide (a < (dep.length : Int))) && decide (b < (((dep.getD a.toNat []).length : Nat) : Int))) && (dep.getD a.toNat []).getD b.toNat false)
def depV8 (dep : List (List Bool)) (a b : Int) : Bool := ((a == b) || toV dep a b) || toV dep b a
section
variable (a b : List Rn) (dep : List (List Bool))
end
end Go.AM.PL
set_option linter.all false
set_option maxRecDepth 10000
namespace Go.AM.PL
end Go.AM.PL
set_option linter.all false
set_option maxRecDepth 10000
namespace Go.AM.PL
section
variable (a b : List Rn) (dep : List (List Bool))
def okP : Prop := (∀ x y : Nat, x ≤ y → y < 6 → depV8 dep x y = true → projV a x y = projV b x y) ∧ tickV a (-1) = tickV b (-1)
end
section
variable {a b c : List Rn} {dep all : List (List Bool)}
theorem okP.refl : okP a a dep := ⟨fun _ _ _ _ _ => rfl, rfl⟩
theorem okP.symm (h : okP a b dep) : okP b a dep := ⟨fun x y h1 h2 h3 => (h.1 x y h1 h2 h3).symm, h.2.symm⟩
theorem okP.trans (h : okP a b dep) (k : okP b c dep) : okP a c dep := ⟨fun x y h1 h2 h3 => (h.1 x y h1 h2 h3).trans (k.1 x y h1 h2 h3), h.2.trans k.2⟩
theorem okP.mono (h : okP a b all) (k : ∀ x y : Nat, depV8 dep x y = true → depV8 all x y = true) : okP a b dep := ⟨fun x y h1 h2 h3 => h.1 x y h1 h2 (k x y h3), h.2⟩
end
/-! a row that is tidied is the same to all -/
/-! two runs side by side turned about -/
/-! the word of a row -/
def word (l : List Rn) : List Int := l.flatMap fun r => List.replicate r.n.toNat r.p
/-! what a tidied row is -/
end Go.AM.PL
