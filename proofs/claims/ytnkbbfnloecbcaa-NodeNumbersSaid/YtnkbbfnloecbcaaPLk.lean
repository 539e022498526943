/- Contracts of the functions that the statement reaches. No condition. -/
import Derived.Test.YtnkbbfnloecbcaaRWa
import Derived.Test.YtnkbbfnloecbcaaGMb
import Derived.Test.YtnkbbfnloecbcaaGMc
set_option linter.all false
set_option maxRecDepth 10000
namespace Go.AM.PL
structure Lcl where
 t : Int
 p : Int
 c : Int
 o : Int
 f : Int
 v : Int
 deriving DecidableEq
def leq (x y : Lcl) : Bool := x.t == y.t && (x.p == y.p && (x.c == y.c && (x.o == y.o && (x.f == y.f && (x.v == y.v && true)))))
def wrem (n lo hi : Int) : Int := if n.tmod (hi - lo + 1) < 0 then n.tmod (hi - lo + 1) + hi - lo + 1 else n.tmod (hi - lo + 1)
def within (n lo hi : Int) : Int := if n ≥ lo ∧ n ≤ hi then n else lo + wrem n lo hi
theorem within_rng (n lo hi : Int) (h : lo ≤ hi) : lo ≤ within n lo hi ∧ within n lo hi ≤ hi := by
 have h1 := Int.tmod_lt_of_pos n (show 0 < hi - lo + 1 by omega)
 have h2 := Int.lt_tmod_of_pos n (show 0 < hi - lo + 1 by omega)
 unfold within wrem
 split
 ·omega
 ·split <;> omega
structure Rn where
 p : Int
 n : Int
def tot : List Rn → Int
 | [] => 0
 | r :: l => r.n + tot l
def encK (n : Int) : List GV := [.v (.int .i64 n)]
end Go.AM.PL
set_option linter.all false
set_option maxRecDepth 10000
namespace Go.AM.PL
def i64 (n : Int) : Prop := -2 ^ 63 ≤ n ∧ n < 2 ^ 63
def nx (t : List Int) (a : Nat) (n : Int) : Int := if a < t.length ∧ 1 ≤ n then (within (t.getD a 0) 0 1073741824) % n else 0
def na (t : List Int) (a : Nat) (n : Int) : Nat := if a < t.length ∧ 1 ≤ n then a + 1 else a
theorem na_le {t : List Int} {a : Nat} {n : Int} (h : a ≤ t.length) : na t a n ≤ t.length := by unfold na; split <;> omega
theorem nx_rng (t : List Int) (a : Nat) (n : Int) : 0 ≤ nx t a n ∧ (1 ≤ n → nx t a n < n) ∧ nx t a n ≤ 1073741824 := by
 unfold nx
 split
 ·rename_i h
  have h1 := Int.emod_nonneg (within (t.getD a 0) 0 1073741824) (show n ≠ 0 by omega)
  have h2 := Int.emod_lt_of_pos (within (t.getD a 0) 0 1073741824) (show 0 < n by omega)
  have h3 := within_rng (t.getD a 0) 0 1073741824 (by decide)
  have h4 : within (t.getD a 0) 0 1073741824 % n ≤ within (t.getD a 0) 0 1073741824 := by rw [Int.emod_def]; have := Int.mul_nonneg (show 0 ≤ n by omega) (Int.ediv_nonneg h3.1 (show 0 ≤ n by omega)); omega
  omega
 ·omega
def tbox (t : List Int) (a : Nat) : GBlk := .box [.fsl 1 (t.map encK), .v (.int .i64 a)]
theorem foldl_take {α β : Type} (f : β → α → β) (z : β) {l : List α} {i : Nat} (h : i < l.length) : (l.take (i + 1)).foldl f z = f ((l.take i).foldl f z) l[i] := by
 rw [List.take_succ_eq_append_getElem h, List.foldl_append]; rfl
theorem take_all {α : Type} {l : List α} {i : Nat} (h : l.length ≤ i) : l.take i = l := List.take_of_length_le h
def sadd (a b : Int) : Int := if max a 0 > 9223372036854775807 - max b 0 then 9223372036854775807 else max a 0 + max b 0
def okN (r : Rn) : Prop := i64 r.p ∧ i64 r.n
theorem nil1 {A : AProg} {f w : Nat} {vs : List GV} {P : GHp} {K : GV → GHp → Prop} (hc : WpCallG A f (.fsl w [] :: vs) P K) : WpCallG A f (.v (.slice none 0 0) :: vs) P K := fun Z om as H hr hv => by
 cases hv with
 | cons h k => obtain rfl := h.v_inv; exact hc Z om _ H hr (.cons (.pure .fnil) k)
end Go.AM.PL
set_option linter.all false
set_option maxRecDepth 10000
namespace Go.AM.PL
theorem take_stepG {α : Type} {xs ys : List α} {i : Nat} (h1 : i < xs.length) (h2 : i < ys.length) (h : xs.take i = ys.take i) : xs.take (i + 1) = ys.take (i + 1) ↔ xs[i] = ys[i] := by
 rw [List.take_succ_eq_append_getElem h1, List.take_succ_eq_append_getElem h2, h]
 constructor
 ·intro e; exact List.cons.inj (List.append_cancel_left e) |>.1
 ·intro e; rw [e]
theorem take_allG {α : Type} {l : List α} {i : Nat} (h : l.length ≤ i) : l.take i = l := List.take_of_length_le h
end Go.AM.PL
set_option linter.all false
set_option maxRecDepth 10000
namespace Go.AM.PL
end Go.AM.PL
set_option linter.all false
set_option maxRecDepth 10000
namespace Go.AM.PL
theorem within_nat1 (n : Int) (k : Nat) : ∃ p : Nat, within n 0 (k : Int) = (p : Int) ∧ p ≤ k := by
 have h := within_rng n 0 (k : Int) (by omega)
 exact ⟨(within n 0 (k : Int)).toNat, by omega, by omega⟩
end Go.AM.PL
set_option linter.all false
set_option maxRecDepth 10000
namespace Go.AM.PL
theorem wrap64_id {x : Int} (h : i64 x) : IntKind.i64.wrap x = x := by
 unfold i64 at h; rw [IntKind.wrap_i64]; omega
def val (l : List UInt8) : Nat := l.foldl (fun u b => u * 256 + b.toNat) 0
end Go.AM.PL
