/- Contracts of the functions that the statement reaches. No condition. -/
import Derived.Test.YthmcocmhalhbfaaRWa
import Derived.Test.YthmcocmhalhbfaaGMb
import Derived.Test.YthmcocmhalhbfaaGMc
set_option linter.all false
set_option maxRecDepth 10000
namespace Go.AM.PL
structure Lcl where
 t : Int
 p : Int
 c : Int
 o : Int
 f : Int
 v : Int
 deriving DecidableEq
def leq (x y : Lcl) : Bool := x.t == y.t && (x.p == y.p && (x.c == y.c && (x.o == y.o && (x.f == y.f && (x.v == y.v && true)))))
def wrem (n lo hi : Int) : Int := if n.tmod (hi - lo + 1) < 0 then n.tmod (hi - lo + 1) + hi - lo + 1 else n.tmod (hi - lo + 1)
def within (n lo hi : Int) : Int := if n ≥ lo ∧ n ≤ hi then n else lo + wrem n lo hi
theorem within_rng (n lo hi : Int) (h : lo ≤ hi) : lo ≤ within n lo hi ∧ within n lo hi ≤ hi := by
 have h1 := Int.tmod_lt_of_pos n (show 0 < hi - lo + 1 by omega)
 have h2 := Int.lt_tmod_of_pos n (show 0 < hi - lo + 1 by omega)
 unfold within wrem
 split
 ·omega
 ·split <;> omega
structure Rn where
 p : Int
 n : Int
def encN (x : Rn) : List GV := [.v (.int .i64 x.p), .v (.int .i64 x.n)]
def tot : List Rn → Int
 | [] => 0
 | r :: l => r.n + tot l
def encK (n : Int) : List GV := [.v (.int .i64 n)]
end Go.AM.PL
set_option linter.all false
set_option maxRecDepth 10000
namespace Go.AM.PL
def i64 (n : Int) : Prop := -2 ^ 63 ≤ n ∧ n < 2 ^ 63
def nx (t : List Int) (a : Nat) (n : Int) : Int := if a < t.length ∧ 1 ≤ n then (within (t.getD a 0) 0 1073741824) % n else 0
def na (t : List Int) (a : Nat) (n : Int) : Nat := if a < t.length ∧ 1 ≤ n then a + 1 else a
theorem na_le {t : List Int} {a : Nat} {n : Int} (h : a ≤ t.length) : na t a n ≤ t.length := by unfold na; split <;> omega
theorem nx_rng (t : List Int) (a : Nat) (n : Int) : 0 ≤ nx t a n ∧ (1 ≤ n → nx t a n < n) ∧ nx t a n ≤ 1073741824 := by
 unfold nx
 split
 ·rename_i h
  have h1 := Int.emod_nonneg (within (t.getD a 0) 0 1073741824) (show n ≠ 0 by omega)
  have h2 := Int.emod_lt_of_pos (within (t.getD a 0) 0 1073741824) (show 0 < n by omega)
  have h3 := within_rng (t.getD a 0) 0 1073741824 (by decide)
  have h4 : within (t.getD a 0) 0 1073741824 % n ≤ within (t.getD a 0) 0 1073741824 := by rw [Int.emod_def]; have := Int.mul_nonneg (show 0 ≤ n by omega) (Int.ediv_nonneg h3.1 (show 0 ≤ n by omega)); omega
  omega
 ·omega
def tbox (t : List Int) (a : Nat) : GBlk := .box [.fsl 1 (t.map encK), .v (.int .i64 a)]
def rgo (t : List Int) (parts : Int) : Nat → Nat → List Rn → List Rn × Nat
 | 0, a, out => (out, a)
 | k + 1, a, out => rgo t parts k (na t (na t a (parts + 1)) 4) (out ++ [⟨nx t a (parts + 1) - 1, 1 + nx t (na t a (parts + 1)) 4⟩])
def tapeRuns (t : List Int) (a : Nat) (parts most : Int) : List Rn × Nat := rgo t parts (1 + nx t a most).toNat (na t a most) []
def okT (parts : Int) (r : Rn) : Prop := -1 ≤ r.p ∧ r.p < parts ∧ 1 ≤ r.n ∧ r.n ≤ 4
theorem rgo_ok (t : List Int) (parts : Int) (hp : 0 ≤ parts) : ∀ (k a : Nat) (out : List Rn), a ≤ t.length → (∀ r ∈ out, okT parts r) → (∀ r ∈ (rgo t parts k a out).1, okT parts r) ∧ (rgo t parts k a out).1.length = out.length + k ∧ (rgo t parts k a out).2 ≤ t.length
 | 0, a, out, ha, h => ⟨h, rfl, ha⟩
 | k + 1, a, out, ha, h => by
   have ih := rgo_ok t parts hp k (na t (na t a (parts + 1)) 4) (out ++ [⟨nx t a (parts + 1) - 1, 1 + nx t (na t a (parts + 1)) 4⟩]) (na_le (na_le ha)) (fun r hr => by
    rcases List.mem_append.1 hr with h1 | h1
    ·exact h r h1
    ·rw [List.mem_singleton.1 h1]
     have h2 := nx_rng t a (parts + 1)
     have h3 := nx_rng t (na t a (parts + 1)) 4
     unfold okT
     refine ⟨?_, ?_, ?_, ?_⟩ <;> dsimp only <;> omega)
   rw [rgo]
   refine ⟨ih.1, ?_, ih.2.2⟩
   rw [ih.2.1, List.length_append]; simp only [List.length_cons, List.length_nil]; omega
theorem tapeRuns_ok (t : List Int) (a : Nat) (parts most : Int) (hp : 0 ≤ parts) (hm : 1 ≤ most) (ha : a ≤ t.length) : (∀ r ∈ (tapeRuns t a parts most).1, okT parts r) ∧ 1 ≤ (tapeRuns t a parts most).1.length ∧ ((tapeRuns t a parts most).1.length : Int) ≤ most ∧ (tapeRuns t a parts most).2 ≤ t.length := by
 have h := rgo_ok t parts hp (1 + nx t a most).toNat (na t a most) [] (na_le ha) (fun r h => by cases h)
 have h2 := nx_rng t a most
 unfold tapeRuns
 refine ⟨h.1, ?_, ?_, h.2.2⟩ <;> rw [h.2.1] <;> simp only [List.length_nil] <;> omega
theorem foldl_take {α β : Type} (f : β → α → β) (z : β) {l : List α} {i : Nat} (h : i < l.length) : (l.take (i + 1)).foldl f z = f ((l.take i).foldl f z) l[i] := by
 rw [List.take_succ_eq_append_getElem h, List.foldl_append]; rfl
theorem take_all {α : Type} {l : List α} {i : Nat} (h : l.length ≤ i) : l.take i = l := List.take_of_length_le h
def sadd (a b : Int) : Int := if max a 0 > 9223372036854775807 - max b 0 then 9223372036854775807 else max a 0 + max b 0
theorem sadd_rng (a b : Int) (ha : i64 a) (hb : i64 b) : 0 ≤ sadd a b ∧ sadd a b < 2 ^ 63 := by
 unfold i64 at ha hb
 unfold sadd
 split <;> omega
def okN (r : Rn) : Prop := i64 r.p ∧ i64 r.n
def total (l : List Rn) : Int := l.foldl (fun n r => sadd n r.n) 0
theorem foldl_sadd_rng : ∀ (l : List Rn) (z : Int), 0 ≤ z ∧ z < 2 ^ 63 → (∀ r ∈ l, okN r) → 0 ≤ l.foldl (fun n r => sadd n r.n) z ∧ l.foldl (fun n r => sadd n r.n) z < 2 ^ 63
 | [], z, hz, _ => hz
 | r :: l, z, hz, h => foldl_sadd_rng l _ (sadd_rng _ _ (by unfold i64; omega) (h r (List.mem_cons_self ..)).2) (fun x hx => h x (List.mem_cons_of_mem _ hx))
theorem total_rng (l : List Rn) (h : ∀ r ∈ l, okN r) : 0 ≤ total l ∧ total l < 2 ^ 63 := foldl_sadd_rng l 0 (by omega) h
theorem foldl_tot : ∀ (l : List Rn) (z : Int), 0 ≤ z → (∀ r ∈ l, 0 ≤ r.n) → z + tot l < 2 ^ 63 → l.foldl (fun n r => sadd n r.n) z = z + tot l
 | [], z, _, _, _ => by simp [tot]
 | r :: l, z, hz, h, hb => by
   have h1 := h r (List.mem_cons_self ..)
   have h2 : 0 ≤ tot l := by
    have : ∀ (l : List Rn), (∀ r ∈ l, 0 ≤ r.n) → 0 ≤ tot l := fun l => by
     induction l with
     | nil => intro _; decide
     | cons x l ih => intro h; have := h x (List.mem_cons_self ..); have := ih (fun r hr => h r (List.mem_cons_of_mem _ hr)); simp only [tot]; omega
    exact this l (fun x hx => h x (List.mem_cons_of_mem _ hx))
   simp only [tot] at hb ⊢
   have e : sadd z r.n = z + r.n := by unfold sadd; rw [if_neg (by omega)]; omega
   rw [List.foldl_cons, e, foldl_tot l (z + r.n) (by omega) (fun x hx => h x (List.mem_cons_of_mem _ hx)) (by omega)]; omega
end Go.AM.PL
set_option linter.all false
set_option maxRecDepth 10000
namespace Go.AM.PL
end Go.AM.PL
set_option linter.all false
set_option maxRecDepth 10000
namespace Go.AM.PL
def I32 (c : BitVec 32) : Int := (c.toNat : Int)
end Go.AM.PL
set_option linter.all false
set_option maxRecDepth 10000
namespace Go.AM.PL
def ts (T : BitVec 32) (i : Nat) : UInt8 := b8 ((I32 T).fdiv (2 ^ (min (8 * (i : Int)).toNat 32)))
theorem and_rng1 (n : Int) (m : Nat) (hm : m < 2 ^ 62) : ∃ q : Nat, andI .i64 n m = (q : Int) ∧ q ≤ m := by
 unfold andI
 have h1 : (BitVec.ofInt 64 n &&& BitVec.ofInt 64 (m : Int)).toNat ≤ m := by
  rw [BitVec.toNat_and]
  refine Nat.le_trans Nat.and_le_right ?_
  rw [BitVec.toNat_ofInt]
  omega
 refine ⟨(BitVec.ofInt 64 n &&& BitVec.ofInt 64 (m : Int)).toNat, ?_, h1⟩
 show IntKind.i64.wrap ((BitVec.ofInt 64 n &&& BitVec.ofInt 64 (m : Int)).toNat : Int) = _
 rw [IntKind.wrap_i64]; omega
end Go.AM.PL
set_option linter.all false
set_option maxRecDepth 10000
namespace Go.AM.PL
theorem wrap64_id {x : Int} (h : i64 x) : IntKind.i64.wrap x = x := by
 unfold i64 at h; rw [IntKind.wrap_i64]; omega
def val (l : List UInt8) : Nat := l.foldl (fun u b => u * 256 + b.toNat) 0
end Go.AM.PL
