/- Contracts of the functions that the statement reaches. No condition. -/
import Derived.Test.YtffhonjjccndpaaRWa
import Derived.Test.YtffhonjjccndpaaGMb
import Derived.Test.YtffhonjjccndpaaGMc
set_option linter.all false
set_option maxRecDepth 10000
namespace Go.AM.PL
structure Lcl where
 t : Int
 p : Int
 c : Int
 o : Int
 f : Int
 v : Int
 deriving DecidableEq
def leq (x y : Lcl) : Bool := x.t == y.t && (x.p == y.p && (x.c == y.c && (x.o == y.o && (x.f == y.f && (x.v == y.v && true)))))
def wrem (n lo hi : Int) : Int := if n.tmod (hi - lo + 1) < 0 then n.tmod (hi - lo + 1) + hi - lo + 1 else n.tmod (hi - lo + 1)
def within (n lo hi : Int) : Int := if n ≥ lo ∧ n ≤ hi then n else lo + wrem n lo hi
theorem within_rng (n lo hi : Int) (h : lo ≤ hi) : lo ≤ within n lo hi ∧ within n lo hi ≤ hi := by
 have h1 := Int.tmod_lt_of_pos n (show 0 < hi - lo + 1 by omega)
 have h2 := Int.lt_tmod_of_pos n (show 0 < hi - lo + 1 by omega)
 unfold within wrem
 split
 ·omega
 ·split <;> omega
structure Rn where
 p : Int
 n : Int
def encN (x : Rn) : List GV := [.v (.int .i64 x.p), .v (.int .i64 x.n)]
def partV (p : Int) : Bool := decide (p ≥ -1) && decide (p < 6)
def okR (r : Rn) : Bool := decide (1 ≤ r.n) && decide (r.n ≤ 4096) && partV r.p
def tot : List Rn → Int
 | [] => 0
 | r :: l => r.n + tot l
theorem tot_snoc (l : List Rn) (r : Rn) : tot (l ++ [r]) = tot l + r.n := by
 induction l with
 | nil => simp [tot]
 | cons x l ih => simp only [List.cons_append, tot, ih]; omega
theorem tot_bnd (l : List Rn) (h : ∀ r, r ∈ l → okR r = true) : (l.length : Int) ≤ tot l ∧ tot l ≤ 4096 * l.length := by
 induction l with
 | nil => simp [tot]
 | cons x l ih =>
   have h1 := h x (List.mem_cons_self ..)
   have h2 := ih (fun r hr => h r (List.mem_cons_of_mem _ hr))
   simp only [okR, Bool.and_eq_true, decide_eq_true_eq] at h1
   simp only [tot, List.length_cons]
   omega
def rightR (l : List Rn) : Bool := l.all okR && (decide (0 < l.length) && decide (l.length ≤ 96) && decide (tot l ≤ 4096))
theorem okR_n {r : Rn} (h : okR r = true) : 1 ≤ r.n ∧ r.n ≤ 4096 := by
 unfold okR at h
 simp only [Bool.and_eq_true, decide_eq_true_eq] at h
 exact h.1
def encK (n : Int) : List GV := [.v (.int .i64 n)]
end Go.AM.PL
set_option linter.all false
set_option maxRecDepth 10000
namespace Go.AM.PL
def i64 (n : Int) : Prop := -2 ^ 63 ≤ n ∧ n < 2 ^ 63
def nx (t : List Int) (a : Nat) (n : Int) : Int := if a < t.length ∧ 1 ≤ n then (within (t.getD a 0) 0 1073741824) % n else 0
def na (t : List Int) (a : Nat) (n : Int) : Nat := if a < t.length ∧ 1 ≤ n then a + 1 else a
theorem na_le {t : List Int} {a : Nat} {n : Int} (h : a ≤ t.length) : na t a n ≤ t.length := by unfold na; split <;> omega
theorem nx_rng (t : List Int) (a : Nat) (n : Int) : 0 ≤ nx t a n ∧ (1 ≤ n → nx t a n < n) ∧ nx t a n ≤ 1073741824 := by
 unfold nx
 split
 ·rename_i h
  have h1 := Int.emod_nonneg (within (t.getD a 0) 0 1073741824) (show n ≠ 0 by omega)
  have h2 := Int.emod_lt_of_pos (within (t.getD a 0) 0 1073741824) (show 0 < n by omega)
  have h3 := within_rng (t.getD a 0) 0 1073741824 (by decide)
  have h4 : within (t.getD a 0) 0 1073741824 % n ≤ within (t.getD a 0) 0 1073741824 := by rw [Int.emod_def]; have := Int.mul_nonneg (show 0 ≤ n by omega) (Int.ediv_nonneg h3.1 (show 0 ≤ n by omega)); omega
  omega
 ·omega
def tbox (t : List Int) (a : Nat) : GBlk := .box [.fsl 1 (t.map encK), .v (.int .i64 a)]
def rgo (t : List Int) (parts : Int) : Nat → Nat → List Rn → List Rn × Nat
 | 0, a, out => (out, a)
 | k + 1, a, out => rgo t parts k (na t (na t a (parts + 1)) 4) (out ++ [⟨nx t a (parts + 1) - 1, 1 + nx t (na t a (parts + 1)) 4⟩])
def tapeRuns (t : List Int) (a : Nat) (parts most : Int) : List Rn × Nat := rgo t parts (1 + nx t a most).toNat (na t a most) []
def okT (parts : Int) (r : Rn) : Prop := -1 ≤ r.p ∧ r.p < parts ∧ 1 ≤ r.n ∧ r.n ≤ 4
theorem rgo_ok (t : List Int) (parts : Int) (hp : 0 ≤ parts) : ∀ (k a : Nat) (out : List Rn), a ≤ t.length → (∀ r ∈ out, okT parts r) → (∀ r ∈ (rgo t parts k a out).1, okT parts r) ∧ (rgo t parts k a out).1.length = out.length + k ∧ (rgo t parts k a out).2 ≤ t.length
 | 0, a, out, ha, h => ⟨h, rfl, ha⟩
 | k + 1, a, out, ha, h => by
   have ih := rgo_ok t parts hp k (na t (na t a (parts + 1)) 4) (out ++ [⟨nx t a (parts + 1) - 1, 1 + nx t (na t a (parts + 1)) 4⟩]) (na_le (na_le ha)) (fun r hr => by
    rcases List.mem_append.1 hr with h1 | h1
    ·exact h r h1
    ·rw [List.mem_singleton.1 h1]
     have h2 := nx_rng t a (parts + 1)
     have h3 := nx_rng t (na t a (parts + 1)) 4
     unfold okT
     refine ⟨?_, ?_, ?_, ?_⟩ <;> dsimp only <;> omega)
   rw [rgo]
   refine ⟨ih.1, ?_, ih.2.2⟩
   rw [ih.2.1, List.length_append]; simp only [List.length_cons, List.length_nil]; omega
theorem tapeRuns_ok (t : List Int) (a : Nat) (parts most : Int) (hp : 0 ≤ parts) (hm : 1 ≤ most) (ha : a ≤ t.length) : (∀ r ∈ (tapeRuns t a parts most).1, okT parts r) ∧ 1 ≤ (tapeRuns t a parts most).1.length ∧ ((tapeRuns t a parts most).1.length : Int) ≤ most ∧ (tapeRuns t a parts most).2 ≤ t.length := by
 have h := rgo_ok t parts hp (1 + nx t a most).toNat (na t a most) [] (na_le ha) (fun r h => by cases h)
 have h2 := nx_rng t a most
 unfold tapeRuns
 refine ⟨h.1, ?_, ?_, h.2.2⟩ <;> rw [h.2.1] <;> simp only [List.length_nil] <;> omega
def sadd (a b : Int) : Int := if max a 0 > 9223372036854775807 - max b 0 then 9223372036854775807 else max a 0 + max b 0
theorem nil1 {A : AProg} {f w : Nat} {vs : List GV} {P : GHp} {K : GV → GHp → Prop} (hc : WpCallG A f (.fsl w [] :: vs) P K) : WpCallG A f (.v (.slice none 0 0) :: vs) P K := fun Z om as H hr hv => by
 cases hv with
 | cons h k => obtain rfl := h.v_inv; exact hc Z om _ H hr (.cons (.pure .fnil) k)
theorem nil3 {A : AProg} {f w : Nat} {v u : GV} {vs : List GV} {P : GHp} {K : GV → GHp → Prop} (hc : WpCallG A f (v :: u :: .fsl w [] :: vs) P K) : WpCallG A f (v :: u :: .v (.slice none 0 0) :: vs) P K := fun Z om as H hr hv => by
 cases hv with
 | cons h k => cases k with
   | cons h2 k => cases k with
     | cons h' k => obtain rfl := h'.v_inv; exact hc Z om _ H hr (.cons h (.cons h2 (.cons (.pure .fnil) k)))
end Go.AM.PL
set_option linter.all false
set_option maxRecDepth 10000
namespace Go.AM.PL
theorem flat_snoc {α : Type} (rows : List (List α)) (i : Nat) (h : i < rows.length) : (rows.take (i + 1)).flatten = (rows.take i).flatten ++ rows[i] := by
 rw [List.take_succ_eq_append_getElem h, List.flatten_append]; simp
def lens {α : Type} (rows : List (List α)) : Nat := rows.flatten.length
theorem lens_take {α : Type} (rows : List (List α)) (i : Nat) : lens (rows.take i) ≤ lens rows := by
 unfold lens
 have : rows.flatten = (rows.take i).flatten ++ (rows.drop i).flatten := by rw [← List.flatten_append, List.take_append_drop]
 rw [this, List.length_append]; omega
theorem lens_step {α : Type} (rows : List (List α)) (i : Nat) (h : i < rows.length) : lens (rows.take (i + 1)) = lens (rows.take i) + rows[i].length := by
 unfold lens; rw [flat_snoc _ _ h, List.length_append]
theorem take_stepG {α : Type} {xs ys : List α} {i : Nat} (h1 : i < xs.length) (h2 : i < ys.length) (h : xs.take i = ys.take i) : xs.take (i + 1) = ys.take (i + 1) ↔ xs[i] = ys[i] := by
 rw [List.take_succ_eq_append_getElem h1, List.take_succ_eq_append_getElem h2, h]
 constructor
 ·intro e; exact List.cons.inj (List.append_cancel_left e) |>.1
 ·intro e; rw [e]
theorem take_allG {α : Type} {l : List α} {i : Nat} (h : l.length ≤ i) : l.take i = l := List.take_of_length_le h
end Go.AM.PL
set_option linter.all false
set_option maxRecDepth 10000
namespace Go.AM.PL
end Go.AM.PL
set_option linter.all false
set_option maxRecDepth 10000
namespace Go.AM.PL
theorem and_rng1 (n : Int) (m : Nat) (hm : m < 2 ^ 62) : ∃ q : Nat, andI .i64 n m = (q : Int) ∧ q ≤ m := by
 unfold andI
 have h1 : (BitVec.ofInt 64 n &&& BitVec.ofInt 64 (m : Int)).toNat ≤ m := by
  rw [BitVec.toNat_and]
  refine Nat.le_trans Nat.and_le_right ?_
  rw [BitVec.toNat_ofInt]
  omega
 refine ⟨(BitVec.ofInt 64 n &&& BitVec.ofInt 64 (m : Int)).toNat, ?_, h1⟩
 show IntKind.i64.wrap ((BitVec.ofInt 64 n &&& BitVec.ofInt 64 (m : Int)).toNat : Int) = _
 rw [IntKind.wrap_i64]; omega
end Go.AM.PL
set_option linter.all false
set_option maxRecDepth 10000
namespace Go.AM.PL
def val (l : List UInt8) : Nat := l.foldl (fun u b => u * 256 + b.toNat) 0
end Go.AM.PL
