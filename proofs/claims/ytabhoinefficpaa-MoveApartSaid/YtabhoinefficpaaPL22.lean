/- Contracts of the functions that the statement reaches. No condition. -/
import Derived.Test.YtabhoinefficpaaRWa
import Derived.Test.YtabhoinefficpaaGMb
set_option linter.all false
set_option maxRecDepth 10000
namespace Go.AM.PL
structure Lcl where
  t : Int
  p : Int
  c : Int
  o : Int
  f : Int
  v : Int
  deriving DecidableEq
def encL (x : Lcl) : List GV := [.v (.int .i64 x.t), .v (.int .i64 x.p), .v (.int .i64 x.c), .v (.int .i64 x.o), .v (.int .i64 x.f), .v (.int .u32 x.v)]
def leq (x y : Lcl) : Bool := x.t == y.t && (x.p == y.p && (x.c == y.c && (x.o == y.o && (x.f == y.f && (x.v == y.v && true)))))
theorem leq_eq (x y : Lcl) : leq x y = decide (x = y) := by
  obtain ⟨a, b, c, d, e, f⟩ := x
  obtain ⟨a', b', c', d', e', f'⟩ := y
  unfold leq
  by_cases h : (⟨a, b, c, d, e, f⟩ : Lcl) = ⟨a', b', c', d', e', f'⟩
  · rw [decide_eq_true h]; cases h; simp
  · rw [decide_eq_false h]
    simp only [Lcl.mk.injEq] at h
    simp
    omega

theorem take_step {xs ys : List Lcl} {i : Nat} (h1 : i < xs.length) (h2 : i < ys.length) (h : xs.take i = ys.take i) : xs.take (i + 1) = ys.take (i + 1) ↔ xs[i] = ys[i] := by
  rw [List.take_succ_eq_append_getElem h1, List.take_succ_eq_append_getElem h2, h]
  constructor
  · intro e; exact List.cons.inj (List.append_cancel_left e) |>.1
  · intro e; rw [e]
theorem leq_t {x y : Lcl} (h : true = leq x y) : x = y := of_decide_eq_true ((leq_eq x y).symm.trans h.symm)
theorem leq_f {x y : Lcl} (h : ¬ true = leq x y) : x ≠ y := fun e => h (((leq_eq x y).trans (decide_eq_true e)).symm)

def cpl : List Lcl → List Lcl → Nat
  | x :: xs, y :: ys => if x = y then cpl xs ys + 1 else 0
  | _, _ => 0
def firstV (xs ys : List Lcl) : Int := if xs = ys then -1 else (cpl xs ys : Int)
theorem cpl_of : ∀ (i : Nat) (xs ys : List Lcl), xs.take i = ys.take i → i ≤ xs.length → i ≤ ys.length → (∀ (h1 : i < xs.length) (h2 : i < ys.length), xs[i] ≠ ys[i]) → cpl xs ys = i
  | 0, [], _, _, _, _, _ => rfl
  | 0, _ :: _, [], _, _, _, _ => rfl
  | 0, x :: xs, y :: ys, _, _, _, h => by
    have hne : x ≠ y := h (by simp) (by simp)
    rw [cpl, if_neg hne]
  | i + 1, [], _, _, h, _, _ => by simp at h
  | i + 1, _ :: _, [], _, _, h, _ => by simp at h
  | i + 1, x :: xs, y :: ys, h, h1, h2, h3 => by
    rw [List.take_succ_cons, List.take_succ_cons] at h
    obtain ⟨e1, e2⟩ := List.cons.inj h
    rw [cpl, if_pos e1, cpl_of i xs ys e2 (by simpa using h1) (by simpa using h2) (fun a b => h3 (by simpa using a) (by simpa using b))]

def wrem (n lo hi : Int) : Int := if n.tmod (hi - lo + 1) < 0 then n.tmod (hi - lo + 1) + hi - lo + 1 else n.tmod (hi - lo + 1)
def within (n lo hi : Int) : Int := if n ≥ lo ∧ n ≤ hi then n else lo + wrem n lo hi
theorem within_rng (n lo hi : Int) (h : lo ≤ hi) : lo ≤ within n lo hi ∧ within n lo hi ≤ hi := by
  have h1 := Int.tmod_lt_of_pos n (show 0 < hi - lo + 1 by omega)
  have h2 := Int.lt_tmod_of_pos n (show 0 < hi - lo + 1 by omega)
  unfold within wrem
  split
  · omega
  · split <;> omega

def cmp1 (a b : List Lcl) : Bool := decide (a <+: b) || decide (b <+: a)
def encR (r : List Lcl) : List GV := [.fsl 6 (r.map encL)]
open Classical in
noncomputable def cmpR (xs ys : List (List Lcl)) : Bool := decide (xs.length = ys.length ∧ ∀ (j : Nat) (h1 : j < xs.length) (h2 : j < ys.length), cmp1 xs[j] ys[j] = true)
def small (xs : List (List Lcl)) : Prop := xs.length ≤ 2 ^ 50 ∧ ∀ r, r ∈ xs → r.length ≤ 2 ^ 50
theorem small_at {xs : List (List Lcl)} (h : small xs) {i : Nat} (hi : i < xs.length) : xs[i].length ≤ 2 ^ 50 := h.2 _ (List.getElem_mem hi)

structure Rn where
  p : Int
  n : Int
def encN (x : Rn) : List GV := [.v (.int .i64 x.p), .v (.int .i64 x.n)]
def partV (p : Int) : Bool := decide (p ≥ -1) && decide (p < 6)
def okR (r : Rn) : Bool := decide (1 ≤ r.n) && decide (r.n ≤ 4096) && partV r.p
def tot : List Rn → Int
  | [] => 0
  | r :: l => r.n + tot l
theorem tot_snoc (l : List Rn) (r : Rn) : tot (l ++ [r]) = tot l + r.n := by
  induction l with
  | nil => simp [tot]
  | cons x l ih => simp only [List.cons_append, tot, ih]; omega
theorem tot_bnd (l : List Rn) (h : ∀ r, r ∈ l → okR r = true) : (l.length : Int) ≤ tot l ∧ tot l ≤ 4096 * l.length := by
  induction l with
  | nil => simp [tot]
  | cons x l ih =>
    have h1 := h x (List.mem_cons_self ..)
    have h2 := ih (fun r hr => h r (List.mem_cons_of_mem _ hr))
    simp only [okR, Bool.and_eq_true, decide_eq_true_eq] at h1
    simp only [tot, List.length_cons]
    omega
def rightR (l : List Rn) : Bool := l.all okR && (decide (0 < l.length) && decide (l.length ≤ 96) && decide (tot l ≤ 4096))

theorem okR_n {r : Rn} (h : okR r = true) : 1 ≤ r.n ∧ r.n ≤ 4096 := by
  unfold okR at h
  simp only [Bool.and_eq_true, decide_eq_true_eq] at h
  exact h.1

def atR : List Rn → Int → Int
  | [], _ => -1
  | r :: l, t => if t < r.n then r.p else atR l (t - r.n)
theorem atR_drop (l : List Rn) (i : Nat) (h : i < l.length) (t : Int) : atR (l.drop i) t = if t < l[i].n then l[i].p else atR (l.drop (i + 1)) (t - l[i].n) := by
  rw [List.drop_eq_getElem_cons h, atR]

def encK (n : Int) : List GV := [.v (.int .i64 n)]
def tN (n : Int) : Nat := (max 0 (min n 16384)).toNat
def ticksV (l : List Rn) (n : Int) : List Int := if rightR l = true then (List.range (tN n)).map (fun (t : Nat) => atR l ((t : Int) % tot l)) else []
theorem right_ok2 {l : List Rn} (h : rightR l = true) : (∀ r, r ∈ l → okR r = true) ∧ 1 ≤ tot l ∧ tot l ≤ 4096 := by
  unfold rightR at h
  simp only [Bool.and_eq_true, decide_eq_true_eq, List.all_eq_true] at h
  have := tot_bnd l h.1
  exact ⟨h.1, by omega, by omega⟩

theorem take_stepI {xs ys : List Int} {i : Nat} (h1 : i < xs.length) (h2 : i < ys.length) (h : xs.take i = ys.take i) : xs.take (i + 1) = ys.take (i + 1) ↔ xs[i] = ys[i] := by
  rw [List.take_succ_eq_append_getElem h1, List.take_succ_eq_append_getElem h2, h]
  constructor
  · intro e; exact List.cons.inj (List.append_cancel_left e) |>.1
  · intro e; rw [e]

end Go.AM.PL
