/- Contracts of the functions that the statement reaches. No condition. -/
import Derived.Test.YtomglcfneeelgaaPL22
set_option linter.all false
set_option maxRecDepth 10000
namespace Go.AM.PL
def i64 (n : Int) : Prop := -2 ^ 63 ≤ n ∧ n < 2 ^ 63
def nx (t : List Int) (a : Nat) (n : Int) : Int := if a < t.length ∧ 1 ≤ n then (within (t.getD a 0) 0 1073741824) % n else 0
def na (t : List Int) (a : Nat) (n : Int) : Nat := if a < t.length ∧ 1 ≤ n then a + 1 else a
theorem na_le {t : List Int} {a : Nat} {n : Int} (h : a ≤ t.length) : na t a n ≤ t.length := by unfold na; split <;> omega
theorem nx_rng (t : List Int) (a : Nat) (n : Int) : 0 ≤ nx t a n ∧ (1 ≤ n → nx t a n < n) ∧ nx t a n ≤ 1073741824 := by
  unfold nx
  split
  · rename_i h
    have h1 := Int.emod_nonneg (within (t.getD a 0) 0 1073741824) (show n ≠ 0 by omega)
    have h2 := Int.emod_lt_of_pos (within (t.getD a 0) 0 1073741824) (show 0 < n by omega)
    have h3 := within_rng (t.getD a 0) 0 1073741824 (by decide)
    have h4 : within (t.getD a 0) 0 1073741824 % n ≤ within (t.getD a 0) 0 1073741824 := by rw [Int.emod_def]; have := Int.mul_nonneg (show 0 ≤ n by omega) (Int.ediv_nonneg h3.1 (show 0 ≤ n by omega)); omega
    omega
  · omega
def tbox (t : List Int) (a : Nat) : GBlk := .box [.fsl 1 (t.map encK), .v (.int .i64 a)]
theorem foldl_take {α β : Type} (f : β → α → β) (z : β) {l : List α} {i : Nat} (h : i < l.length) : (l.take (i + 1)).foldl f z = f ((l.take i).foldl f z) l[i] := by
  rw [List.take_succ_eq_append_getElem h, List.foldl_append]; rfl
theorem take_all {α : Type} {l : List α} {i : Nat} (h : l.length ≤ i) : l.take i = l := List.take_of_length_le h
def sadd (a b : Int) : Int := if max a 0 > 9223372036854775807 - max b 0 then 9223372036854775807 else max a 0 + max b 0
theorem sadd_rng (a b : Int) (ha : i64 a) (hb : i64 b) : 0 ≤ sadd a b ∧ sadd a b < 2 ^ 63 := by
  unfold i64 at ha hb
  unfold sadd
  split <;> omega
def okN (r : Rn) : Prop := i64 r.p ∧ i64 r.n
def total (l : List Rn) : Int := l.foldl (fun n r => sadd n r.n) 0
theorem foldl_sadd_rng : ∀ (l : List Rn) (z : Int), 0 ≤ z ∧ z < 2 ^ 63 → (∀ r ∈ l, okN r) → 0 ≤ l.foldl (fun n r => sadd n r.n) z ∧ l.foldl (fun n r => sadd n r.n) z < 2 ^ 63
  | [], z, hz, _ => hz
  | r :: l, z, hz, h => foldl_sadd_rng l _ (sadd_rng _ _ (by unfold i64; omega) (h r (List.mem_cons_self ..)).2) (fun x hx => h x (List.mem_cons_of_mem _ hx))
theorem total_rng (l : List Rn) (h : ∀ r ∈ l, okN r) : 0 ≤ total l ∧ total l < 2 ^ 63 := foldl_sadd_rng l 0 (by omega) h
theorem foldl_tot : ∀ (l : List Rn) (z : Int), 0 ≤ z → (∀ r ∈ l, 0 ≤ r.n) → z + tot l < 2 ^ 63 → l.foldl (fun n r => sadd n r.n) z = z + tot l
  | [], z, _, _, _ => by simp [tot]
  | r :: l, z, hz, h, hb => by
    have h1 := h r (List.mem_cons_self ..)
    have h2 : 0 ≤ tot l := by
      have : ∀ (l : List Rn), (∀ r ∈ l, 0 ≤ r.n) → 0 ≤ tot l := fun l => by
        induction l with
        | nil => intro _; decide
        | cons x l ih => intro h; have := h x (List.mem_cons_self ..); have := ih (fun r hr => h r (List.mem_cons_of_mem _ hr)); simp only [tot]; omega
      exact this l (fun x hx => h x (List.mem_cons_of_mem _ hx))
    simp only [tot] at hb ⊢
    have e : sadd z r.n = z + r.n := by unfold sadd; rw [if_neg (by omega)]; omega
    rw [List.foldl_cons, e, foldl_tot l (z + r.n) (by omega) (fun x hx => h x (List.mem_cons_of_mem _ hx)) (by omega)]; omega
theorem nil1 {A : AProg} {f w : Nat} {vs : List GV} {P : GHp} {K : GV → GHp → Prop} (hc : WpCallG A f (.fsl w [] :: vs) P K) : WpCallG A f (.v (.slice none 0 0) :: vs) P K := fun Z om as H hr hv => by
  cases hv with
  | cons h k => obtain rfl := h.v_inv; exact hc Z om _ H hr (.cons (.pure .fnil) k)
theorem nil2 {A : AProg} {f w : Nat} {v : GV} {vs : List GV} {P : GHp} {K : GV → GHp → Prop} (hc : WpCallG A f (v :: .fsl w [] :: vs) P K) : WpCallG A f (v :: .v (.slice none 0 0) :: vs) P K := fun Z om as H hr hv => by
  cases hv with
  | cons h k => cases k with
    | cons h' k => obtain rfl := h'.v_inv; exact hc Z om _ H hr (.cons h (.cons (.pure .fnil) k))
end Go.AM.PL
