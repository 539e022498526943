/- Contracts of the functions that the statement reaches. No condition. -/
import Derived.Test.YtabhoinefficpaaPL8
import Derived.Test.YtabhoinefficpaaPLg
set_option linter.all false
set_option maxRecDepth 10000
namespace Go.AM.PL
def matF (n : Nat) (f : Nat → Nat → Bool) : List (List Bool) := (List.range n).map fun a => (List.range n).map fun b => f a b
theorem matF_enc {n : Nat} {f : Nat → Nat → Bool} : (bM n f).map (fzRow 1) = (matF n f).map encBs := by
  rw [fz_bM]; unfold matF; rw [List.map_map]
  refine List.map_congr_left fun a _ => ?_
  show [GV.fsl 1 (bRow n (f a))] = encBs _
  unfold encBs bRow
  rw [List.map_map]; rfl
def tri : Nat → Nat
  | 0 => 0
  | i + 1 => tri i + i + 1
def bitI (bits : Int) (k : Nat) : Int := andI .i64 (bits.fdiv (2 ^ (min ((k : Int) % 20).toNat IntKind.i64.bits))) 1
def bitD (bits : Int) (i j : Nat) : Bool := decide (i = j) || (bitI bits (tri i + j) == 1)
def pM (bits : Int) (i j a b : Nat) : Bool := if max a b < i ∨ (max a b = i ∧ min a b < j) then bitD bits (max a b) (min a b) else false
def depF (bits : Int) (a b : Nat) : Bool := bitD bits (max a b) (min a b)
def depM (n : Nat) (bits : Int) : List (List Bool) := matF n (depF bits)
theorem tri_le8 {i : Nat} (h : i ≤ 8) : tri i ≤ 36 := by
  have : ∀ i, i ≤ 8 → tri i ≤ 36 := by decide
  exact this i h
theorem pM_step {bits : Int} {n i j : Nat} (hj : j ≤ i) : bM n (updF (updF (pM bits i j) i j (bitD bits i j)) j i (updF (pM bits i j) i j (bitD bits i j) i j)) = bM n (pM bits i (j + 1)) := by
  refine bM_ext fun a b _ _ => ?_
  unfold updF pM
  by_cases h1 : a = j ∧ b = i
  · obtain ⟨rfl, rfl⟩ := h1
    rw [if_pos ⟨rfl, rfl⟩, if_pos ⟨rfl, rfl⟩, Nat.max_eq_right hj, Nat.min_eq_left hj, if_pos (by omega)]
  · rw [if_neg h1]
    by_cases h2 : a = i ∧ b = j
    · obtain ⟨rfl, rfl⟩ := h2
      rw [if_pos ⟨rfl, rfl⟩, Nat.max_eq_left hj, Nat.min_eq_right hj, if_pos (by omega)]
    · rw [if_neg h2]
      by_cases h3 : max a b < i ∨ (max a b = i ∧ min a b < j)
      · rw [if_pos h3, if_pos (by omega)]
      · rw [if_neg h3, if_neg (by omega)]
theorem pM_next {bits : Int} {n i : Nat} : bM n (pM bits i (i + 1)) = bM n (pM bits (i + 1) 0) := by
  refine bM_ext fun a b _ _ => ?_
  unfold pM
  by_cases h : max a b < i + 1
  · rw [if_pos (by omega), if_pos (by omega)]
  · rw [if_neg (by omega), if_neg (by omega)]
theorem pM_0 {bits : Int} {n : Nat} : bM n (fun _ _ => false) = bM n (pM bits 0 0) := by
  refine bM_ext fun a b _ _ => ?_
  unfold pM
  rw [if_neg (by omega)]
theorem pM_n {bits : Int} {n : Nat} : bM n (pM bits n 0) = bM n (depF bits) := by
  refine bM_ext fun a b _ _ => ?_
  unfold pM depF
  rw [if_pos (by omega)]
theorem bit_val {bits : Int} {i j : Nat} : (((i : Int) == (j : Int)) || (bitI bits (tri i + j) == 1)) = bitD bits i j := by
  unfold bitD
  congr 1
  by_cases h : i = j
  · subst h; simp
  · rw [decide_eq_false h]; simp; omega
theorem bitD_ne {bits : Int} {i j : Nat} (h : ¬ (i : Int) = (j : Int)) : bitD bits i j = (bitI bits (tri i + j) == 1) := by unfold bitD; rw [decide_eq_false (by omega)]; rfl
theorem bitD_eq {bits : Int} {i j : Nat} (h : (i : Int) = (j : Int)) : bitD bits i j = true := by unfold bitD; rw [decide_eq_true (by omega)]; rfl

end Go.AM.PL
