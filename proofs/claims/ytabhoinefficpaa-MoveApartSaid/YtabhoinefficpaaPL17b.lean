/- Contracts of the functions that the statement reaches. No condition. -/
import Derived.Test.YtabhoinefficpaaPL17
set_option linter.all false
set_option maxRecDepth 10000
namespace Go.AM.PL
def okC (c : Ch) : Prop := i64 c.fr ∧ i64 c.to ∧ i64 c.cap ∧ (0 ≤ c.max ∧ c.max < 4294967296) ∧ i64 c.late
def fixC (c : Ch) : Ch := if c.q = true then { c with cap := within c.cap 1 8 } else c
def fewV (C : List Ch) : List Ch := (C.take 8).map fixC
theorem few_len (C : List Ch) : (fewV C).length ≤ 8 := by unfold fewV; rw [List.length_map, List.length_take]; omega
theorem encC_T {c : Ch} (h : c.q = true) : encC (fixC c) = [.v (.int .i64 c.fr), .v (.int .i64 c.to), .v (.bool c.q), .v (.int .i64 (within c.cap 1 8)), .v (.int .u32 c.max), .v (.int .i64 c.late)] := by unfold fixC; rw [if_pos h]; rfl
theorem encC_F {c : Ch} (h : c.q = false) : encC (fixC c) = encC c := by unfold fixC; rw [if_neg (by rw [h]; decide)]
structure Askd where
  kind : Int
  i : Int
  n : Int
def encA (a : Askd) : List GV := [.v (.int .i64 a.kind), .v (.int .i64 a.i), .v (.int .u32 a.n)]
def okA (a : Askd) : Prop := i64 a.kind ∧ i64 a.i ∧ 0 ≤ a.n ∧ a.n < 4294967296
def stepA (C : List Ch) (S : List (List Int)) (a : Askd) : List (List Int) := if a.kind > 2 then recvS C S a.i else sendS C S a.i a.n
def playS (C : List Ch) (l : List Askd) (i : Nat) : List (List Int) := (l.take i).foldl (stepA C) (List.replicate C.length [])
theorem play_snoc {C : List Ch} {l : List Askd} {i : Nat} (h : i < l.length) : playS C l (i + 1) = stepA C (playS C l i) l[i] := by unfold playS; rw [foldl_take _ _ h]
theorem play_T {C : List Ch} {l : List Askd} {i : Nat} (h : i < l.length) (k : l[i].kind > 2) : playS C l (i + 1) = recvS C (playS C l i) l[i].i := by rw [play_snoc h, stepA, if_pos k]
theorem play_F {C : List Ch} {l : List Askd} {i : Nat} (h : i < l.length) (k : ¬ l[i].kind > 2) : playS C l (i + 1) = sendS C (playS C l i) l[i].i l[i].n := by rw [play_snoc h, stepA, if_neg k]
theorem step_pl_len (C : List Ch) (S : List (List Int)) (a : Askd) : (stepA C S a).length = S.length := by
  unfold stepA; split
  · exact recv_len _ _ _
  · exact send_len _ _ _ _
theorem smallS_le {m k : Nat} {S : List (List Int)} (h : smallS m S) (hk : m ≤ k) : smallS k S := fun r hr => Nat.le_trans (h r hr) hk
theorem step_small {m : Nat} {C : List Ch} {S : List (List Int)} (h : smallS m S) (a : Askd) : smallS (m + 1) (stepA C S a) := by
  unfold stepA; split
  · exact smallS_up (recv_small h _)
  · exact send_small h _ _
theorem play_inv (C : List Ch) (l : List Askd) : ∀ i, i ≤ l.length → (playS C l i).length = C.length ∧ smallS i (playS C l i)
  | 0, _ => ⟨by unfold playS; simp, by unfold playS; exact smallS_nil⟩
  | i + 1, h => by
    have ih := play_inv C l i (by omega)
    rw [play_snoc (by omega)]
    exact ⟨by rw [step_pl_len]; exact ih.1, step_small ih.2 _⟩
/-! two rows of rows, one by one -/
theorem rows_out {S W : List (List Int)} {n j : Nat} (hS : S.length = n) (hW : W.length = n) (h : S.take (j - 1) = W.take (j - 1)) (hj : j = 0 ∨ n ≤ j - 1) : S.take (j + 1 - 1) = W.take (j + 1 - 1) := by
  rcases hj with rfl | hj
  · rfl
  · rw [List.take_of_length_le (by omega), List.take_of_length_le (by omega)] at h
    rw [h]
theorem rows_in {S W : List (List Int)} {q : Nat} (h1 : q < S.length) (h2 : q < W.length) (h : S.take q = W.take q) (he : S.getD q [] = W.getD q []) : S.take (q + 1) = W.take (q + 1) := by
  refine (take_stepG h1 h2 h).2 ?_
  rw [List.getD_eq_getElem?_getD, List.getD_eq_getElem?_getD, List.getElem?_eq_getElem h1, List.getElem?_eq_getElem h2] at he
  exact he
end Go.AM.PL
namespace Go.AM.PL
def kC : List Ch := [⟨0, 1, true, 1, 9, 0⟩, ⟨1, 0, false, 0, 100, 0⟩]
def someA (m : Int) (a : Askd) : Askd := ⟨within a.kind 0 4, within a.i (-1) m, andI .u32 a.n 15⟩
def nC (k : Nat) : List Ch := [⟨0, 0, false, 0, 9, 0⟩, ⟨0, 0, true, 1 + (k : Int) % 8, 10, 0⟩, ⟨0, 0, true, 3, 4294967295, 0⟩]
def nA (k j : Nat) : Askd := ⟨((j : Int) * j + k) % 5, ((j : Int) * 3 + k) % 5 - 1, ((j : Int) * k) % 13⟩
def nL (k n : Nat) : List Askd := (List.range n).map (nA k)
theorem nL_snoc {k i : Nat} : nL k (i + 1) = nL k i ++ [nA k i] := by unfold nL; rw [List.range_succ, List.map_append]; rfl
theorem nL_len {k n : Nat} : (nL k n).length = n := by unfold nL; simp
def nX : List Askd := [⟨0, 0, 0⟩, ⟨3, 0, 0⟩]
def nY : List Askd := [⟨0, 0, 0⟩, ⟨0, 0, 1⟩, ⟨0, 0, 0⟩, ⟨3, 0, 0⟩, ⟨0, 4611686018427387904, 0⟩, ⟨3, -9223372036854775808, 0⟩]
def nZ : List Ch := [⟨0, 0, true, 1, 0, 0⟩]
end Go.AM.PL
