/- Contracts of the functions that the statement reaches. No condition. -/
import Derived.Test.YtnkbbfnloecbcaaPLo
set_option linter.all false
set_option maxRecDepth 10000
namespace Go.AM.PL
theorem Fo.tb_bound6 (d : Nat) (hd : d ≤ 6) : Fo.tl d ≤ 5461 := by
 have : d = 0 ∨ d = 1 ∨ d = 2 ∨ d = 3 ∨ d = 4 ∨ d = 5 ∨ d = 6 := by omega
 rcases this with rfl | rfl | rfl | rfl | rfl | rfl | rfl <;> decide
theorem Fo.tb_len6 {d : Nat} {x : Nd} {ks : Fo} (h : Fo.TB d x ks) (hd : d ≤ 6) : (Fo.enc (Fo.one x ks)).length ≤ 5461 := Nat.le_trans h.2.1 (Fo.tb_bound6 d hd)
theorem kids_ex (l : List Nd) (a : Nat) : ∃ K, kidsAt l a K := by
 by_cases h : sizeV l a = 0
 ·exact ⟨[], fun h' => by omega, fun _ => rfl⟩
 ·have hr := sizeV_rng l (a : Int)
  have hs : sizeV l (a : Int) = scan (l.drop a) 1 0 := by unfold sizeV; rw [if_neg (by omega), Int.toNat_natCast]
  obtain ⟨f, r, e1, e2, e3, e4⟩ := Fo.parse (l.drop a) 1 0 (by decide) (by decide) (by omega)
  obtain ⟨y, js, rfl⟩ := Fo.one_kid (ks := f) (by omega)
  have hl : (l.take a).length = a := by rw [List.length_take]; omega
  have e : l = l.take a ++ (Fo.enc (Fo.one y js) ++ r) := by rw [← e1, List.take_append_drop]
  refine ⟨Fo.kpos (a + 1) js, ?_⟩
  have := Fo.kids_at e2 (l.take a) r
  rw [hl, ← e] at this
  exact this
def kidsZ (l : List Nd) (x : Int) (K : List Nat) : Prop := (0 ≤ x → kidsAt l x.toNat K) ∧ (x < 0 → K = [])
theorem kidsZ_ex (l : List Nd) (x : Int) : ∃ K, kidsZ l x K := by
 by_cases c : 0 ≤ x
 ·obtain ⟨K, hK⟩ := kids_ex l x.toNat
  exact ⟨K, fun _ => hK, fun h => by omega⟩
 ·exact ⟨[], fun h => by omega, fun _ => rfl⟩
def nums3 : List Int := [-1, 0, 1, 2, 5, 6, 128, 129, 4096, 4097, 9223372036854775807]
def sames3 (l : List Nd) (a : Int) : List Int := [0, a, (l.length : Int) - 1, -1, l.length]
theorem sames3_rng {l : List Nd} {a : Int} (ha : -1 ≤ a ∧ a ≤ 2 ^ 41) (hl : l.length ≤ 2 ^ 41) {i : Nat} (hi : i < 5) : -1 ≤ (sames3 l a).getD i 0 ∧ (sames3 l a).getD i 0 ≤ 2 ^ 41 := by
 rcases (show i = 0 ∨ i = 1 ∨ i = 2 ∨ i = 3 ∨ i = 4 by omega) with rfl | rfl | rfl | rfl | rfl <;> unfold sames3 <;> simp <;> omega
theorem kidsZ_len {l : List Nd} {x : Int} {K : List Nat} (h : kidsZ l x K) (hl : l.length ≤ 2 ^ 41) (hx : x ≤ 2 ^ 41) : K.length ≤ 2 ^ 50 := by
 by_cases c : 0 ≤ x
 ·have hK := h.1 c
  have hr := sizeV_rng l (x.toNat : Int)
  by_cases d : sizeV l (x.toNat : Int) = 0
  ·rw [hK.2 d]; exact Nat.zero_le _
  ·have := kch_len (hK.1 (by omega)) (by omega); omega
 ·rw [h.2 (by omega)]; exact Nat.zero_le _
end Go.AM.PL
