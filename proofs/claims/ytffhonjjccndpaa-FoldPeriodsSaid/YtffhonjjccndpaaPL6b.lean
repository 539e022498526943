/- Contracts of the functions that the statement reaches. No condition. -/
import Derived.Test.YtffhonjjccndpaaPL6
set_option linter.all false
set_option maxRecDepth 10000
namespace Go.AM.PL
open Fo
def encTr (f : Nd × Fo) : List Nd := enc (one f.1 f.2)
def lvT (f : Nd × Fo) : List Rn := lvX f.1 f.2.lv
def okT6 (f : Nd × Fo) : Prop := (one f.1 f.2).ok ∧ ∃ k : Nat, f.2.dep ≤ 2 * k ∧ 2 ^ k ≤ (lvT f).length
def foT : List (Nd × Fo) → Fo
 | [] => nil
 | f :: G => cons f.1 f.2 (foT G)
theorem encTr_cons (f : Nd × Fo) : encTr f = f.1 :: enc f.2 := by unfold encTr; simp [one, enc]
theorem foT_enc : ∀ G : List (Nd × Fo), enc (foT G) = (G.map encTr).flatten
 | [] => rfl
 | f :: G => by
   simp only [foT, enc, List.map_cons, List.flatten_cons]
   rw [foT_enc G, encTr_cons]; rfl
theorem foT_cnt : ∀ G : List (Nd × Fo), (foT G).cnt = G.length
 | [] => rfl
 | f :: G => by show 1 + (foT G).cnt = _; rw [foT_cnt G, List.length_cons]; omega
theorem foT_lv : ∀ G : List (Nd × Fo), (foT G).lv = G.flatMap lvT
 | [] => rfl
 | f :: G => by simp only [foT, lv, List.flatMap_cons, foT_lv G]; rfl
theorem foT_ok : ∀ {G : List (Nd × Fo)}, (∀ f ∈ G, (one f.1 f.2).ok) → (foT G).ok
 | [], _ => trivial
 | f :: G, h => ⟨(h f (List.mem_cons_self ..)).1, (h f (List.mem_cons_self ..)).2.1, foT_ok fun g hg => h g (List.mem_cons_of_mem _ hg)⟩
theorem foT_dep : ∀ (G : List (Nd × Fo)), G ≠ [] → ∃ f ∈ G, (foT G).dep = 1 + f.2.dep
 | [], h => absurd rfl h
 | [f], _ => ⟨f, List.mem_cons_self .., by have := dep_rng f.2; show max (1 + f.2.dep) 0 = _; omega⟩
 | f :: g :: G, _ => by
   obtain ⟨q, hq, e⟩ := foT_dep (g :: G) (by simp)
   have hd : (foT (f :: g :: G)).dep = max (1 + f.2.dep) (foT (g :: G)).dep := rfl
   by_cases c : (foT (g :: G)).dep ≤ 1 + f.2.dep
   ·exact ⟨f, List.mem_cons_self .., by omega⟩
   ·exact ⟨q, List.mem_cons_of_mem _ hq, by omega⟩
theorem encTr_inj {f g : Nd × Fo} (hf : (one f.1 f.2).ok) (hg : (one g.1 g.2).ok) (h : encTr f = encTr g) : f = g := by
 obtain ⟨h1, h2⟩ := enc_one hf hg h
 exact Prod.ext h1 h2
theorem repL_len (n : Nat) (l : List Rn) : (repL n l).length = n * l.length := by
 induction n with
 | zero => rw [Nat.zero_mul]; rfl
 | succ n ih => show (repL n l ++ l).length = _; rw [List.length_append, ih, Nat.add_mul, Nat.one_mul]
theorem mem_flat {f : Nd × Fo} : ∀ {G : List (Nd × Fo)}, f ∈ G → (lvT f).length ≤ (G.flatMap lvT).length
 | g :: G, h => by
   rw [List.flatMap_cons, List.length_append]
   rcases List.mem_cons.1 h with rfl | h
   ·omega
   ·have := mem_flat h; omega
theorem win_rep {G : List (Nd × Fo)} {a p : Nat} : ∀ n, a + n * p ≤ G.length → (∀ k, k < n → win G (a + k * p) p = win G a p) → (win G a (n * p)).flatMap lvT = repL n ((win G a p).flatMap lvT)
 | 0, _, _ => by rw [Nat.zero_mul]; unfold win; simp [repL]
 | n + 1, h, hk => by
   have ih := win_rep n (by rw [Nat.add_mul] at h; omega) fun k h2 => hk k (by omega)
   have e : win G a ((n + 1) * p) = win G a (n * p) ++ win G (a + n * p) p := by
    unfold win
    rw [Nat.add_mul, Nat.one_mul, List.take_add, List.drop_drop]
   rw [e, List.flatMap_append, ih, hk n (by omega)]; rfl
def sumL (xs : List (List Nd)) : Nat := (xs.map List.length).sum
theorem sumL_app (xs ys : List (List Nd)) : sumL (xs ++ ys) = sumL xs + sumL ys := by unfold sumL; rw [List.map_append, List.sum_append]
theorem lenI_sum : ∀ xs : List (List Nd), (lenI xs).sum = (sumL xs : Int)
 | [] => rfl
 | x :: xs => by
   have := lenI_sum xs
   unfold lenI sumL at *
   simp only [List.map_cons, List.sum_cons]
   rw [this]; omega
theorem flat_len (xs : List (List Nd)) : xs.flatten.length = sumL xs := by unfold sumL; rw [List.length_flatten]
theorem joined_len (xs : List (List Nd)) : (joinedV xs).length = sumL xs + (if xs.length = 1 then 0 else 1) := by
 unfold joinedV
 split
 ·rw [flat_len]; rfl
 ·rw [List.length_cons, flat_len]
theorem win_sumL {xs : List (List Nd)} {a p : Nat} : ∀ n, a + n * p ≤ xs.length → (∀ k, k < n → win xs (a + k * p) p = win xs a p) → sumL (win xs a (n * p)) = n * sumL (win xs a p)
 | 0, _, _ => by rw [Nat.zero_mul, Nat.zero_mul]; unfold win; simp [sumL]
 | n + 1, h, hk => by
   have ih := win_sumL n (by rw [Nat.add_mul] at h; omega) fun k h2 => hk k (by omega)
   have e : win xs a ((n + 1) * p) = win xs a (n * p) ++ win xs (a + n * p) p := by
    unfold win
    rw [Nat.add_mul, Nat.one_mul, List.take_add, List.drop_drop]
   rw [e, sumL_app, ih, hk n (by omega), Nat.add_mul, Nat.one_mul]
structure Folds (row : List Rn) (G : List (Nd × Fo)) : Prop where
 ok : ∀ f ∈ G, okT6 f
 lv : G.flatMap lvT = row
 sum : sumL (G.map encTr) ≤ row.length
theorem split3 {α : Type} (l : List α) (a m : Nat) : l = l.take a ++ (win l a m ++ l.drop (a + m)) := by
 unfold win
 rw [← List.drop_drop, List.take_append_drop, List.take_append_drop]
theorem step_folds {row : List Rn} {G : List (Nd × Fo)} (h : Folds row G) (hr : row.length ≤ 96) {o : Ft} (ho : (1 ≤ o.p ∧ 2 ≤ o.n) ∧ o.a + o.n * o.p ≤ G.length ∧ (∀ k, k < o.n → win (G.map encTr) (o.a + k * o.p) o.p = win (G.map encTr) o.a o.p) ∧ 0 < (sumL (win (G.map encTr) o.a o.p) : Int) * ((o.n : Int) - 1) - 1 - (if 1 < o.p then 1 else 0)) :
 ∃ G', stepV (G.map encTr) o = G'.map encTr ∧ Folds row G' := by
 obtain ⟨⟨hp, hn⟩, hlen, hwin, hs⟩ := ho
 obtain ⟨a, p, n, s⟩ := o
 dsimp only at hp hn hlen hwin hs ⊢
 have hw : ∀ k, k < n → win G (a + k * p) p = win G a p := fun k hk => by
  have := hwin k hk
  rw [win_map, win_map] at this
  exact map_inj_on (fun x hx y hy e => encTr_inj (h.ok x (win_mem hx)).1 (h.ok y (win_mem hy)).1 e) this
 obtain ⟨B, hB⟩ : ∃ B, win G a p = B := ⟨_, rfl⟩
 have hBl : B.length = p := by
  rw [← hB]; unfold win
  have : n * p ≥ 1 * p := Nat.mul_le_mul_right _ (by omega)
  rw [List.length_take, List.length_drop]; omega
 have hBm : ∀ f ∈ B, f ∈ G := fun f hf => win_mem (by rw [hB]; exact hf)
 have hBne : B ≠ [] := fun e => by rw [e] at hBl; simp at hBl; omega
 have hGl : G.length ≤ 96 := by
  have h1 := h.sum
  have h2 : ∀ G : List (Nd × Fo), G.length ≤ sumL (G.map encTr) := fun G => by
   induction G with
   | nil => exact Nat.zero_le _
   | cons f G ih =>
     have h3 : sumL ((f :: G).map encTr) = (encTr f).length + sumL (G.map encTr) := rfl
     rw [h3, encTr_cons, List.length_cons, List.length_cons]; omega
  have := h2 G
  omega
 have hpl : p ≤ 96 := by
  have : n * p ≥ 1 * p := Nat.mul_le_mul_right _ (by omega)
  omega
 obtain ⟨one_, hone⟩ : ∃ one_ : Nd × Fo, one_ = (if p = 1 then (⟨4, 0, (n : Int)⟩, foT B) else (⟨4, 0, (n : Int)⟩, one ⟨3, 0, (p : Int)⟩ (foT B))) := ⟨_, rfl⟩
 have hBok := foT_ok fun f hf => (h.ok f (hBm f hf)).1
 have hk4 : kidV ⟨4, 0, (n : Int)⟩ = 1 := by unfold kidV; (repeat' split) <;> simp_all <;> omega
 have hk3 : kidV ⟨3, 0, (p : Int)⟩ = p := by unfold kidV; (repeat' split) <;> simp_all <;> omega
 have eE : encTr one_ = ⟨4, 0, (n : Int)⟩ :: joinedV (B.map encTr) := by
  unfold joinedV
  rw [List.length_map, hBl, hone, encTr_cons]
  split
  ·rw [foT_enc]
  ·rw [← foT_enc]
   congr 1
   show (⟨3, 0, (p : Int)⟩ : Nd) :: (enc (foT B) ++ []) = _
   rw [List.append_nil]
 have eL : lvT one_ = repL n (B.flatMap lvT) := by
  rw [hone]
  unfold lvT
  split
  ·show lvX ⟨4, 0, (n : Int)⟩ (foT B).lv = _
   unfold lvX
   rw [if_pos rfl, foT_lv]; rfl
  ·show lvX ⟨4, 0, (n : Int)⟩ (one _ (foT B)).lv = _
   rw [lv_one]
   unfold lvX
   rw [if_pos rfl, if_neg (show ¬ (3 : Int) = 4 by decide), if_neg (by rw [hk3]; omega), foT_lv]; rfl
 have oK : okT6 one_ := by
  obtain ⟨f, hf, hd⟩ := foT_dep B hBne
  obtain ⟨k, hk1, hk2⟩ := (h.ok f (hBm f hf)).2
  have hfl := mem_flat hf
  have hll : 2 ^ (k + 1) ≤ (lvT one_).length := by
   rw [eL, repL_len, Nat.pow_succ, Nat.mul_comm]
   exact Nat.mul_le_mul hn (Nat.le_trans hk2 hfl)
  refine ⟨?_, k + 1, ?_, hll⟩
  ·rw [hone]
   split
   ·rename_i c
    exact ⟨by show kidV ⟨4, 0, (n : Int)⟩ = _; rw [hk4, foT_cnt, hBl, c]; rfl, hBok, trivial⟩
   ·exact ⟨hk4, ⟨by show kidV ⟨3, 0, (p : Int)⟩ = _; rw [hk3, foT_cnt, hBl], hBok, trivial⟩, trivial⟩
  ·rw [hone]
   split
   ·show (foT B).dep ≤ _; omega
   ·show max (1 + (foT B).dep) 0 ≤ _; omega
 have eS : ∀ l : List (List Nd), stepV l ⟨a, p, n, s⟩ = l.take a ++ oneV l ⟨a, p, n, s⟩ :: l.drop (a + p * n) := fun _ => rfl
 have e1 : oneV (G.map encTr) ⟨a, p, n, s⟩ = encTr one_ := by
  unfold oneV
  rw [eE]
  show _ :: joinedV (win (G.map encTr) a p) = _
  rw [win_map, hB]
 have eR := win_rep (G := G) (a := a) (p := p) n hlen hw
 have eG := split3 G a (n * p)
 refine ⟨G.take a ++ one_ :: G.drop (a + p * n), by rw [eS, e1, List.map_append, List.map_cons, List.map_take, List.map_drop], fun f hf => ?_, ?_, ?_⟩
 ·rcases List.mem_append.1 hf with h1 | h1
  ·exact h.ok f (List.mem_of_mem_take h1)
  ·rcases List.mem_cons.1 h1 with rfl | h1
   ·exact oK
   ·exact h.ok f (List.mem_of_mem_drop h1)
 ·have h1 := h.lv
  rw [eG, List.flatMap_append, List.flatMap_append, eR, hB] at h1
  rw [List.flatMap_append, List.flatMap_cons, eL, Nat.mul_comm p n]
  exact h1
 ·have h1 := h.sum
  have h2 := win_sumL (xs := G.map encTr) (a := a) (p := p) n (by rw [List.length_map]; exact hlen) hwin
  have h3 : sumL (G.map encTr) = sumL ((G.take a).map encTr) + (sumL ((win G a (n * p)).map encTr) + sumL ((G.drop (a + n * p)).map encTr)) := by
   conv => lhs; rw [eG]
   rw [List.map_append, List.map_append, sumL_app, sumL_app]
  rw [win_map] at h2
  rw [win_map, hB] at h2 hs
  have h4 : sumL ((G.take a ++ one_ :: G.drop (a + p * n)).map encTr) = sumL ((G.take a).map encTr) + ((encTr one_).length + sumL ((G.drop (a + p * n)).map encTr)) := by
   rw [List.map_append, List.map_cons, sumL_app]; rfl
  have h5 : (encTr one_).length = 1 + (sumL (B.map encTr) + (if p = 1 then 0 else 1)) := by
   rw [eE, List.length_cons, joined_len, List.length_map, hBl]; omega
  rw [h4, h5, Nat.mul_comm p n]
  rw [h3, h2] at h1
  obtain ⟨S, hS⟩ : ∃ S, sumL (B.map encTr) = S := ⟨_, rfl⟩
  rw [hS] at hs h1 ⊢
  obtain ⟨m, rfl⟩ : ∃ m, n = m + 1 := ⟨n - 1, by omega⟩
  rw [show (((m + 1 : Nat) : Int) - 1) = (m : Int) by omega] at hs
  have h6 : (m + 1) * S = m * S + S := by rw [Nat.add_mul, Nat.one_mul]
  have h7 : (S : Int) * (m : Int) = ((m * S : Nat) : Int) := by rw [Int.natCast_mul, Int.mul_comm]
  rw [h7] at hs
  rw [h6] at h1
  generalize m * S = z at hs h1
  by_cases c : p = 1
  ·rw [if_pos c]
   rw [if_neg (by omega)] at hs
   omega
  ·rw [if_neg c]
   rw [if_pos (by omega)] at hs
   omega
theorem leaf_ok {r : Rn} (h : okR r = true) : okT6 (leafV r, nil) ∧ lvT (leafV r, nil) = [r] ∧ encTr (leafV r, nil) = [leafV r] := by
 have h1 := okR_n h
 unfold okR partV at h
 simp only [Bool.and_eq_true, decide_eq_true_eq] at h
 have hk : kidV (leafV r) = 0 := by
  unfold leafV
  split
  ·unfold kidV; dsimp only; (repeat' split) <;> omega
  ·unfold kidV; dsimp only; (repeat' split) <;> omega
 have hl : lvT (leafV r, nil) = [r] := by
  unfold lvT lvX
  dsimp only
  rw [if_neg (by unfold leafV; split <;> simp), if_pos hk]
  unfold leafV
  obtain ⟨p, n⟩ := r
  dsimp only
  split
  ·rename_i c; simp [c]
  ·rfl
 exact ⟨⟨⟨hk, trivial, trivial⟩, 0, Int.le_refl _, by rw [hl]; exact Nat.le_refl 1⟩, hl, rfl⟩
theorem leaves_folds {row : List Rn} (h : ∀ r ∈ row, okR r = true) : leavesV row = (row.map fun r => (leafV r, nil)).map encTr ∧ Folds row (row.map fun r => (leafV r, nil)) := by
 have e : leavesV row = (row.map fun r => (leafV r, nil)).map encTr := by
  unfold leavesV
  rw [List.map_map]
  exact List.map_congr_left fun r hr => (leaf_ok (h r hr)).2.2.symm
 refine ⟨e, fun f hf => ?_, ?_, ?_⟩
 ·obtain ⟨r, hr, rfl⟩ := List.mem_map.1 hf
  exact (leaf_ok (h r hr)).1
 ·clear e
  induction row with
  | nil => rfl
  | cons r row ih =>
    rw [List.map_cons, List.flatMap_cons, (leaf_ok (h r (List.mem_cons_self ..))).2.1, ih fun q hq => h q (List.mem_cons_of_mem _ hq)]; rfl
 ·rw [← e]
  clear e
  induction row with
  | nil => exact Nat.le_refl _
  | cons r row ih =>
    have := ih fun q hq => h q (List.mem_cons_of_mem _ hq)
    show 1 + sumL (leavesV row) ≤ _
    rw [List.length_cons]; omega
end Go.AM.PL
