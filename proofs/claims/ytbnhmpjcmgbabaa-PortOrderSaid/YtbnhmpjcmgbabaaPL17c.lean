/- Contracts of the functions that the statement reaches. No condition. -/
import Derived.Test.YtbnhmpjcmgbabaaPL17b
set_option linter.all false
set_option maxRecDepth 10000
namespace Go.AM.PL
def oC (kk : Int) : List Ch := [⟨0, 1, true, kk, 4294967295, 0⟩, ⟨0, 1, false, 0, 4294967295, 0⟩]
def OV (kk : Int) (W V : List Int) (n c : Int) : Prop := ((W.length : Int) < kk ∧ c = 0 ∧ V = W ++ [n]) ∨ (¬ (W.length : Int) < kk ∧ c = 1 ∧ V = W)
theorem ord_send {kk n : Int} (W X : List Int) (hn : n < 4294967296) : ∃ c V, OV kk W V n c ∧ sendC (oC kk) [W, X] 0 n = c ∧ sendS (oC kk) [W, X] 0 n = [V, X] := by
  have h0 : (0 : Nat) < (oC kk).length := by show 0 < 2; omega
  by_cases h : (W.length : Int) < kk
  · have := send_3 (C := oC kk) (S := [W, X]) (q := 0) (n := n) h0 (by show n ≤ 4294967295; omega) rfl (by show (W.length : Int) < kk; exact h)
    exact ⟨0, W ++ [n], .inl ⟨h, rfl, rfl⟩, this.1, this.2⟩
  · have := send_2 (C := oC kk) (S := [W, X]) (q := 0) (n := n) h0 (by show n ≤ 4294967295; omega) rfl (by show kk ≤ (W.length : Int); omega)
    exact ⟨1, W, .inr ⟨h, rfl, rfl⟩, this.1, this.2⟩
theorem ord_s1 {kk n : Int} (V X : List Int) (hn : n < 4294967296) : sendC (oC kk) [V, X] 1 n = 0 ∧ sendS (oC kk) [V, X] 1 n = [V, [n]] :=
  send_1 (C := oC kk) (S := [V, X]) (q := 1) (n := n) (by show 1 < 2; omega) (by show n ≤ 4294967295; omega) rfl
theorem ord_r0 {kk : Int} {V X : List Int} (h : 0 < V.length) : recvN (oC kk) [V, X] 0 = V.headD 0 ∧ recvC (oC kk) [V, X] 0 = 0 ∧ recvS (oC kk) [V, X] 0 = [V.tail, X] :=
  recv_1 (C := oC kk) (S := [V, X]) (q := 0) (by show 0 < 2; omega) h
theorem ord_r1 {kk n : Int} {V : List Int} : recvN (oC kk) [V, [n]] 1 = n ∧ recvC (oC kk) [V, [n]] 1 = 0 ∧ recvS (oC kk) [V, [n]] 1 = [V, [n]] :=
  recv_1 (C := oC kk) (S := [V, [n]]) (q := 1) (by show 1 < 2; omega) (by show 0 < 1; omega)
theorem ord_held {kk : Int} {V X : List Int} : heldV (oC kk) [V, X] 0 = V := held_in (C := oC kk) (S := [V, X]) (q := 0) (by show 0 < 2; omega)
theorem ord_c1 {kk n c : Int} {W V : List Int} (h : OV kk W V n c) : (true ^^ ((c == 0) == decide ((W.length : Int) < kk))) = false := by
  rcases h with ⟨h1, rfl, _⟩ | ⟨h1, rfl, _⟩ <;> simp [h1]
theorem ord_c2 {kk n c : Int} {W V : List Int} (h : OV kk W V n c) : ((c != 0) && (c != 1)) = false := by
  rcases h with ⟨h1, rfl, _⟩ | ⟨h1, rfl, _⟩ <;> rfl
theorem ord_T {kk n c : Int} {W V : List Int} (h : OV kk W V n c) (k : c = 0) : V = W ++ [n] := by
  rcases h with ⟨_, _, e⟩ | ⟨_, e, _⟩
  · exact e
  · omega
theorem ord_F {kk n c : Int} {W V : List Int} (h : OV kk W V n c) (k : ¬ c = 0) : V = W := by
  rcases h with ⟨_, e, _⟩ | ⟨_, _, e⟩
  · omega
  · exact e
theorem ord_len {kk n c : Int} {W V : List Int} (h : OV kk W V n c) (hk : kk ≤ 8) (hW : W.length ≤ 8) : V.length ≤ 8 := by
  rcases h with ⟨h1, _, e⟩ | ⟨_, _, e⟩
  · rw [e, List.length_append]; simp; omega
  · rw [e]; exact hW
theorem small2 {V X : List Int} (h1 : V.length ≤ 8) (h2 : X.length ≤ 8) : smallS (2 ^ 30) [V, X] := fun r hr => by
  rcases List.mem_cons.1 hr with rfl | hr
  · omega
  · rw [List.mem_singleton.1 hr]; omega
end Go.AM.PL
namespace Go.AM.PL
def sendRow (c : Ch) (r : List Int) (n : Int) : List Int := if c.max < n then r else if c.q = false then [n] else if c.cap ≤ (r.length : Int) then r else r ++ [n]
def recvRow (c : Ch) (r : List Int) : List Int := if r = [] then r else if c.q = true then r.tail else r
theorem getD_set {S : List (List Int)} {m k : Nat} {r : List Int} (h : m < S.length) : (S.set m r).getD k [] = if m = k then r else S.getD k [] := by
  rw [List.getD_eq_getElem?_getD, List.getD_eq_getElem?_getD, List.getElem?_set]
  by_cases c : m = k
  · subst c; simp [h]
  · rw [if_neg c, if_neg c]
theorem row_send {D : List Ch} {S : List (List Int)} {m k : Nat} {n : Int} (hm : m < D.length) (hS : S.length = D.length) : (sendS D S (m : Int) n).getD k [] = if m = k then sendRow (D.getD k chD) (S.getD k []) n else S.getD k [] := by
  by_cases h1 : (D.getD m chD).max < n
  · have e := send_0 (C := D) (S := S) (i := (m : Int)) (n := n) (.inr (by rw [chAt_nat]; exact h1))
    rw [e.2]
    split
    · rename_i c; subst c; unfold sendRow; rw [if_pos h1]
    · rfl
  · cases h2 : (D.getD m chD).q with
    | false =>
      have e := send_1 (S := S) (n := n) hm (by omega) h2
      rw [e.2, getD_set (by omega)]
      split
      · rename_i c; subst c; unfold sendRow; rw [if_neg h1, if_pos h2]
      · rfl
    | true =>
      have h2' : ¬ (D.getD m chD).q = false := by rw [h2]; decide
      by_cases h3 : (D.getD m chD).cap ≤ ((S.getD m []).length : Int)
      · have e := send_2 (S := S) (n := n) hm (by omega) h2 h3
        rw [e.2]
        split
        · rename_i c; subst c; unfold sendRow; rw [if_neg h1, if_neg h2', if_pos h3]
        · rfl
      · have e := send_3 (S := S) (n := n) hm (by omega) h2 (by omega)
        rw [e.2, getD_set (by omega)]
        split
        · rename_i c; subst c; unfold sendRow; rw [if_neg h1, if_neg h2', if_neg h3]
        · rfl
theorem row_recv {D : List Ch} {S : List (List Int)} {m k : Nat} (hm : m < D.length) (hS : S.length = D.length) : (recvS D S (m : Int)).getD k [] = if m = k then recvRow (D.getD k chD) (S.getD k []) else S.getD k [] := by
  by_cases h1 : S.getD m [] = []
  · have e := recv_0 (C := D) (S := S) (i := (m : Int)) (.inr (by rw [rowAt_nat]; exact h1))
    rw [e.2.2]
    split
    · rename_i c; subst c; unfold recvRow; rw [if_pos h1]
    · rfl
  · have e := recv_1 (C := D) (S := S) (q := m) hm (List.length_pos_iff.2 h1)
    rw [e.2.2]
    by_cases h2 : (D.getD m chD).q = true
    · rw [if_pos h2, getD_set (by omega)]
      split
      · rename_i c; subst c; unfold recvRow; rw [if_neg h1, if_pos h2]
      · rfl
    · rw [if_neg h2]
      split
      · rename_i c; subst c; unfold recvRow; rw [if_neg h1, if_neg h2]
      · rfl
def AP (D : List Ch) (k i : Nat) (SP SQ : List (List Int)) : Prop := SP.length = D.length ∧ SQ.length = D.length ∧ smallS i SP ∧ smallS i SQ ∧ SP.getD k [] = SQ.getD k []
theorem ap_step {D : List Ch} {k i m : Nat} {n b : Int} {SP SQ P2 Q2 : List (List Int)} (h : AP D k i SP SQ) (hm : m < D.length) (hP : (if b = 0 then sendS D SP (m : Int) n else recvS D SP (m : Int)) = P2) (hQ : (if m = k then (if b = 0 then sendS D SQ (m : Int) n else recvS D SQ (m : Int)) else SQ) = Q2) : AP D k (i + 1) P2 Q2 := by
  obtain ⟨h1, h2, h3, h4, h5⟩ := h
  subst hP; subst hQ
  refine ⟨?_, ?_, ?_, ?_, ?_⟩
  · split
    · rw [send_len]; exact h1
    · rw [recv_len]; exact h1
  · split
    · split
      · rw [send_len]; exact h2
      · rw [recv_len]; exact h2
    · exact h2
  · split
    · exact send_small h3 _ _
    · exact smallS_up (recv_small h3 _)
  · split
    · split
      · exact send_small h4 _ _
      · exact smallS_up (recv_small h4 _)
    · exact smallS_up h4
  · by_cases c : m = k
    · rw [if_pos c]
      split
      · rw [row_send hm h1, row_send hm h2, if_pos c, if_pos c, h5]
      · rw [row_recv hm h1, row_recv hm h2, if_pos c, if_pos c, h5]
    · rw [if_neg c]
      split
      · rw [row_send hm h1, if_neg c]; exact h5
      · rw [row_recv hm h1, if_neg c]; exact h5
end Go.AM.PL
namespace Go.AM.PL
def wasC (D : List Ch) (S : List (List Int)) (i : Nat) : List GV := (List.range 8).map fun a => if a < i then GV.fsl 1 ((heldV D S (a : Int)).map encU) else GV.v (.slice none 0 0)
theorem map_okL {α : Type} {f : α → GV} {P : Nat → Bool} (h : ∀ a, (f a).ok P = true) : ∀ l : List α, GV.okL P (l.map f) = true
  | [] => rfl
  | a :: l => by rw [List.map_cons, GV.okL, h a, map_okL h l]; rfl
theorem map_stC {α : Type} {f : α → GV} {g : Nat} (h : ∀ a, (f a).st g = f a) : ∀ l : List α, stC g (l.map f) = l.map f
  | [] => rfl
  | a :: l => by rw [List.map_cons, stC, h a, map_stC h l]
theorem map_fzL {α : Type} {f : α → GV} {g : Nat} {v : GV} (h : ∀ a, GV.fz g v (f a) = f a) : ∀ l : List α, GV.fzL g v (l.map f) = l.map f
  | [] => rfl
  | a :: l => by rw [List.map_cons, GV.fzL, map_fzL h l, h a]
theorem was_ok {D : List Ch} {S : List (List Int)} {i : Nat} {P : Nat → Bool} : GV.okL P (wasC D S i) = true := map_okL (fun a => by split <;> rfl) _
theorem was_st {D : List Ch} {S : List (List Int)} {i g : Nat} : stC g (wasC D S i) = wasC D S i := map_stC (fun a => by split <;> rfl) _
theorem was_fz {D : List Ch} {S : List (List Int)} {i g : Nat} {v : GV} : GV.fzL g v (wasC D S i) = wasC D S i := map_fzL (fun a => by split <;> rfl) _
theorem was_at {D : List Ch} {S : List (List Int)} {i : Nat} (h : i < 8) : (wasC D S 8)[i]? = some (GV.fsl 1 ((heldV D S (i : Int)).map encU)) := by
  unfold wasC; simp [h]
theorem putG_set : ∀ (cs : List GV) (o : Nat) (v : GV), o < cs.length → putG cs o [v] = some (cs.set o v)
  | [], _, _, h => by simp at h
  | c :: cs, 0, v, _ => by simp [putG]
  | c :: cs, o + 1, v, h => by
    rw [putG, putG_set cs o v (by simpa using h)]; rfl
theorem was_put {D : List Ch} {S : List (List Int)} {i : Nat} (h : i < 8) : putG (wasC D S i) (0 + (i : Int).toNat * 1) [GV.fsl 1 ((heldV D S (i : Int)).map encU)] = some (wasC D S (i + 1)) := by
  rw [show 0 + (i : Int).toNat * 1 = i by omega, putG_set _ _ _ (by unfold wasC; simp; exact h)]
  congr 1
  refine List.ext_getElem? fun a => ?_
  unfold wasC
  rw [List.getElem?_set]
  by_cases c : i = a
  · subst c; simp [h]
  · rw [if_neg c]
    simp only [List.getElem?_map]
    by_cases ha : a < 8
    · rw [List.getElem?_range ha]
      show some (if a < i then _ else _) = some (if a < i + 1 then _ else _)
      by_cases h2 : a < i
      · rw [if_pos h2, if_pos (by omega)]
      · rw [if_neg h2, if_neg (by omega)]
    · rw [List.getElem?_eq_none (by simp; omega)]; rfl
end Go.AM.PL
namespace Go.AM.PL
theorem held_len {m : Nat} {D : List Ch} {S : List (List Int)} (h : smallS m S) (i : Int) : (heldV D S i).length ≤ m := by
  unfold heldV; split
  · exact rowAt_len h i
  · exact Nat.zero_le _
end Go.AM.PL
