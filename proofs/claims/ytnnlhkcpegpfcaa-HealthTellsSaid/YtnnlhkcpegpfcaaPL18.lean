/- Contracts of the functions that the statement reaches. No condition. -/
import Derived.Test.YtnnlhkcpegpfcaaPLn
import Derived.Test.YtnnlhkcpegpfcaaGMc
set_option linter.all false
set_option maxRecDepth 10000
namespace Go.AM.PL
structure Flt where
 t : Int
 p : Int
 k : Int
def encF18 (x : Flt) : List GV := [.v (.int .i64 x.t), .v (.int .i64 x.p), .v (.int .i64 x.k)]
def hL (h0 h1 h2 h3 h4 : Int) : List Int := [h0, h1, h2, h3, h4]
def act (h0 h1 h2 h3 h4 : Int) (k : Int) : Int :=
 if k < 1 ∨ k > 5 then 2 else if (hL h0 h1 h2 h3 h4).getD (k - 1).toNat 0 = 0 ∨ (hL h0 h1 h2 h3 h4).getD (k - 1).toNat 0 = 1 then (hL h0 h1 h2 h3 h4).getD (k - 1).toNat 0 else 2
theorem hL_at (h0 h1 h2 h3 h4 : Int) (r : List GV) (m : Int) (hm : 0 ≤ m) (hn : m < 5) : ([vI h0, vI h1, vI h2, vI h3, vI h4] ++ r)[0 + m.toNat * 1]? = some (vI ((hL h0 h1 h2 h3 h4).getD m.toNat 0)) :=
 ld_at (hL h0 h1 h2 h3 h4) r m hm hn
theorem hL_at2 (h0 h1 h2 h3 h4 : Int) (m : Int) (hm : 0 ≤ m) (hn : m < 5) : [vI h0, vI h1, vI h2, vI h3, vI h4][0 + m.toNat * 1]? = some (vI ((hL h0 h1 h2 h3 h4).getD m.toNat 0)) :=
 hL_at h0 h1 h2 h3 h4 [] m hm hn
def cnt18 (k : Int) (l : List Flt) : Nat := l.countP (fun x => x.k == k)
theorem cnt_snoc (k : Int) (l : List Flt) (x : Flt) : cnt18 k (l ++ [x]) = cnt18 k l + if x.k = k then 1 else 0 := by
 unfold cnt18
 rw [List.countP_append, List.countP_cons, List.countP_nil]
 by_cases h : x.k = k <;> simp [h]
theorem cnt_le (k : Int) (l : List Flt) : cnt18 k l ≤ l.length := List.countP_le_length
theorem cnt_take (k : Int) (l : List Flt) (i : Nat) (h : i < l.length) : cnt18 k (l.take (i + 1)) = cnt18 k (l.take i) + if l[i].k = k then 1 else 0 := by
 rw [List.take_succ_eq_append_getElem h, cnt_snoc]
def Cnts (m : List (Int × Int)) (l : List Flt) : Prop := ∀ k, getM m k = (cnt18 k l : Int)
theorem cnts_nil : Cnts [] [] := fun k => rfl
theorem cnts_snoc {m : List (Int × Int)} {l : List Flt} (h : Cnts m l) (x : Flt) : Cnts (updM m x.k (getM m x.k + 1)) (l ++ [x]) := fun k => by
 rw [getM_upd, cnt_snoc]
 by_cases c : k = x.k
 ·rw [if_pos c, if_pos c.symm, h]; subst c; omega
 ·rw [if_neg c, if_neg (fun e => c e.symm), h]; omega
def tellL (st : Bool) (l : List Flt) (x : Flt) : List Flt := bif st then l else l ++ [x]
def tellM (st : Bool) (m : List (Int × Int)) (k : Int) : List (Int × Int) := bif st then m else updM m k (getM m k + 1)
theorem cnts_tell {m : List (Int × Int)} {l : List Flt} (h : Cnts m l) (st : Bool) (x : Flt) : Cnts (tellM st m x.k) (tellL st l x) := by
 cases st with
 | true => exact h
 | false => exact cnts_snoc h x
theorem tellL_len (st : Bool) (l : List Flt) (x : Flt) : (tellL st l x).length ≤ l.length + 1 := by cases st <;> simp [tellL]
theorem tm3 (x : Int) : -3 < x.tmod 3 ∧ x.tmod 3 < 3 := ⟨Int.lt_tmod_of_pos x (by decide), Int.tmod_lt_of_pos x (by decide)⟩
theorem tm2 (x : Int) : -2 < x.tmod 2 ∧ x.tmod 2 < 2 := ⟨Int.lt_tmod_of_pos x (by decide), Int.tmod_lt_of_pos x (by decide)⟩
theorem tm5 (x : Int) : -5 < x.tmod 5 ∧ x.tmod 5 < 5 := ⟨Int.lt_tmod_of_pos x (by decide), Int.tmod_lt_of_pos x (by decide)⟩
theorem act_out {h0 h1 h2 h3 h4 k : Int} (h : k < 1 ∨ 5 < k) : act h0 h1 h2 h3 h4 k = 2 := if_pos h
theorem act_in {h0 h1 h2 h3 h4 k : Int} (h : 1 ≤ k ∧ k ≤ 5) (h2' : (hL h0 h1 h2 h3 h4).getD (k - 1).toNat 0 = 0 ∨ (hL h0 h1 h2 h3 h4).getD (k - 1).toNat 0 = 1) : act h0 h1 h2 h3 h4 k = (hL h0 h1 h2 h3 h4).getD (k - 1).toNat 0 := by
 unfold act; rw [if_neg (by omega), if_pos h2']
theorem act_no {h0 h1 h2 h3 h4 k : Int} (h : (k < 1 ∨ 5 < k) ∨ ¬ (hL h0 h1 h2 h3 h4).getD (k - 1).toNat 0 = 0 ∧ ¬ (hL h0 h1 h2 h3 h4).getD (k - 1).toNat 0 = 1) : act h0 h1 h2 h3 h4 k = 2 := by
 unfold act
 by_cases c : k < 1 ∨ k > 5
 ·rw [if_pos c]
 ·rw [if_neg c, if_neg (fun d => by omega)]
end Go.AM.PL
