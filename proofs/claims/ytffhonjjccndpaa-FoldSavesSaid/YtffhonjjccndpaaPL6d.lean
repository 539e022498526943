/- Contracts of the functions that the statement reaches. No condition. -/
import Derived.Test.YtffhonjjccndpaaPL6c
set_option linter.all false
set_option maxRecDepth 10000
namespace Go.AM.PL
theorem okT_okN {p : Int} (hp : p ≤ 2 ^ 40) {l : List Rn} (h : ∀ r ∈ l, okT p r) : ∀ r ∈ l, okN r := fun r hr => by
 have := h r hr
 unfold okT at this
 unfold okN i64; omega
theorem wlen_mem {l : List Rn} {r : Rn} (h : r ∈ l) : r.n ≤ wlen l := by
 have := word_mem_len h
 unfold wlen; omega
theorem wlen_repR (l : List Rn) : ∀ n : Nat, wlen (repR n l) = n * wlen l
 | 0 => by show wlen [] = ((0 : Nat) : Int) * _; rw [show ((0 : Nat) : Int) = 0 from rfl, Int.zero_mul]; rfl
 | n + 1 => by
   show wlen (repR n l ++ l) = _
   rw [wlen_app, wlen_repR l n, show ((n + 1 : Nat) : Int) = (n : Int) + 1 by omega, Int.add_mul, Int.one_mul]
theorem rep_tidy {l : List Rn} (h1 : ∀ r ∈ l, 1 ≤ r.n) (ha : ∀ i, i + 1 < l.length → (l.getD i ⟨0, 0⟩).p ≠ (l.getD (i + 1) ⟨0, 0⟩).p) (hl : 0 < l.length) (he : (l.getD 0 ⟨0, 0⟩).p ≠ (l.getD (l.length - 1) ⟨0, 0⟩).p) (m : Nat) : tidyV (repR m l) = repR m l := by
 have hle := repR_len l m
 have hat : ∀ i, i < m * l.length → (repR m l).getD i ⟨0, 0⟩ = l.getD (i % l.length) ⟨0, 0⟩ := fun i hi => by
  rw [List.getD_eq_getElem?_getD, repR_at hl m i hi, List.getD_eq_getElem?_getD]
 unfold tidyV
 rw [tidy_of_adj (fun r hr => h1 r (repR_mem m hr)) fun i hi => ?_, List.reverse_reverse]
 rw [hat i (by omega), hat (i + 1) (by omega)]
 have hm := Nat.mod_lt i hl
 by_cases c : i % l.length + 1 < l.length
 ·have e : (i + 1) % l.length = i % l.length + 1 := by
   rw [Nat.add_mod, Nat.mod_eq_of_lt (show 1 < l.length by omega), Nat.mod_eq_of_lt c]
  rw [e]; exact ha _ c
 ·have e1 : i % l.length = l.length - 1 := by omega
  have e2 : (i + 1) % l.length = 0 := by
   by_cases d : l.length = 1
   ·rw [d]; exact Nat.mod_one _
   ·rw [Nat.add_mod, Nat.mod_eq_of_lt (show 1 < l.length by omega), e1, Nat.sub_add_cancel (by omega), Nat.mod_self]
  rw [e1, e2]
  exact fun x => he x.symm
theorem saves_ok {rs l : List Rn} (hr : ∀ r ∈ rs, okT 3 r) (hn : rs.length ≤ 6) (hl : tidyV rs = l) (h2 : 2 ≤ l.length) (he : (l.getD 0 ⟨0, 0⟩).p ≠ (l.getD (l.length - 1) ⟨0, 0⟩).p) {m : Nat} (hm : m * l.length < 90) (hm1 : 1 ≤ m) : rightR (repR m l) = true ∧ tidyV (repR m l) = repR m l := by
 have hN := okT_okN (by decide) hr
 have hw : wlen rs ≤ 24 := by
  have h2 := word_small (m := 4) rs fun r h => (hr r h).2.2.2
  unfold wlen; omega
 have hwl : wlen l ≤ 24 := by
  rw [← hl]
  unfold wlen at *
  rw [word_tidy rs hN (by omega)]; exact hw
 have hl1 : ∀ r ∈ l, 1 ≤ r.n := fun r h => by rw [← hl] at h; exact (tidyR_ok rs hN r (List.mem_reverse.1 h)).2
 have hlp : ∀ r ∈ l, -1 ≤ r.p ∧ r.p < 3 := by
  rw [← hl]
  exact tidyV_part (P := fun p => -1 ≤ p ∧ p < 3) fun r h => ⟨(hr r h).1, (hr r h).2.1⟩
 have ht := rep_tidy hl1 (fun i hi => by rw [← hl] at hi ⊢; exact tidyV_adj hN hi) (by omega) he m
 refine ⟨?_, ht⟩
 have hle := repR_len l m
 have hml : 1 * l.length ≤ m * l.length := Nat.mul_le_mul_right _ hm1
 have hm2 : m * 2 ≤ m * l.length := Nat.mul_le_mul_left _ h2
 have hok : ∀ r ∈ repR m l, okR r = true := fun r h => by
  have h1 := repR_mem m h
  have h2 := hl1 r h1
  have h3 := hlp r h1
  have h4 := wlen_mem h1
  unfold okR partV
  simp only [Bool.and_eq_true, decide_eq_true_eq]
  omega
 have hwr : wlen (repR m l) ≤ 45 * 24 := by
  rw [wlen_repR]
  refine Int.mul_le_mul (by omega) hwl ?_ (by omega)
  unfold wlen; omega
 unfold rightR
 simp only [Bool.and_eq_true, decide_eq_true_eq, List.all_eq_true]
 refine ⟨hok, ⟨by omega, by omega⟩, ?_⟩
 rw [← wlen_tot fun q hq => (okR_n (hok q hq)).1]
 omega
theorem per_row {L : List Rn} (hl : 1 ≤ L.length) (hl8 : L.length ≤ 8) {n : Int} {m : Nat} (hn : 0 < n) (h : againOk [] L n m) : 1 ≤ m ∧ m * L.length < 90 := by
 have h1 := h.2.2 hn (by simp only [List.length_nil]; omega)
 refine ⟨h1, ?_⟩
 rcases h.2.1 with e | e
 ·omega
 ·simpa using e
def k6t : List Nd := [⟨4, 0, 3⟩, ⟨3, 0, 2⟩, ⟨1, 0, 1⟩, ⟨1, 1, 1⟩]
end Go.AM.PL
