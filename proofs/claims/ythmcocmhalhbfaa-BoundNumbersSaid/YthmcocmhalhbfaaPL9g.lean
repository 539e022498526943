/- Contracts of the functions that the statement reaches. No condition. -/
import Derived.Test.YthmcocmhalhbfaaPL10b
import Derived.Test.YthmcocmhalhbfaaPLp
set_option linter.all false
set_option maxRecDepth 10000
namespace Go.AM.PL
theorem late_self {l : List Rn} (h : ∀ r ∈ l, 1 ≤ r.n) (p : Int) (ha : spV p 0 l ≠ []) : 0 ≤ lateV l p p := by
 have hl : 0 < l.length := by
  cases l with
  | nil => exact absurd rfl ha
  | cons r l => simp
 have h2 := late_le h (wlen_pos h hl) p p
 omega
theorem late_le8 {l : List Rn} (h : ∀ r ∈ l, 1 ≤ r.n) (hw : wlen l ≤ 8192) (p q : Int) : lateV l p q ≤ 8192 := by
 cases l with
 | nil => unfold lateV; rw [if_pos (show spV p 0 [] = [] from rfl)]; decide
 | cons r l =>
   have := late_le h (wlen_pos h (by simp)) p q
   omega
theorem rgap_T {l : List Rn} (h : ∀ r ∈ l, 1 ≤ r.n) {p : Int} (hlt : lateV l p p < 1) : gapV l p = -1 := by
 by_cases ha : spV p 0 l = []
 ·unfold gapV; rw [if_pos ha]
 ·have h1 := gap_late h ha
  have h2 := late_self h p ha
  omega
theorem rgap_F {l : List Rn} (h : ∀ r ∈ l, 1 ≤ r.n) {p : Int} (hge : ¬ lateV l p p < 1) : gapV l p = lateV l p p - 1 := by
 by_cases ha : spV p 0 l = []
 ·exfalso; apply hge; unfold lateV; rw [if_pos ha]; decide
 ·have h1 := gap_late h ha
  omega
theorem one_wlen : wlen [⟨1, 4096⟩] ≤ 8192 := by
 unfold wlen; rw [word_cons, List.length_append, List.length_replicate]; decide
theorem runs_tot {l : List Rn} {p : Int} (h : ∀ r ∈ l, okT p r) (hn : l.length ≤ 16) : ∃ N : Nat, total l = (N : Int) ∧ N ≤ 64 := by
 have h2 := word_small (m := 4) l fun r hr => (h r hr).2.2.2
 have h3 : wlen l = ((word l).length : Int) := rfl
 exact ⟨(word l).length, by rw [total_wlen (fun r hr => (h r hr).2.2.1) (by omega)]; rfl, by omega⟩
end Go.AM.PL
