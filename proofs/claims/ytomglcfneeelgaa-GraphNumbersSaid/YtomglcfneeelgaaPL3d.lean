/- Contracts of the functions that the statement reaches. No condition. -/
import Derived.Test.YtomglcfneeelgaaPL3c
set_option linter.all false
set_option maxRecDepth 10000
namespace Go.AM.PL
def goodR (r : List Rn) : Prop := okG r ∧ r.length ≤ 96 ∧ wlen r ≤ 4096
theorem good_nil : goodR [] := ⟨fun r hr => (by cases hr), Nat.zero_le _, by unfold wlen; simp [word]⟩
theorem tidy_good {ls : List Rn} (h : okG ls) (hw : wlen ls ≤ 4096) : goodR (tidyV ls) ∨ 96 < (tidyV ls).length := by
  by_cases c : 96 < (tidyV ls).length
  · exact .inr c
  · left
    have hN : ∀ r ∈ ls, okN r := fun r hr => (h r hr).1
    refine ⟨fun r hr => tidyR_ok ls hN r (List.mem_reverse.1 hr), by omega, ?_⟩
    unfold wlen at *
    rw [word_tidy ls hN (by omega)]; exact hw
end Go.AM.PL
