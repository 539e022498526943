/- Contracts of the functions that the statement reaches. No condition. -/
import Derived.Test.YtomglcfneeelgaaPL8c
set_option linter.all false
set_option maxRecDepth 10000
namespace Go.AM.PL
theorem matF_get {n : Nat} {f : Nat → Nat → Bool} {p q : Nat} (hp : p < n) (hq : q < n) : ((matF n f).getD p []).getD q false = f p q := by
  unfold matF
  simp [List.getD_eq_getElem?_getD, hp, hq]
theorem matF_len {n : Nat} {f : Nat → Nat → Bool} : (matF n f).length = n := by unfold matF; simp
theorem matF_row {n : Nat} {f : Nat → Nat → Bool} {p : Nat} (hp : p < n) : ((matF n f).getD p []).length = n := by
  unfold matF
  simp [List.getD_eq_getElem?_getD, hp]
theorem matF_rows {n : Nat} {f : Nat → Nat → Bool} : ∀ r ∈ matF n f, r.length = n := fun r hr => by
  unfold matF at hr
  obtain ⟨a, _, rfl⟩ := List.mem_map.1 hr
  simp
end Go.AM.PL
namespace Go.AM.PL
end Go.AM.PL
