/- Contracts of the functions that the statement reaches. No condition. -/
import Derived.Test.YtomglcfneeelgaaPL8
import Derived.Test.YtomglcfneeelgaaPLg
set_option linter.all false
set_option maxRecDepth 10000
namespace Go.AM.PL
def matF (n : Nat) (f : Nat → Nat → Bool) : List (List Bool) := (List.range n).map fun a => (List.range n).map fun b => f a b
theorem matF_enc {n : Nat} {f : Nat → Nat → Bool} : (bM n f).map (fzRow 1) = (matF n f).map encBs := by
  rw [fz_bM]; unfold matF; rw [List.map_map]
  refine List.map_congr_left fun a _ => ?_
  show [GV.fsl 1 (bRow n (f a))] = encBs _
  unfold encBs bRow
  rw [List.map_map]; rfl
end Go.AM.PL
