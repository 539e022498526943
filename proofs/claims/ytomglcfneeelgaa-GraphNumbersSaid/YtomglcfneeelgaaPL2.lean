/- Contracts of the functions that the statement reaches. No condition. -/
import Derived.Test.YtomglcfneeelgaaPL1
set_option linter.all false
set_option maxRecDepth 10000
namespace Go.AM.PL
theorem wrap64_id {x : Int} (h : i64 x) : IntKind.i64.wrap x = x := by
  unfold i64 at h; rw [IntKind.wrap_i64]; omega
def val (l : List UInt8) : Nat := l.foldl (fun u b => u * 256 + b.toNat) 0
end Go.AM.PL
