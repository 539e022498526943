/- Contracts of the functions that the statement reaches. No condition. -/
import Derived.Test.YtlkcohidkhbipaaGreatAW
set_option linter.all false
set_option maxRecDepth 100000
namespace Go.AM.FK
open Go.AM Go.AM.TOP
theorem kept7 : cc (rest2 af4.code) callT (KQ 2) (frOf [(3, .int .i64 7)]) .e 0 = true := by kernel_rfl
theorem kept8 : cc (rest2 af4.code) callT (KQ 2) (frOf [(3, .int .i64 8)]) .e 0 = true := by kernel_rfl
theorem kept9 : cc (rest2 af4.code) callT (KQ 2) (frOf [(3, .int .i64 9)]) .e 0 = true := by kernel_rfl
theorem kept10 : cc (rest2 af4.code) callT (KQ 2) (frOf [(3, .int .i64 10)]) .e 0 = true := by kernel_rfl
end Go.AM.FK
