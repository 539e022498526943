/- Contracts of the functions that the statement reaches. No condition. -/
import Derived.Test.YtlkcohidkhbipaaGreatAW
set_option linter.all false
set_option maxRecDepth 100000
namespace Go.AM.FK
open Go.AM Go.AM.TOP
theorem kept4 : cc (rest2 af4.code) callT (KQ 2) (frOf [(3, .int .i64 4)]) .e 0 = true := by kernel_rfl
theorem kept5 : cc (rest2 af4.code) callT (KQ 2) (frOf [(3, .int .i64 5)]) .e 0 = true := by kernel_rfl
theorem kept6 : cc (rest2 af4.code) callT (KQ 2) (frOf [(3, .int .i64 6)]) .e 0 = true := by kernel_rfl
end Go.AM.FK
