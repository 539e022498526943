/- Contracts of the functions that the statement reaches. No condition. -/
import Derived.Test.YtlkcohidkhbipaaGreatKTv
import Derived.Test.YtlkcohidkhbipaaGreatFKb
set_option linter.all false
set_option maxRecDepth 100000
namespace Go.AM.FK
open Go.AM Go.AM.TOP
theorem awake_run : callD tab 100 21 [] .e 0 (finN 1273) = true := by kernel_rfl
theorem awake_yes : Yes A 21 1273 := run_yes tab_ok awake_run
noncomputable def callT : Call := callDY 21 1273 tab 100
theorem callT_ok (k : Nat) (B : Nat → Option Blk) : CallOk A k B callT := callDY_ok awake_yes tab_ok 100
end Go.AM.FK
