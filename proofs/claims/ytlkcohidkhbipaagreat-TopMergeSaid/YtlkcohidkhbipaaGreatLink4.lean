/- Machine code of some functions is what the program holds. No condition. -/
import Derived.Test.YtlkcohidkhbipaaGreatRows
import Derived.Test.YtlkcohidkhbipaaGreatRWa
import Derived.Test.YtlkcohidkhbipaaGreatBT
import Derived.Test.YtlkcohidkhbipaaGreatPLk
import Derived.WalkKit
import Derived.ProofKit
import Derived.OpenShut
import Derived.ShutString
import Derived.ChangeOld
import Derived.Below
import Derived.SizedLaws
import Derived.Carry
namespace Go.Proofs.YtlkcohidkhbipaaGreat.lnk
open Go.ChangeShapes Go.WideShapes Go.ChangeAt Go.RowKit Go.AM
set_option linter.all false
set_option maxRecDepth 10000
theorem l205 : cFunc Tryz.prog 205 = some TOP.af205 ∧ okFn Tryz.prog 205 = true := ⟨by kernel_rfl, by kernel_rfl⟩
theorem l18 : cFunc Tryz.prog 18 = some TOP.af18 ∧ okFn Tryz.prog 18 = true := ⟨by kernel_rfl, by kernel_rfl⟩
theorem l28 : cFunc Tryz.prog 28 = some TOP.af28 ∧ okFn Tryz.prog 28 = true := ⟨by kernel_rfl, by kernel_rfl⟩
theorem l43 : cFunc Tryz.prog 43 = some TOP.af43 ∧ okFn Tryz.prog 43 = true := ⟨by kernel_rfl, by kernel_rfl⟩
theorem l51 : cFunc Tryz.prog 51 = some TOP.af51 ∧ okFn Tryz.prog 51 = true := ⟨by kernel_rfl, by kernel_rfl⟩
theorem l63 : cFunc Tryz.prog 63 = some TOP.af63 ∧ okFn Tryz.prog 63 = true := ⟨by kernel_rfl, by kernel_rfl⟩
theorem l75 : cFunc Tryz.prog 75 = some TOP.af75 ∧ okFn Tryz.prog 75 = true := ⟨by kernel_rfl, by kernel_rfl⟩
theorem l83 : cFunc Tryz.prog 83 = some TOP.af83 ∧ okFn Tryz.prog 83 = true := ⟨by kernel_rfl, by kernel_rfl⟩
theorem l97 : cFunc Tryz.prog 97 = some TOP.af97 ∧ okFn Tryz.prog 97 = true := ⟨by kernel_rfl, by kernel_rfl⟩
theorem l105 : cFunc Tryz.prog 105 = some TOP.af105 ∧ okFn Tryz.prog 105 = true := ⟨by kernel_rfl, by kernel_rfl⟩
theorem l115 : cFunc Tryz.prog 115 = some TOP.af115 ∧ okFn Tryz.prog 115 = true := ⟨by kernel_rfl, by kernel_rfl⟩
theorem l124 : cFunc Tryz.prog 124 = some TOP.af124 ∧ okFn Tryz.prog 124 = true := ⟨by kernel_rfl, by kernel_rfl⟩
theorem l139 : cFunc Tryz.prog 139 = some TOP.af139 ∧ okFn Tryz.prog 139 = true := ⟨by kernel_rfl, by kernel_rfl⟩
theorem l148 : cFunc Tryz.prog 148 = some TOP.af148 ∧ okFn Tryz.prog 148 = true := ⟨by kernel_rfl, by kernel_rfl⟩
theorem l157 : cFunc Tryz.prog 157 = some TOP.af157 ∧ okFn Tryz.prog 157 = true := ⟨by kernel_rfl, by kernel_rfl⟩
theorem l165 : cFunc Tryz.prog 165 = some TOP.af165 ∧ okFn Tryz.prog 165 = true := ⟨by kernel_rfl, by kernel_rfl⟩
theorem l182 : cFunc Tryz.prog 182 = some TOP.af182 ∧ okFn Tryz.prog 182 = true := ⟨by kernel_rfl, by kernel_rfl⟩
theorem l196 : cFunc Tryz.prog 196 = some TOP.af196 ∧ okFn Tryz.prog 196 = true := ⟨by kernel_rfl, by kernel_rfl⟩
theorem l213 : cFunc Tryz.prog 213 = some TOP.af213 ∧ okFn Tryz.prog 213 = true := ⟨by kernel_rfl, by kernel_rfl⟩
theorem l222 : cFunc Tryz.prog 222 = some TOP.af222 ∧ okFn Tryz.prog 222 = true := ⟨by kernel_rfl, by kernel_rfl⟩
end Go.Proofs.YtlkcohidkhbipaaGreat.lnk
