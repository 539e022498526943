/- Machine code of some functions is what the program holds. No condition. -/
import Derived.Test.YtlkcohidkhbipaaGreatRows
import Derived.Test.YtlkcohidkhbipaaGreatRWa
import Derived.Test.YtlkcohidkhbipaaGreatBT
import Derived.Test.YtlkcohidkhbipaaGreatPLk
import Derived.WalkKit
import Derived.ProofKit
import Derived.OpenShut
import Derived.ShutString
import Derived.ChangeOld
import Derived.Below
import Derived.SizedLaws
import Derived.Carry
namespace Go.Proofs.YtlkcohidkhbipaaGreat.lnk
open Go.ChangeShapes Go.WideShapes Go.ChangeAt Go.RowKit Go.AM
set_option linter.all false
set_option maxRecDepth 10000
theorem l205 : cFunc Tryz.prog 205 = some TOP.af205 ∧ okFn Tryz.prog 205 = true := ⟨by kernel_rfl, by kernel_rfl⟩
theorem l18 : cFunc Tryz.prog 18 = some TOP.af18 ∧ okFn Tryz.prog 18 = true := ⟨by kernel_rfl, by kernel_rfl⟩
theorem l29 : cFunc Tryz.prog 29 = some TOP.af29 ∧ okFn Tryz.prog 29 = true := ⟨by kernel_rfl, by kernel_rfl⟩
theorem l42 : cFunc Tryz.prog 42 = some TOP.af42 ∧ okFn Tryz.prog 42 = true := ⟨by kernel_rfl, by kernel_rfl⟩
theorem l50 : cFunc Tryz.prog 50 = some TOP.af50 ∧ okFn Tryz.prog 50 = true := ⟨by kernel_rfl, by kernel_rfl⟩
theorem l67 : cFunc Tryz.prog 67 = some TOP.af67 ∧ okFn Tryz.prog 67 = true := ⟨by kernel_rfl, by kernel_rfl⟩
theorem l75 : cFunc Tryz.prog 75 = some TOP.af75 ∧ okFn Tryz.prog 75 = true := ⟨by kernel_rfl, by kernel_rfl⟩
theorem l83 : cFunc Tryz.prog 83 = some TOP.af83 ∧ okFn Tryz.prog 83 = true := ⟨by kernel_rfl, by kernel_rfl⟩
theorem l97 : cFunc Tryz.prog 97 = some TOP.af97 ∧ okFn Tryz.prog 97 = true := ⟨by kernel_rfl, by kernel_rfl⟩
theorem l105 : cFunc Tryz.prog 105 = some TOP.af105 ∧ okFn Tryz.prog 105 = true := ⟨by kernel_rfl, by kernel_rfl⟩
theorem l114 : cFunc Tryz.prog 114 = some TOP.af114 ∧ okFn Tryz.prog 114 = true := ⟨by kernel_rfl, by kernel_rfl⟩
theorem l124 : cFunc Tryz.prog 124 = some TOP.af124 ∧ okFn Tryz.prog 124 = true := ⟨by kernel_rfl, by kernel_rfl⟩
theorem l139 : cFunc Tryz.prog 139 = some TOP.af139 ∧ okFn Tryz.prog 139 = true := ⟨by kernel_rfl, by kernel_rfl⟩
theorem l148 : cFunc Tryz.prog 148 = some TOP.af148 ∧ okFn Tryz.prog 148 = true := ⟨by kernel_rfl, by kernel_rfl⟩
theorem l156 : cFunc Tryz.prog 156 = some TOP.af156 ∧ okFn Tryz.prog 156 = true := ⟨by kernel_rfl, by kernel_rfl⟩
theorem l164 : cFunc Tryz.prog 164 = some TOP.af164 ∧ okFn Tryz.prog 164 = true := ⟨by kernel_rfl, by kernel_rfl⟩
theorem l180 : cFunc Tryz.prog 180 = some TOP.af180 ∧ okFn Tryz.prog 180 = true := ⟨by kernel_rfl, by kernel_rfl⟩
theorem l194 : cFunc Tryz.prog 194 = some TOP.af194 ∧ okFn Tryz.prog 194 = true := ⟨by kernel_rfl, by kernel_rfl⟩
theorem l210 : cFunc Tryz.prog 210 = some TOP.af210 ∧ okFn Tryz.prog 210 = true := ⟨by kernel_rfl, by kernel_rfl⟩
theorem l220 : cFunc Tryz.prog 220 = some TOP.af220 ∧ okFn Tryz.prog 220 = true := ⟨by kernel_rfl, by kernel_rfl⟩
theorem l257 : cFunc Tryz.prog 257 = some TOP.af257 ∧ okFn Tryz.prog 257 = true := ⟨by kernel_rfl, by kernel_rfl⟩
end Go.Proofs.YtlkcohidkhbipaaGreat.lnk
