/- Machine code of some functions is what the program holds. No condition. -/
import Derived.Test.YtlkcohidkhbipaaGreatRows
import Derived.Test.YtlkcohidkhbipaaGreatRWa
import Derived.Test.YtlkcohidkhbipaaGreatBT
import Derived.Test.YtlkcohidkhbipaaGreatPLk
import Derived.WalkKit
import Derived.ProofKit
import Derived.OpenShut
import Derived.ShutString
import Derived.ChangeOld
import Derived.Below
import Derived.SizedLaws
import Derived.Carry
namespace Go.Proofs.YtlkcohidkhbipaaGreat.lnk
open Go.ChangeShapes Go.WideShapes Go.ChangeAt Go.RowKit Go.AM
set_option linter.all false
set_option maxRecDepth 10000
theorem l181 : cFunc Tryz.prog 181 = some TOP.af181 ∧ okFn Tryz.prog 181 = true := ⟨by kernel_rfl, by kernel_rfl⟩
theorem l16 : cFunc Tryz.prog 16 = some TOP.af16 ∧ okFn Tryz.prog 16 = true := ⟨by kernel_rfl, by kernel_rfl⟩
theorem l27 : cFunc Tryz.prog 27 = some TOP.af27 ∧ okFn Tryz.prog 27 = true := ⟨by kernel_rfl, by kernel_rfl⟩
theorem l39 : cFunc Tryz.prog 39 = some TOP.af39 ∧ okFn Tryz.prog 39 = true := ⟨by kernel_rfl, by kernel_rfl⟩
theorem l49 : cFunc Tryz.prog 49 = some TOP.af49 ∧ okFn Tryz.prog 49 = true := ⟨by kernel_rfl, by kernel_rfl⟩
theorem l64 : cFunc Tryz.prog 64 = some TOP.af64 ∧ okFn Tryz.prog 64 = true := ⟨by kernel_rfl, by kernel_rfl⟩
theorem l75 : cFunc Tryz.prog 75 = some TOP.af75 ∧ okFn Tryz.prog 75 = true := ⟨by kernel_rfl, by kernel_rfl⟩
theorem l83 : cFunc Tryz.prog 83 = some TOP.af83 ∧ okFn Tryz.prog 83 = true := ⟨by kernel_rfl, by kernel_rfl⟩
theorem l97 : cFunc Tryz.prog 97 = some TOP.af97 ∧ okFn Tryz.prog 97 = true := ⟨by kernel_rfl, by kernel_rfl⟩
theorem l105 : cFunc Tryz.prog 105 = some TOP.af105 ∧ okFn Tryz.prog 105 = true := ⟨by kernel_rfl, by kernel_rfl⟩
theorem l115 : cFunc Tryz.prog 115 = some TOP.af115 ∧ okFn Tryz.prog 115 = true := ⟨by kernel_rfl, by kernel_rfl⟩
theorem l126 : cFunc Tryz.prog 126 = some TOP.af126 ∧ okFn Tryz.prog 126 = true := ⟨by kernel_rfl, by kernel_rfl⟩
theorem l140 : cFunc Tryz.prog 140 = some TOP.af140 ∧ okFn Tryz.prog 140 = true := ⟨by kernel_rfl, by kernel_rfl⟩
theorem l149 : cFunc Tryz.prog 149 = some TOP.af149 ∧ okFn Tryz.prog 149 = true := ⟨by kernel_rfl, by kernel_rfl⟩
theorem l157 : cFunc Tryz.prog 157 = some TOP.af157 ∧ okFn Tryz.prog 157 = true := ⟨by kernel_rfl, by kernel_rfl⟩
theorem l165 : cFunc Tryz.prog 165 = some TOP.af165 ∧ okFn Tryz.prog 165 = true := ⟨by kernel_rfl, by kernel_rfl⟩
theorem l182 : cFunc Tryz.prog 182 = some TOP.af182 ∧ okFn Tryz.prog 182 = true := ⟨by kernel_rfl, by kernel_rfl⟩
theorem l194 : cFunc Tryz.prog 194 = some TOP.af194 ∧ okFn Tryz.prog 194 = true := ⟨by kernel_rfl, by kernel_rfl⟩
theorem l209 : cFunc Tryz.prog 209 = some TOP.af209 ∧ okFn Tryz.prog 209 = true := ⟨by kernel_rfl, by kernel_rfl⟩
theorem l219 : cFunc Tryz.prog 219 = some TOP.af219 ∧ okFn Tryz.prog 219 = true := ⟨by kernel_rfl, by kernel_rfl⟩
theorem l255 : cFunc Tryz.prog 255 = some TOP.af255 ∧ okFn Tryz.prog 255 = true := ⟨by kernel_rfl, by kernel_rfl⟩
end Go.Proofs.YtlkcohidkhbipaaGreat.lnk
