/- Machine code of some functions is what the program holds. No condition. -/
import Derived.Test.YtlkcohidkhbipaaGreatRows
import Derived.Test.YtlkcohidkhbipaaGreatRWa
import Derived.Test.YtlkcohidkhbipaaGreatBT
import Derived.Test.YtlkcohidkhbipaaGreatPLk
import Derived.WalkKit
import Derived.ProofKit
import Derived.OpenShut
import Derived.ShutString
import Derived.ChangeOld
import Derived.Below
import Derived.SizedLaws
import Derived.Carry
namespace Go.Proofs.YtlkcohidkhbipaaGreat.lnk
open Go.ChangeShapes Go.WideShapes Go.ChangeAt Go.RowKit Go.AM
set_option linter.all false
set_option maxRecDepth 10000
theorem l183 : cFunc Tryz.prog 183 = some TOP.af183 ∧ okFn Tryz.prog 183 = true := ⟨by kernel_rfl, by kernel_rfl⟩
theorem l17 : cFunc Tryz.prog 17 = some TOP.af17 ∧ okFn Tryz.prog 17 = true := ⟨by kernel_rfl, by kernel_rfl⟩
theorem l28 : cFunc Tryz.prog 28 = some TOP.af28 ∧ okFn Tryz.prog 28 = true := ⟨by kernel_rfl, by kernel_rfl⟩
theorem l41 : cFunc Tryz.prog 41 = some TOP.af41 ∧ okFn Tryz.prog 41 = true := ⟨by kernel_rfl, by kernel_rfl⟩
theorem l49 : cFunc Tryz.prog 49 = some TOP.af49 ∧ okFn Tryz.prog 49 = true := ⟨by kernel_rfl, by kernel_rfl⟩
theorem l64 : cFunc Tryz.prog 64 = some TOP.af64 ∧ okFn Tryz.prog 64 = true := ⟨by kernel_rfl, by kernel_rfl⟩
theorem l74 : cFunc Tryz.prog 74 = some TOP.af74 ∧ okFn Tryz.prog 74 = true := ⟨by kernel_rfl, by kernel_rfl⟩
theorem l82 : cFunc Tryz.prog 82 = some TOP.af82 ∧ okFn Tryz.prog 82 = true := ⟨by kernel_rfl, by kernel_rfl⟩
theorem l96 : cFunc Tryz.prog 96 = some TOP.af96 ∧ okFn Tryz.prog 96 = true := ⟨by kernel_rfl, by kernel_rfl⟩
theorem l104 : cFunc Tryz.prog 104 = some TOP.af104 ∧ okFn Tryz.prog 104 = true := ⟨by kernel_rfl, by kernel_rfl⟩
theorem l113 : cFunc Tryz.prog 113 = some TOP.af113 ∧ okFn Tryz.prog 113 = true := ⟨by kernel_rfl, by kernel_rfl⟩
theorem l123 : cFunc Tryz.prog 123 = some TOP.af123 ∧ okFn Tryz.prog 123 = true := ⟨by kernel_rfl, by kernel_rfl⟩
theorem l138 : cFunc Tryz.prog 138 = some TOP.af138 ∧ okFn Tryz.prog 138 = true := ⟨by kernel_rfl, by kernel_rfl⟩
theorem l147 : cFunc Tryz.prog 147 = some TOP.af147 ∧ okFn Tryz.prog 147 = true := ⟨by kernel_rfl, by kernel_rfl⟩
theorem l155 : cFunc Tryz.prog 155 = some TOP.af155 ∧ okFn Tryz.prog 155 = true := ⟨by kernel_rfl, by kernel_rfl⟩
theorem l163 : cFunc Tryz.prog 163 = some TOP.af163 ∧ okFn Tryz.prog 163 = true := ⟨by kernel_rfl, by kernel_rfl⟩
theorem l179 : cFunc Tryz.prog 179 = some TOP.af179 ∧ okFn Tryz.prog 179 = true := ⟨by kernel_rfl, by kernel_rfl⟩
theorem l193 : cFunc Tryz.prog 193 = some TOP.af193 ∧ okFn Tryz.prog 193 = true := ⟨by kernel_rfl, by kernel_rfl⟩
theorem l209 : cFunc Tryz.prog 209 = some TOP.af209 ∧ okFn Tryz.prog 209 = true := ⟨by kernel_rfl, by kernel_rfl⟩
theorem l219 : cFunc Tryz.prog 219 = some TOP.af219 ∧ okFn Tryz.prog 219 = true := ⟨by kernel_rfl, by kernel_rfl⟩
theorem l256 : cFunc Tryz.prog 256 = some TOP.af256 ∧ okFn Tryz.prog 256 = true := ⟨by kernel_rfl, by kernel_rfl⟩
end Go.Proofs.YtlkcohidkhbipaaGreat.lnk
