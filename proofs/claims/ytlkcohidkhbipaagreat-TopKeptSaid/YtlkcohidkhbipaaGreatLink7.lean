/- Machine code of some functions is what the program holds. No condition. -/
import Derived.Test.YtlkcohidkhbipaaGreatRows
import Derived.Test.YtlkcohidkhbipaaGreatRWa
import Derived.Test.YtlkcohidkhbipaaGreatBT
import Derived.Test.YtlkcohidkhbipaaGreatPLk
import Derived.WalkKit
import Derived.ProofKit
import Derived.OpenShut
import Derived.ShutString
import Derived.ChangeOld
import Derived.Below
import Derived.SizedLaws
import Derived.Carry
namespace Go.Proofs.YtlkcohidkhbipaaGreat.lnk
open Go.ChangeShapes Go.WideShapes Go.ChangeAt Go.RowKit Go.AM
set_option linter.all false
set_option maxRecDepth 10000
theorem l21 : cFunc Tryz.prog 21 = some TOP.af21 ∧ okFn Tryz.prog 21 = true := ⟨by kernel_rfl, by kernel_rfl⟩
theorem l32 : cFunc Tryz.prog 32 = some TOP.af32 ∧ okFn Tryz.prog 32 = true := ⟨by kernel_rfl, by kernel_rfl⟩
theorem l46 : cFunc Tryz.prog 46 = some TOP.af46 ∧ okFn Tryz.prog 46 = true := ⟨by kernel_rfl, by kernel_rfl⟩
theorem l54 : cFunc Tryz.prog 54 = some TOP.af54 ∧ okFn Tryz.prog 54 = true := ⟨by kernel_rfl, by kernel_rfl⟩
theorem l70 : cFunc Tryz.prog 70 = some TOP.af70 ∧ okFn Tryz.prog 70 = true := ⟨by kernel_rfl, by kernel_rfl⟩
theorem l78 : cFunc Tryz.prog 78 = some TOP.af78 ∧ okFn Tryz.prog 78 = true := ⟨by kernel_rfl, by kernel_rfl⟩
theorem l86 : cFunc Tryz.prog 86 = some TOP.af86 ∧ okFn Tryz.prog 86 = true := ⟨by kernel_rfl, by kernel_rfl⟩
theorem l100 : cFunc Tryz.prog 100 = some TOP.af100 ∧ okFn Tryz.prog 100 = true := ⟨by kernel_rfl, by kernel_rfl⟩
theorem l108 : cFunc Tryz.prog 108 = some TOP.af108 ∧ okFn Tryz.prog 108 = true := ⟨by kernel_rfl, by kernel_rfl⟩
theorem l118 : cFunc Tryz.prog 118 = some TOP.af118 ∧ okFn Tryz.prog 118 = true := ⟨by kernel_rfl, by kernel_rfl⟩
theorem l127 : cFunc Tryz.prog 127 = some TOP.af127 ∧ okFn Tryz.prog 127 = true := ⟨by kernel_rfl, by kernel_rfl⟩
theorem l141 : cFunc Tryz.prog 141 = some TOP.af141 ∧ okFn Tryz.prog 141 = true := ⟨by kernel_rfl, by kernel_rfl⟩
theorem l150 : cFunc Tryz.prog 150 = some TOP.af150 ∧ okFn Tryz.prog 150 = true := ⟨by kernel_rfl, by kernel_rfl⟩
theorem l159 : cFunc Tryz.prog 159 = some TOP.af159 ∧ okFn Tryz.prog 159 = true := ⟨by kernel_rfl, by kernel_rfl⟩
theorem l175 : cFunc Tryz.prog 175 = some TOP.af175 ∧ okFn Tryz.prog 175 = true := ⟨by kernel_rfl, by kernel_rfl⟩
theorem l185 : cFunc Tryz.prog 185 = some TOP.af185 ∧ okFn Tryz.prog 185 = true := ⟨by kernel_rfl, by kernel_rfl⟩
theorem l198 : cFunc Tryz.prog 198 = some TOP.af198 ∧ okFn Tryz.prog 198 = true := ⟨by kernel_rfl, by kernel_rfl⟩
theorem l215 : cFunc Tryz.prog 215 = some TOP.af215 ∧ okFn Tryz.prog 215 = true := ⟨by kernel_rfl, by kernel_rfl⟩
theorem l243 : cFunc Tryz.prog 243 = some TOP.af243 ∧ okFn Tryz.prog 243 = true := ⟨by kernel_rfl, by kernel_rfl⟩
end Go.Proofs.YtlkcohidkhbipaaGreat.lnk
