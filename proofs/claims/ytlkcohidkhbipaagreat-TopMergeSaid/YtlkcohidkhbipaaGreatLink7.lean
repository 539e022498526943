/- Machine code of some functions is what the program holds. No condition. -/
import Derived.Test.YtlkcohidkhbipaaGreatRows
import Derived.Test.YtlkcohidkhbipaaGreatRWa
import Derived.Test.YtlkcohidkhbipaaGreatBT
import Derived.Test.YtlkcohidkhbipaaGreatPLk
import Derived.WalkKit
import Derived.ProofKit
import Derived.OpenShut
import Derived.ShutString
import Derived.ChangeOld
import Derived.Below
import Derived.SizedLaws
import Derived.Carry
namespace Go.Proofs.YtlkcohidkhbipaaGreat.lnk
open Go.ChangeShapes Go.WideShapes Go.ChangeAt Go.RowKit Go.AM
set_option linter.all false
set_option maxRecDepth 10000
theorem l21 : cFunc Tryz.prog 21 = some TOP.af21 ∧ okFn Tryz.prog 21 = true := ⟨by kernel_rfl, by kernel_rfl⟩
theorem l32 : cFunc Tryz.prog 32 = some TOP.af32 ∧ okFn Tryz.prog 32 = true := ⟨by kernel_rfl, by kernel_rfl⟩
theorem l46 : cFunc Tryz.prog 46 = some TOP.af46 ∧ okFn Tryz.prog 46 = true := ⟨by kernel_rfl, by kernel_rfl⟩
theorem l54 : cFunc Tryz.prog 54 = some TOP.af54 ∧ okFn Tryz.prog 54 = true := ⟨by kernel_rfl, by kernel_rfl⟩
theorem l70 : cFunc Tryz.prog 70 = some TOP.af70 ∧ okFn Tryz.prog 70 = true := ⟨by kernel_rfl, by kernel_rfl⟩
theorem l78 : cFunc Tryz.prog 78 = some TOP.af78 ∧ okFn Tryz.prog 78 = true := ⟨by kernel_rfl, by kernel_rfl⟩
theorem l86 : cFunc Tryz.prog 86 = some TOP.af86 ∧ okFn Tryz.prog 86 = true := ⟨by kernel_rfl, by kernel_rfl⟩
theorem l100 : cFunc Tryz.prog 100 = some TOP.af100 ∧ okFn Tryz.prog 100 = true := ⟨by kernel_rfl, by kernel_rfl⟩
theorem l108 : cFunc Tryz.prog 108 = some TOP.af108 ∧ okFn Tryz.prog 108 = true := ⟨by kernel_rfl, by kernel_rfl⟩
theorem l118 : cFunc Tryz.prog 118 = some TOP.af118 ∧ okFn Tryz.prog 118 = true := ⟨by kernel_rfl, by kernel_rfl⟩
theorem l134 : cFunc Tryz.prog 134 = some TOP.af134 ∧ okFn Tryz.prog 134 = true := ⟨by kernel_rfl, by kernel_rfl⟩
theorem l142 : cFunc Tryz.prog 142 = some TOP.af142 ∧ okFn Tryz.prog 142 = true := ⟨by kernel_rfl, by kernel_rfl⟩
theorem l151 : cFunc Tryz.prog 151 = some TOP.af151 ∧ okFn Tryz.prog 151 = true := ⟨by kernel_rfl, by kernel_rfl⟩
theorem l160 : cFunc Tryz.prog 160 = some TOP.af160 ∧ okFn Tryz.prog 160 = true := ⟨by kernel_rfl, by kernel_rfl⟩
theorem l176 : cFunc Tryz.prog 176 = some TOP.af176 ∧ okFn Tryz.prog 176 = true := ⟨by kernel_rfl, by kernel_rfl⟩
theorem l186 : cFunc Tryz.prog 186 = some TOP.af186 ∧ okFn Tryz.prog 186 = true := ⟨by kernel_rfl, by kernel_rfl⟩
theorem l199 : cFunc Tryz.prog 199 = some TOP.af199 ∧ okFn Tryz.prog 199 = true := ⟨by kernel_rfl, by kernel_rfl⟩
theorem l216 : cFunc Tryz.prog 216 = some TOP.af216 ∧ okFn Tryz.prog 216 = true := ⟨by kernel_rfl, by kernel_rfl⟩
theorem l244 : cFunc Tryz.prog 244 = some TOP.af244 ∧ okFn Tryz.prog 244 = true := ⟨by kernel_rfl, by kernel_rfl⟩
end Go.Proofs.YtlkcohidkhbipaaGreat.lnk
