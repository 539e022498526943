/- Machine code of some functions is what the program holds. No condition. -/
import Derived.Test.YtlkcohidkhbipaaGreatRows
import Derived.Test.YtlkcohidkhbipaaGreatRWa
import Derived.Test.YtlkcohidkhbipaaGreatBT
import Derived.Test.YtlkcohidkhbipaaGreatPLk
import Derived.WalkKit
import Derived.ProofKit
import Derived.OpenShut
import Derived.ShutString
import Derived.ChangeOld
import Derived.Below
import Derived.SizedLaws
import Derived.Carry
namespace Go.Proofs.YtlkcohidkhbipaaGreat.lnk
open Go.ChangeShapes Go.WideShapes Go.ChangeAt Go.RowKit Go.AM
set_option linter.all false
set_option maxRecDepth 10000
theorem l20 : cFunc Tryz.prog 20 = some TOP.af20 ∧ okFn Tryz.prog 20 = true := ⟨by kernel_rfl, by kernel_rfl⟩
theorem l30 : cFunc Tryz.prog 30 = some TOP.af30 ∧ okFn Tryz.prog 30 = true := ⟨by kernel_rfl, by kernel_rfl⟩
theorem l45 : cFunc Tryz.prog 45 = some TOP.af45 ∧ okFn Tryz.prog 45 = true := ⟨by kernel_rfl, by kernel_rfl⟩
theorem l53 : cFunc Tryz.prog 53 = some TOP.af53 ∧ okFn Tryz.prog 53 = true := ⟨by kernel_rfl, by kernel_rfl⟩
theorem l67 : cFunc Tryz.prog 67 = some TOP.af67 ∧ okFn Tryz.prog 67 = true := ⟨by kernel_rfl, by kernel_rfl⟩
theorem l77 : cFunc Tryz.prog 77 = some TOP.af77 ∧ okFn Tryz.prog 77 = true := ⟨by kernel_rfl, by kernel_rfl⟩
theorem l85 : cFunc Tryz.prog 85 = some TOP.af85 ∧ okFn Tryz.prog 85 = true := ⟨by kernel_rfl, by kernel_rfl⟩
theorem l99 : cFunc Tryz.prog 99 = some TOP.af99 ∧ okFn Tryz.prog 99 = true := ⟨by kernel_rfl, by kernel_rfl⟩
theorem l107 : cFunc Tryz.prog 107 = some TOP.af107 ∧ okFn Tryz.prog 107 = true := ⟨by kernel_rfl, by kernel_rfl⟩
theorem l117 : cFunc Tryz.prog 117 = some TOP.af117 ∧ okFn Tryz.prog 117 = true := ⟨by kernel_rfl, by kernel_rfl⟩
theorem l127 : cFunc Tryz.prog 127 = some TOP.af127 ∧ okFn Tryz.prog 127 = true := ⟨by kernel_rfl, by kernel_rfl⟩
theorem l141 : cFunc Tryz.prog 141 = some TOP.af141 ∧ okFn Tryz.prog 141 = true := ⟨by kernel_rfl, by kernel_rfl⟩
theorem l150 : cFunc Tryz.prog 150 = some TOP.af150 ∧ okFn Tryz.prog 150 = true := ⟨by kernel_rfl, by kernel_rfl⟩
theorem l159 : cFunc Tryz.prog 159 = some TOP.af159 ∧ okFn Tryz.prog 159 = true := ⟨by kernel_rfl, by kernel_rfl⟩
theorem l175 : cFunc Tryz.prog 175 = some TOP.af175 ∧ okFn Tryz.prog 175 = true := ⟨by kernel_rfl, by kernel_rfl⟩
theorem l185 : cFunc Tryz.prog 185 = some TOP.af185 ∧ okFn Tryz.prog 185 = true := ⟨by kernel_rfl, by kernel_rfl⟩
theorem l198 : cFunc Tryz.prog 198 = some TOP.af198 ∧ okFn Tryz.prog 198 = true := ⟨by kernel_rfl, by kernel_rfl⟩
theorem l215 : cFunc Tryz.prog 215 = some TOP.af215 ∧ okFn Tryz.prog 215 = true := ⟨by kernel_rfl, by kernel_rfl⟩
theorem l243 : cFunc Tryz.prog 243 = some TOP.af243 ∧ okFn Tryz.prog 243 = true := ⟨by kernel_rfl, by kernel_rfl⟩
end Go.Proofs.YtlkcohidkhbipaaGreat.lnk
