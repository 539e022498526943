/- Machine code of some functions is what the program holds. No condition. -/
import Derived.Test.YtlkcohidkhbipaaGreatRows
import Derived.Test.YtlkcohidkhbipaaGreatRWa
import Derived.Test.YtlkcohidkhbipaaGreatBT
import Derived.Test.YtlkcohidkhbipaaGreatPLk
import Derived.WalkKit
import Derived.ProofKit
import Derived.OpenShut
import Derived.ShutString
import Derived.ChangeOld
import Derived.Below
import Derived.SizedLaws
import Derived.Carry
namespace Go.Proofs.YtlkcohidkhbipaaGreat.lnk
open Go.ChangeShapes Go.WideShapes Go.ChangeAt Go.RowKit Go.AM
set_option linter.all false
set_option maxRecDepth 10000
theorem l65 : cFunc Tryz.prog 65 = some TOP.af65 ∧ okFn Tryz.prog 65 = true := ⟨by kernel_rfl, by kernel_rfl⟩
theorem l13 : cFunc Tryz.prog 13 = some TOP.af13 ∧ okFn Tryz.prog 13 = true := ⟨by kernel_rfl, by kernel_rfl⟩
theorem l23 : cFunc Tryz.prog 23 = some TOP.af23 ∧ okFn Tryz.prog 23 = true := ⟨by kernel_rfl, by kernel_rfl⟩
theorem l36 : cFunc Tryz.prog 36 = some TOP.af36 ∧ okFn Tryz.prog 36 = true := ⟨by kernel_rfl, by kernel_rfl⟩
theorem l47 : cFunc Tryz.prog 47 = some TOP.af47 ∧ okFn Tryz.prog 47 = true := ⟨by kernel_rfl, by kernel_rfl⟩
theorem l62 : cFunc Tryz.prog 62 = some TOP.af62 ∧ okFn Tryz.prog 62 = true := ⟨by kernel_rfl, by kernel_rfl⟩
theorem l73 : cFunc Tryz.prog 73 = some TOP.af73 ∧ okFn Tryz.prog 73 = true := ⟨by kernel_rfl, by kernel_rfl⟩
theorem l81 : cFunc Tryz.prog 81 = some TOP.af81 ∧ okFn Tryz.prog 81 = true := ⟨by kernel_rfl, by kernel_rfl⟩
theorem l95 : cFunc Tryz.prog 95 = some TOP.af95 ∧ okFn Tryz.prog 95 = true := ⟨by kernel_rfl, by kernel_rfl⟩
theorem l103 : cFunc Tryz.prog 103 = some TOP.af103 ∧ okFn Tryz.prog 103 = true := ⟨by kernel_rfl, by kernel_rfl⟩
theorem l113 : cFunc Tryz.prog 113 = some TOP.af113 ∧ okFn Tryz.prog 113 = true := ⟨by kernel_rfl, by kernel_rfl⟩
theorem l123 : cFunc Tryz.prog 123 = some TOP.af123 ∧ okFn Tryz.prog 123 = true := ⟨by kernel_rfl, by kernel_rfl⟩
theorem l138 : cFunc Tryz.prog 138 = some TOP.af138 ∧ okFn Tryz.prog 138 = true := ⟨by kernel_rfl, by kernel_rfl⟩
theorem l147 : cFunc Tryz.prog 147 = some TOP.af147 ∧ okFn Tryz.prog 147 = true := ⟨by kernel_rfl, by kernel_rfl⟩
theorem l155 : cFunc Tryz.prog 155 = some TOP.af155 ∧ okFn Tryz.prog 155 = true := ⟨by kernel_rfl, by kernel_rfl⟩
theorem l163 : cFunc Tryz.prog 163 = some TOP.af163 ∧ okFn Tryz.prog 163 = true := ⟨by kernel_rfl, by kernel_rfl⟩
theorem l179 : cFunc Tryz.prog 179 = some TOP.af179 ∧ okFn Tryz.prog 179 = true := ⟨by kernel_rfl, by kernel_rfl⟩
theorem l192 : cFunc Tryz.prog 192 = some TOP.af192 ∧ okFn Tryz.prog 192 = true := ⟨by kernel_rfl, by kernel_rfl⟩
theorem l204 : cFunc Tryz.prog 204 = some TOP.af204 ∧ okFn Tryz.prog 204 = true := ⟨by kernel_rfl, by kernel_rfl⟩
theorem l215 : cFunc Tryz.prog 215 = some TOP.af215 ∧ okFn Tryz.prog 215 = true := ⟨by kernel_rfl, by kernel_rfl⟩
theorem l244 : cFunc Tryz.prog 244 = some TOP.af244 ∧ okFn Tryz.prog 244 = true := ⟨by kernel_rfl, by kernel_rfl⟩
theorem l261 : cFunc Tryz.prog 261 = some TOP.af261 ∧ okFn Tryz.prog 261 = true := ⟨by kernel_rfl, by kernel_rfl⟩
end Go.Proofs.YtlkcohidkhbipaaGreat.lnk
