/- Machine code of some functions is what the program holds. No condition. -/
import Derived.Test.YtlkcohidkhbipaaGreatRows
import Derived.Test.YtlkcohidkhbipaaGreatRWa
import Derived.Test.YtlkcohidkhbipaaGreatBT
import Derived.Test.YtlkcohidkhbipaaGreatPLk
import Derived.WalkKit
import Derived.ProofKit
import Derived.OpenShut
import Derived.ShutString
import Derived.ChangeOld
import Derived.Below
import Derived.SizedLaws
import Derived.Carry
namespace Go.Proofs.YtlkcohidkhbipaaGreat.lnk
open Go.ChangeShapes Go.WideShapes Go.ChangeAt Go.RowKit Go.AM
set_option linter.all false
set_option maxRecDepth 10000
theorem l65 : cFunc Tryz.prog 65 = some TOP.af65 ∧ okFn Tryz.prog 65 = true := ⟨by kernel_rfl, by kernel_rfl⟩
theorem l4 : cFunc Tryz.prog 4 = some TOP.af4 ∧ okFn Tryz.prog 4 = true := ⟨by kernel_rfl, by kernel_rfl⟩
theorem l22 : cFunc Tryz.prog 22 = some TOP.af22 ∧ okFn Tryz.prog 22 = true := ⟨by kernel_rfl, by kernel_rfl⟩
theorem l33 : cFunc Tryz.prog 33 = some TOP.af33 ∧ okFn Tryz.prog 33 = true := ⟨by kernel_rfl, by kernel_rfl⟩
theorem l47 : cFunc Tryz.prog 47 = some TOP.af47 ∧ okFn Tryz.prog 47 = true := ⟨by kernel_rfl, by kernel_rfl⟩
theorem l55 : cFunc Tryz.prog 55 = some TOP.af55 ∧ okFn Tryz.prog 55 = true := ⟨by kernel_rfl, by kernel_rfl⟩
theorem l71 : cFunc Tryz.prog 71 = some TOP.af71 ∧ okFn Tryz.prog 71 = true := ⟨by kernel_rfl, by kernel_rfl⟩
theorem l79 : cFunc Tryz.prog 79 = some TOP.af79 ∧ okFn Tryz.prog 79 = true := ⟨by kernel_rfl, by kernel_rfl⟩
theorem l87 : cFunc Tryz.prog 87 = some TOP.af87 ∧ okFn Tryz.prog 87 = true := ⟨by kernel_rfl, by kernel_rfl⟩
theorem l101 : cFunc Tryz.prog 101 = some TOP.af101 ∧ okFn Tryz.prog 101 = true := ⟨by kernel_rfl, by kernel_rfl⟩
theorem l111 : cFunc Tryz.prog 111 = some TOP.af111 ∧ okFn Tryz.prog 111 = true := ⟨by kernel_rfl, by kernel_rfl⟩
theorem l119 : cFunc Tryz.prog 119 = some TOP.af119 ∧ okFn Tryz.prog 119 = true := ⟨by kernel_rfl, by kernel_rfl⟩
theorem l134 : cFunc Tryz.prog 134 = some TOP.af134 ∧ okFn Tryz.prog 134 = true := ⟨by kernel_rfl, by kernel_rfl⟩
theorem l142 : cFunc Tryz.prog 142 = some TOP.af142 ∧ okFn Tryz.prog 142 = true := ⟨by kernel_rfl, by kernel_rfl⟩
theorem l151 : cFunc Tryz.prog 151 = some TOP.af151 ∧ okFn Tryz.prog 151 = true := ⟨by kernel_rfl, by kernel_rfl⟩
theorem l160 : cFunc Tryz.prog 160 = some TOP.af160 ∧ okFn Tryz.prog 160 = true := ⟨by kernel_rfl, by kernel_rfl⟩
theorem l176 : cFunc Tryz.prog 176 = some TOP.af176 ∧ okFn Tryz.prog 176 = true := ⟨by kernel_rfl, by kernel_rfl⟩
theorem l186 : cFunc Tryz.prog 186 = some TOP.af186 ∧ okFn Tryz.prog 186 = true := ⟨by kernel_rfl, by kernel_rfl⟩
theorem l199 : cFunc Tryz.prog 199 = some TOP.af199 ∧ okFn Tryz.prog 199 = true := ⟨by kernel_rfl, by kernel_rfl⟩
theorem l216 : cFunc Tryz.prog 216 = some TOP.af216 ∧ okFn Tryz.prog 216 = true := ⟨by kernel_rfl, by kernel_rfl⟩
theorem l244 : cFunc Tryz.prog 244 = some TOP.af244 ∧ okFn Tryz.prog 244 = true := ⟨by kernel_rfl, by kernel_rfl⟩
end Go.Proofs.YtlkcohidkhbipaaGreat.lnk
