/- Machine code of some functions is what the program holds. No condition. -/
import Derived.Test.YtlkcohidkhbipaaGreatRows
import Derived.Test.YtlkcohidkhbipaaGreatRWa
import Derived.Test.YtlkcohidkhbipaaGreatBT
import Derived.Test.YtlkcohidkhbipaaGreatPLk
import Derived.WalkKit
import Derived.ProofKit
import Derived.OpenShut
import Derived.ShutString
import Derived.ChangeOld
import Derived.Below
import Derived.SizedLaws
import Derived.Carry
namespace Go.Proofs.YtlkcohidkhbipaaGreat.lnk
open Go.ChangeShapes Go.WideShapes Go.ChangeAt Go.RowKit Go.AM
set_option linter.all false
set_option maxRecDepth 10000
theorem l65 : cFunc Tryz.prog 65 = some TOP.af65 ∧ okFn Tryz.prog 65 = true := ⟨by kernel_rfl, by kernel_rfl⟩
theorem l3 : cFunc Tryz.prog 3 = some TOP.af3 ∧ okFn Tryz.prog 3 = true := ⟨by kernel_rfl, by kernel_rfl⟩
theorem l22 : cFunc Tryz.prog 22 = some TOP.af22 ∧ okFn Tryz.prog 22 = true := ⟨by kernel_rfl, by kernel_rfl⟩
theorem l33 : cFunc Tryz.prog 33 = some TOP.af33 ∧ okFn Tryz.prog 33 = true := ⟨by kernel_rfl, by kernel_rfl⟩
theorem l47 : cFunc Tryz.prog 47 = some TOP.af47 ∧ okFn Tryz.prog 47 = true := ⟨by kernel_rfl, by kernel_rfl⟩
theorem l55 : cFunc Tryz.prog 55 = some TOP.af55 ∧ okFn Tryz.prog 55 = true := ⟨by kernel_rfl, by kernel_rfl⟩
theorem l71 : cFunc Tryz.prog 71 = some TOP.af71 ∧ okFn Tryz.prog 71 = true := ⟨by kernel_rfl, by kernel_rfl⟩
theorem l79 : cFunc Tryz.prog 79 = some TOP.af79 ∧ okFn Tryz.prog 79 = true := ⟨by kernel_rfl, by kernel_rfl⟩
theorem l87 : cFunc Tryz.prog 87 = some TOP.af87 ∧ okFn Tryz.prog 87 = true := ⟨by kernel_rfl, by kernel_rfl⟩
theorem l101 : cFunc Tryz.prog 101 = some TOP.af101 ∧ okFn Tryz.prog 101 = true := ⟨by kernel_rfl, by kernel_rfl⟩
theorem l111 : cFunc Tryz.prog 111 = some TOP.af111 ∧ okFn Tryz.prog 111 = true := ⟨by kernel_rfl, by kernel_rfl⟩
theorem l119 : cFunc Tryz.prog 119 = some TOP.af119 ∧ okFn Tryz.prog 119 = true := ⟨by kernel_rfl, by kernel_rfl⟩
theorem l135 : cFunc Tryz.prog 135 = some TOP.af135 ∧ okFn Tryz.prog 135 = true := ⟨by kernel_rfl, by kernel_rfl⟩
theorem l143 : cFunc Tryz.prog 143 = some TOP.af143 ∧ okFn Tryz.prog 143 = true := ⟨by kernel_rfl, by kernel_rfl⟩
theorem l152 : cFunc Tryz.prog 152 = some TOP.af152 ∧ okFn Tryz.prog 152 = true := ⟨by kernel_rfl, by kernel_rfl⟩
theorem l161 : cFunc Tryz.prog 161 = some TOP.af161 ∧ okFn Tryz.prog 161 = true := ⟨by kernel_rfl, by kernel_rfl⟩
theorem l177 : cFunc Tryz.prog 177 = some TOP.af177 ∧ okFn Tryz.prog 177 = true := ⟨by kernel_rfl, by kernel_rfl⟩
theorem l188 : cFunc Tryz.prog 188 = some TOP.af188 ∧ okFn Tryz.prog 188 = true := ⟨by kernel_rfl, by kernel_rfl⟩
theorem l204 : cFunc Tryz.prog 204 = some TOP.af204 ∧ okFn Tryz.prog 204 = true := ⟨by kernel_rfl, by kernel_rfl⟩
theorem l218 : cFunc Tryz.prog 218 = some TOP.af218 ∧ okFn Tryz.prog 218 = true := ⟨by kernel_rfl, by kernel_rfl⟩
theorem l245 : cFunc Tryz.prog 245 = some TOP.af245 ∧ okFn Tryz.prog 245 = true := ⟨by kernel_rfl, by kernel_rfl⟩
end Go.Proofs.YtlkcohidkhbipaaGreat.lnk
