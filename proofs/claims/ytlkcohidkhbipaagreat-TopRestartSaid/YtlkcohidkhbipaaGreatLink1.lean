/- Machine code of some functions is what the program holds. No condition. -/
import Derived.Test.YtlkcohidkhbipaaGreatRows
import Derived.Test.YtlkcohidkhbipaaGreatRWa
import Derived.Test.YtlkcohidkhbipaaGreatBT
import Derived.Test.YtlkcohidkhbipaaGreatPLk
import Derived.WalkKit
import Derived.ProofKit
import Derived.OpenShut
import Derived.ShutString
import Derived.ChangeOld
import Derived.Below
import Derived.SizedLaws
import Derived.Carry
namespace Go.Proofs.YtlkcohidkhbipaaGreat.lnk
open Go.ChangeShapes Go.WideShapes Go.ChangeAt Go.RowKit Go.AM
set_option linter.all false
set_option maxRecDepth 10000
theorem l109 : cFunc Tryz.prog 109 = some TOP.af109 ∧ okFn Tryz.prog 109 = true := ⟨by kernel_rfl, by kernel_rfl⟩
theorem l15 : cFunc Tryz.prog 15 = some TOP.af15 ∧ okFn Tryz.prog 15 = true := ⟨by kernel_rfl, by kernel_rfl⟩
theorem l26 : cFunc Tryz.prog 26 = some TOP.af26 ∧ okFn Tryz.prog 26 = true := ⟨by kernel_rfl, by kernel_rfl⟩
theorem l38 : cFunc Tryz.prog 38 = some TOP.af38 ∧ okFn Tryz.prog 38 = true := ⟨by kernel_rfl, by kernel_rfl⟩
theorem l47 : cFunc Tryz.prog 47 = some TOP.af47 ∧ okFn Tryz.prog 47 = true := ⟨by kernel_rfl, by kernel_rfl⟩
theorem l62 : cFunc Tryz.prog 62 = some TOP.af62 ∧ okFn Tryz.prog 62 = true := ⟨by kernel_rfl, by kernel_rfl⟩
theorem l72 : cFunc Tryz.prog 72 = some TOP.af72 ∧ okFn Tryz.prog 72 = true := ⟨by kernel_rfl, by kernel_rfl⟩
theorem l80 : cFunc Tryz.prog 80 = some TOP.af80 ∧ okFn Tryz.prog 80 = true := ⟨by kernel_rfl, by kernel_rfl⟩
theorem l88 : cFunc Tryz.prog 88 = some TOP.af88 ∧ okFn Tryz.prog 88 = true := ⟨by kernel_rfl, by kernel_rfl⟩
theorem l102 : cFunc Tryz.prog 102 = some TOP.af102 ∧ okFn Tryz.prog 102 = true := ⟨by kernel_rfl, by kernel_rfl⟩
theorem l111 : cFunc Tryz.prog 111 = some TOP.af111 ∧ okFn Tryz.prog 111 = true := ⟨by kernel_rfl, by kernel_rfl⟩
theorem l121 : cFunc Tryz.prog 121 = some TOP.af121 ∧ okFn Tryz.prog 121 = true := ⟨by kernel_rfl, by kernel_rfl⟩
theorem l136 : cFunc Tryz.prog 136 = some TOP.af136 ∧ okFn Tryz.prog 136 = true := ⟨by kernel_rfl, by kernel_rfl⟩
theorem l145 : cFunc Tryz.prog 145 = some TOP.af145 ∧ okFn Tryz.prog 145 = true := ⟨by kernel_rfl, by kernel_rfl⟩
theorem l153 : cFunc Tryz.prog 153 = some TOP.af153 ∧ okFn Tryz.prog 153 = true := ⟨by kernel_rfl, by kernel_rfl⟩
theorem l161 : cFunc Tryz.prog 161 = some TOP.af161 ∧ okFn Tryz.prog 161 = true := ⟨by kernel_rfl, by kernel_rfl⟩
theorem l177 : cFunc Tryz.prog 177 = some TOP.af177 ∧ okFn Tryz.prog 177 = true := ⟨by kernel_rfl, by kernel_rfl⟩
theorem l188 : cFunc Tryz.prog 188 = some TOP.af188 ∧ okFn Tryz.prog 188 = true := ⟨by kernel_rfl, by kernel_rfl⟩
theorem l199 : cFunc Tryz.prog 199 = some TOP.af199 ∧ okFn Tryz.prog 199 = true := ⟨by kernel_rfl, by kernel_rfl⟩
theorem l215 : cFunc Tryz.prog 215 = some TOP.af215 ∧ okFn Tryz.prog 215 = true := ⟨by kernel_rfl, by kernel_rfl⟩
theorem l244 : cFunc Tryz.prog 244 = some TOP.af244 ∧ okFn Tryz.prog 244 = true := ⟨by kernel_rfl, by kernel_rfl⟩
end Go.Proofs.YtlkcohidkhbipaaGreat.lnk
