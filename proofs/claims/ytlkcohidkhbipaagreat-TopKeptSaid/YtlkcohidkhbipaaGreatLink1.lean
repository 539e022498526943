/- Machine code of some functions is what the program holds. No condition. -/
import Derived.Test.YtlkcohidkhbipaaGreatRows
import Derived.Test.YtlkcohidkhbipaaGreatRWa
import Derived.Test.YtlkcohidkhbipaaGreatBT
import Derived.Test.YtlkcohidkhbipaaGreatPLk
import Derived.WalkKit
import Derived.ProofKit
import Derived.OpenShut
import Derived.ShutString
import Derived.ChangeOld
import Derived.Below
import Derived.SizedLaws
import Derived.Carry
namespace Go.Proofs.YtlkcohidkhbipaaGreat.lnk
open Go.ChangeShapes Go.WideShapes Go.ChangeAt Go.RowKit Go.AM
set_option linter.all false
set_option maxRecDepth 10000
theorem l109 : cFunc Tryz.prog 109 = some TOP.af109 ∧ okFn Tryz.prog 109 = true := ⟨by kernel_rfl, by kernel_rfl⟩
theorem l15 : cFunc Tryz.prog 15 = some TOP.af15 ∧ okFn Tryz.prog 15 = true := ⟨by kernel_rfl, by kernel_rfl⟩
theorem l23 : cFunc Tryz.prog 23 = some TOP.af23 ∧ okFn Tryz.prog 23 = true := ⟨by kernel_rfl, by kernel_rfl⟩
theorem l36 : cFunc Tryz.prog 36 = some TOP.af36 ∧ okFn Tryz.prog 36 = true := ⟨by kernel_rfl, by kernel_rfl⟩
theorem l48 : cFunc Tryz.prog 48 = some TOP.af48 ∧ okFn Tryz.prog 48 = true := ⟨by kernel_rfl, by kernel_rfl⟩
theorem l60 : cFunc Tryz.prog 60 = some TOP.af60 ∧ okFn Tryz.prog 60 = true := ⟨by kernel_rfl, by kernel_rfl⟩
theorem l72 : cFunc Tryz.prog 72 = some TOP.af72 ∧ okFn Tryz.prog 72 = true := ⟨by kernel_rfl, by kernel_rfl⟩
theorem l80 : cFunc Tryz.prog 80 = some TOP.af80 ∧ okFn Tryz.prog 80 = true := ⟨by kernel_rfl, by kernel_rfl⟩
theorem l88 : cFunc Tryz.prog 88 = some TOP.af88 ∧ okFn Tryz.prog 88 = true := ⟨by kernel_rfl, by kernel_rfl⟩
theorem l102 : cFunc Tryz.prog 102 = some TOP.af102 ∧ okFn Tryz.prog 102 = true := ⟨by kernel_rfl, by kernel_rfl⟩
theorem l112 : cFunc Tryz.prog 112 = some TOP.af112 ∧ okFn Tryz.prog 112 = true := ⟨by kernel_rfl, by kernel_rfl⟩
theorem l120 : cFunc Tryz.prog 120 = some TOP.af120 ∧ okFn Tryz.prog 120 = true := ⟨by kernel_rfl, by kernel_rfl⟩
theorem l135 : cFunc Tryz.prog 135 = some TOP.af135 ∧ okFn Tryz.prog 135 = true := ⟨by kernel_rfl, by kernel_rfl⟩
theorem l143 : cFunc Tryz.prog 143 = some TOP.af143 ∧ okFn Tryz.prog 143 = true := ⟨by kernel_rfl, by kernel_rfl⟩
theorem l152 : cFunc Tryz.prog 152 = some TOP.af152 ∧ okFn Tryz.prog 152 = true := ⟨by kernel_rfl, by kernel_rfl⟩
theorem l161 : cFunc Tryz.prog 161 = some TOP.af161 ∧ okFn Tryz.prog 161 = true := ⟨by kernel_rfl, by kernel_rfl⟩
theorem l177 : cFunc Tryz.prog 177 = some TOP.af177 ∧ okFn Tryz.prog 177 = true := ⟨by kernel_rfl, by kernel_rfl⟩
theorem l188 : cFunc Tryz.prog 188 = some TOP.af188 ∧ okFn Tryz.prog 188 = true := ⟨by kernel_rfl, by kernel_rfl⟩
theorem l204 : cFunc Tryz.prog 204 = some TOP.af204 ∧ okFn Tryz.prog 204 = true := ⟨by kernel_rfl, by kernel_rfl⟩
theorem l218 : cFunc Tryz.prog 218 = some TOP.af218 ∧ okFn Tryz.prog 218 = true := ⟨by kernel_rfl, by kernel_rfl⟩
theorem l245 : cFunc Tryz.prog 245 = some TOP.af245 ∧ okFn Tryz.prog 245 = true := ⟨by kernel_rfl, by kernel_rfl⟩
end Go.Proofs.YtlkcohidkhbipaaGreat.lnk
