/- Machine code of some functions is what the program holds. No condition. -/
import Derived.Test.YtlkcohidkhbipaaGreatRows
import Derived.Test.YtlkcohidkhbipaaGreatRWa
import Derived.Test.YtlkcohidkhbipaaGreatBT
import Derived.Test.YtlkcohidkhbipaaGreatPLk
import Derived.WalkKit
import Derived.ProofKit
import Derived.OpenShut
import Derived.ShutString
import Derived.ChangeOld
import Derived.Below
import Derived.SizedLaws
import Derived.Carry
namespace Go.Proofs.YtlkcohidkhbipaaGreat.lnk
open Go.ChangeShapes Go.WideShapes Go.ChangeAt Go.RowKit Go.AM
set_option linter.all false
set_option maxRecDepth 10000
theorem l109 : cFunc Tryz.prog 109 = some TOP.af109 ∧ okFn Tryz.prog 109 = true := ⟨by kernel_rfl, by kernel_rfl⟩
theorem l15 : cFunc Tryz.prog 15 = some TOP.af15 ∧ okFn Tryz.prog 15 = true := ⟨by kernel_rfl, by kernel_rfl⟩
theorem l23 : cFunc Tryz.prog 23 = some TOP.af23 ∧ okFn Tryz.prog 23 = true := ⟨by kernel_rfl, by kernel_rfl⟩
theorem l36 : cFunc Tryz.prog 36 = some TOP.af36 ∧ okFn Tryz.prog 36 = true := ⟨by kernel_rfl, by kernel_rfl⟩
theorem l48 : cFunc Tryz.prog 48 = some TOP.af48 ∧ okFn Tryz.prog 48 = true := ⟨by kernel_rfl, by kernel_rfl⟩
theorem l60 : cFunc Tryz.prog 60 = some TOP.af60 ∧ okFn Tryz.prog 60 = true := ⟨by kernel_rfl, by kernel_rfl⟩
theorem l72 : cFunc Tryz.prog 72 = some TOP.af72 ∧ okFn Tryz.prog 72 = true := ⟨by kernel_rfl, by kernel_rfl⟩
theorem l80 : cFunc Tryz.prog 80 = some TOP.af80 ∧ okFn Tryz.prog 80 = true := ⟨by kernel_rfl, by kernel_rfl⟩
theorem l88 : cFunc Tryz.prog 88 = some TOP.af88 ∧ okFn Tryz.prog 88 = true := ⟨by kernel_rfl, by kernel_rfl⟩
theorem l102 : cFunc Tryz.prog 102 = some TOP.af102 ∧ okFn Tryz.prog 102 = true := ⟨by kernel_rfl, by kernel_rfl⟩
theorem l112 : cFunc Tryz.prog 112 = some TOP.af112 ∧ okFn Tryz.prog 112 = true := ⟨by kernel_rfl, by kernel_rfl⟩
theorem l121 : cFunc Tryz.prog 121 = some TOP.af121 ∧ okFn Tryz.prog 121 = true := ⟨by kernel_rfl, by kernel_rfl⟩
theorem l136 : cFunc Tryz.prog 136 = some TOP.af136 ∧ okFn Tryz.prog 136 = true := ⟨by kernel_rfl, by kernel_rfl⟩
theorem l145 : cFunc Tryz.prog 145 = some TOP.af145 ∧ okFn Tryz.prog 145 = true := ⟨by kernel_rfl, by kernel_rfl⟩
theorem l153 : cFunc Tryz.prog 153 = some TOP.af153 ∧ okFn Tryz.prog 153 = true := ⟨by kernel_rfl, by kernel_rfl⟩
theorem l162 : cFunc Tryz.prog 162 = some TOP.af162 ∧ okFn Tryz.prog 162 = true := ⟨by kernel_rfl, by kernel_rfl⟩
theorem l178 : cFunc Tryz.prog 178 = some TOP.af178 ∧ okFn Tryz.prog 178 = true := ⟨by kernel_rfl, by kernel_rfl⟩
theorem l193 : cFunc Tryz.prog 193 = some TOP.af193 ∧ okFn Tryz.prog 193 = true := ⟨by kernel_rfl, by kernel_rfl⟩
theorem l210 : cFunc Tryz.prog 210 = some TOP.af210 ∧ okFn Tryz.prog 210 = true := ⟨by kernel_rfl, by kernel_rfl⟩
theorem l219 : cFunc Tryz.prog 219 = some TOP.af219 ∧ okFn Tryz.prog 219 = true := ⟨by kernel_rfl, by kernel_rfl⟩
theorem l256 : cFunc Tryz.prog 256 = some TOP.af256 ∧ okFn Tryz.prog 256 = true := ⟨by kernel_rfl, by kernel_rfl⟩
end Go.Proofs.YtlkcohidkhbipaaGreat.lnk
