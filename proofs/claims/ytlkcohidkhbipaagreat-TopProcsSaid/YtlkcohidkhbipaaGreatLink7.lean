/- Machine code of some functions is what the program holds. No condition. -/
import Derived.Test.YtlkcohidkhbipaaGreatRows
import Derived.Test.YtlkcohidkhbipaaGreatRWa
import Derived.Test.YtlkcohidkhbipaaGreatBT
import Derived.Test.YtlkcohidkhbipaaGreatPLk
import Derived.WalkKit
import Derived.ProofKit
import Derived.OpenShut
import Derived.ShutString
import Derived.ChangeOld
import Derived.Below
import Derived.SizedLaws
import Derived.Carry
namespace Go.Proofs.YtlkcohidkhbipaaGreat.lnk
open Go.ChangeShapes Go.WideShapes Go.ChangeAt Go.RowKit Go.AM
set_option linter.all false
set_option maxRecDepth 10000
theorem l21 : cFunc Tryz.prog 21 = some TOP.af21 ∧ okFn Tryz.prog 21 = true := ⟨by kernel_rfl, by kernel_rfl⟩
theorem l33 : cFunc Tryz.prog 33 = some TOP.af33 ∧ okFn Tryz.prog 33 = true := ⟨by kernel_rfl, by kernel_rfl⟩
theorem l46 : cFunc Tryz.prog 46 = some TOP.af46 ∧ okFn Tryz.prog 46 = true := ⟨by kernel_rfl, by kernel_rfl⟩
theorem l61 : cFunc Tryz.prog 61 = some TOP.af61 ∧ okFn Tryz.prog 61 = true := ⟨by kernel_rfl, by kernel_rfl⟩
theorem l72 : cFunc Tryz.prog 72 = some TOP.af72 ∧ okFn Tryz.prog 72 = true := ⟨by kernel_rfl, by kernel_rfl⟩
theorem l80 : cFunc Tryz.prog 80 = some TOP.af80 ∧ okFn Tryz.prog 80 = true := ⟨by kernel_rfl, by kernel_rfl⟩
theorem l88 : cFunc Tryz.prog 88 = some TOP.af88 ∧ okFn Tryz.prog 88 = true := ⟨by kernel_rfl, by kernel_rfl⟩
theorem l102 : cFunc Tryz.prog 102 = some TOP.af102 ∧ okFn Tryz.prog 102 = true := ⟨by kernel_rfl, by kernel_rfl⟩
theorem l112 : cFunc Tryz.prog 112 = some TOP.af112 ∧ okFn Tryz.prog 112 = true := ⟨by kernel_rfl, by kernel_rfl⟩
theorem l122 : cFunc Tryz.prog 122 = some TOP.af122 ∧ okFn Tryz.prog 122 = true := ⟨by kernel_rfl, by kernel_rfl⟩
theorem l137 : cFunc Tryz.prog 137 = some TOP.af137 ∧ okFn Tryz.prog 137 = true := ⟨by kernel_rfl, by kernel_rfl⟩
theorem l146 : cFunc Tryz.prog 146 = some TOP.af146 ∧ okFn Tryz.prog 146 = true := ⟨by kernel_rfl, by kernel_rfl⟩
theorem l154 : cFunc Tryz.prog 154 = some TOP.af154 ∧ okFn Tryz.prog 154 = true := ⟨by kernel_rfl, by kernel_rfl⟩
theorem l162 : cFunc Tryz.prog 162 = some TOP.af162 ∧ okFn Tryz.prog 162 = true := ⟨by kernel_rfl, by kernel_rfl⟩
theorem l178 : cFunc Tryz.prog 178 = some TOP.af178 ∧ okFn Tryz.prog 178 = true := ⟨by kernel_rfl, by kernel_rfl⟩
theorem l189 : cFunc Tryz.prog 189 = some TOP.af189 ∧ okFn Tryz.prog 189 = true := ⟨by kernel_rfl, by kernel_rfl⟩
theorem l199 : cFunc Tryz.prog 199 = some TOP.af199 ∧ okFn Tryz.prog 199 = true := ⟨by kernel_rfl, by kernel_rfl⟩
theorem l214 : cFunc Tryz.prog 214 = some TOP.af214 ∧ okFn Tryz.prog 214 = true := ⟨by kernel_rfl, by kernel_rfl⟩
theorem l243 : cFunc Tryz.prog 243 = some TOP.af243 ∧ okFn Tryz.prog 243 = true := ⟨by kernel_rfl, by kernel_rfl⟩
theorem l260 : cFunc Tryz.prog 260 = some TOP.af260 ∧ okFn Tryz.prog 260 = true := ⟨by kernel_rfl, by kernel_rfl⟩
end Go.Proofs.YtlkcohidkhbipaaGreat.lnk
