/- Machine code of some functions is what the program holds. No condition. -/
import Derived.Test.YtlkcohidkhbipaaGreatRows
import Derived.Test.YtlkcohidkhbipaaGreatRWa
import Derived.Test.YtlkcohidkhbipaaGreatBT
import Derived.Test.YtlkcohidkhbipaaGreatPLk
import Derived.WalkKit
import Derived.ProofKit
import Derived.OpenShut
import Derived.ShutString
import Derived.ChangeOld
import Derived.Below
import Derived.SizedLaws
import Derived.Carry
namespace Go.Proofs.YtlkcohidkhbipaaGreat.lnk
open Go.ChangeShapes Go.WideShapes Go.ChangeAt Go.RowKit Go.AM
set_option linter.all false
set_option maxRecDepth 10000
theorem l109 : cFunc Tryz.prog 109 = some TOP.af109 ∧ okFn Tryz.prog 109 = true := ⟨by kernel_rfl, by kernel_rfl⟩
theorem l15 : cFunc Tryz.prog 15 = some TOP.af15 ∧ okFn Tryz.prog 15 = true := ⟨by kernel_rfl, by kernel_rfl⟩
theorem l26 : cFunc Tryz.prog 26 = some TOP.af26 ∧ okFn Tryz.prog 26 = true := ⟨by kernel_rfl, by kernel_rfl⟩
theorem l38 : cFunc Tryz.prog 38 = some TOP.af38 ∧ okFn Tryz.prog 38 = true := ⟨by kernel_rfl, by kernel_rfl⟩
theorem l48 : cFunc Tryz.prog 48 = some TOP.af48 ∧ okFn Tryz.prog 48 = true := ⟨by kernel_rfl, by kernel_rfl⟩
theorem l63 : cFunc Tryz.prog 63 = some TOP.af63 ∧ okFn Tryz.prog 63 = true := ⟨by kernel_rfl, by kernel_rfl⟩
theorem l74 : cFunc Tryz.prog 74 = some TOP.af74 ∧ okFn Tryz.prog 74 = true := ⟨by kernel_rfl, by kernel_rfl⟩
theorem l82 : cFunc Tryz.prog 82 = some TOP.af82 ∧ okFn Tryz.prog 82 = true := ⟨by kernel_rfl, by kernel_rfl⟩
theorem l96 : cFunc Tryz.prog 96 = some TOP.af96 ∧ okFn Tryz.prog 96 = true := ⟨by kernel_rfl, by kernel_rfl⟩
theorem l104 : cFunc Tryz.prog 104 = some TOP.af104 ∧ okFn Tryz.prog 104 = true := ⟨by kernel_rfl, by kernel_rfl⟩
theorem l114 : cFunc Tryz.prog 114 = some TOP.af114 ∧ okFn Tryz.prog 114 = true := ⟨by kernel_rfl, by kernel_rfl⟩
theorem l124 : cFunc Tryz.prog 124 = some TOP.af124 ∧ okFn Tryz.prog 124 = true := ⟨by kernel_rfl, by kernel_rfl⟩
theorem l139 : cFunc Tryz.prog 139 = some TOP.af139 ∧ okFn Tryz.prog 139 = true := ⟨by kernel_rfl, by kernel_rfl⟩
theorem l148 : cFunc Tryz.prog 148 = some TOP.af148 ∧ okFn Tryz.prog 148 = true := ⟨by kernel_rfl, by kernel_rfl⟩
theorem l156 : cFunc Tryz.prog 156 = some TOP.af156 ∧ okFn Tryz.prog 156 = true := ⟨by kernel_rfl, by kernel_rfl⟩
theorem l164 : cFunc Tryz.prog 164 = some TOP.af164 ∧ okFn Tryz.prog 164 = true := ⟨by kernel_rfl, by kernel_rfl⟩
theorem l180 : cFunc Tryz.prog 180 = some TOP.af180 ∧ okFn Tryz.prog 180 = true := ⟨by kernel_rfl, by kernel_rfl⟩
theorem l193 : cFunc Tryz.prog 193 = some TOP.af193 ∧ okFn Tryz.prog 193 = true := ⟨by kernel_rfl, by kernel_rfl⟩
theorem l207 : cFunc Tryz.prog 207 = some TOP.af207 ∧ okFn Tryz.prog 207 = true := ⟨by kernel_rfl, by kernel_rfl⟩
theorem l218 : cFunc Tryz.prog 218 = some TOP.af218 ∧ okFn Tryz.prog 218 = true := ⟨by kernel_rfl, by kernel_rfl⟩
theorem l245 : cFunc Tryz.prog 245 = some TOP.af245 ∧ okFn Tryz.prog 245 = true := ⟨by kernel_rfl, by kernel_rfl⟩
end Go.Proofs.YtlkcohidkhbipaaGreat.lnk
