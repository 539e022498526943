/- Machine code of some functions is what the program holds. No condition. -/
import Derived.Test.YtlkcohidkhbipaaGreatRows
import Derived.Test.YtlkcohidkhbipaaGreatRWa
import Derived.Test.YtlkcohidkhbipaaGreatBT
import Derived.Test.YtlkcohidkhbipaaGreatPLk
import Derived.WalkKit
import Derived.ProofKit
import Derived.OpenShut
import Derived.ShutString
import Derived.ChangeOld
import Derived.Below
import Derived.SizedLaws
import Derived.Carry
namespace Go.Proofs.YtlkcohidkhbipaaGreat.lnk
open Go.ChangeShapes Go.WideShapes Go.ChangeAt Go.RowKit Go.AM
set_option linter.all false
set_option maxRecDepth 10000
theorem l183 : cFunc Tryz.prog 183 = some TOP.af183 ∧ okFn Tryz.prog 183 = true := ⟨by kernel_rfl, by kernel_rfl⟩
theorem l17 : cFunc Tryz.prog 17 = some TOP.af17 ∧ okFn Tryz.prog 17 = true := ⟨by kernel_rfl, by kernel_rfl⟩
theorem l28 : cFunc Tryz.prog 28 = some TOP.af28 ∧ okFn Tryz.prog 28 = true := ⟨by kernel_rfl, by kernel_rfl⟩
theorem l41 : cFunc Tryz.prog 41 = some TOP.af41 ∧ okFn Tryz.prog 41 = true := ⟨by kernel_rfl, by kernel_rfl⟩
theorem l50 : cFunc Tryz.prog 50 = some TOP.af50 ∧ okFn Tryz.prog 50 = true := ⟨by kernel_rfl, by kernel_rfl⟩
theorem l67 : cFunc Tryz.prog 67 = some TOP.af67 ∧ okFn Tryz.prog 67 = true := ⟨by kernel_rfl, by kernel_rfl⟩
theorem l76 : cFunc Tryz.prog 76 = some TOP.af76 ∧ okFn Tryz.prog 76 = true := ⟨by kernel_rfl, by kernel_rfl⟩
theorem l84 : cFunc Tryz.prog 84 = some TOP.af84 ∧ okFn Tryz.prog 84 = true := ⟨by kernel_rfl, by kernel_rfl⟩
theorem l98 : cFunc Tryz.prog 98 = some TOP.af98 ∧ okFn Tryz.prog 98 = true := ⟨by kernel_rfl, by kernel_rfl⟩
theorem l106 : cFunc Tryz.prog 106 = some TOP.af106 ∧ okFn Tryz.prog 106 = true := ⟨by kernel_rfl, by kernel_rfl⟩
theorem l116 : cFunc Tryz.prog 116 = some TOP.af116 ∧ okFn Tryz.prog 116 = true := ⟨by kernel_rfl, by kernel_rfl⟩
theorem l127 : cFunc Tryz.prog 127 = some TOP.af127 ∧ okFn Tryz.prog 127 = true := ⟨by kernel_rfl, by kernel_rfl⟩
theorem l141 : cFunc Tryz.prog 141 = some TOP.af141 ∧ okFn Tryz.prog 141 = true := ⟨by kernel_rfl, by kernel_rfl⟩
theorem l150 : cFunc Tryz.prog 150 = some TOP.af150 ∧ okFn Tryz.prog 150 = true := ⟨by kernel_rfl, by kernel_rfl⟩
theorem l158 : cFunc Tryz.prog 158 = some TOP.af158 ∧ okFn Tryz.prog 158 = true := ⟨by kernel_rfl, by kernel_rfl⟩
theorem l166 : cFunc Tryz.prog 166 = some TOP.af166 ∧ okFn Tryz.prog 166 = true := ⟨by kernel_rfl, by kernel_rfl⟩
theorem l184 : cFunc Tryz.prog 184 = some TOP.af184 ∧ okFn Tryz.prog 184 = true := ⟨by kernel_rfl, by kernel_rfl⟩
theorem l195 : cFunc Tryz.prog 195 = some TOP.af195 ∧ okFn Tryz.prog 195 = true := ⟨by kernel_rfl, by kernel_rfl⟩
theorem l210 : cFunc Tryz.prog 210 = some TOP.af210 ∧ okFn Tryz.prog 210 = true := ⟨by kernel_rfl, by kernel_rfl⟩
theorem l220 : cFunc Tryz.prog 220 = some TOP.af220 ∧ okFn Tryz.prog 220 = true := ⟨by kernel_rfl, by kernel_rfl⟩
theorem l256 : cFunc Tryz.prog 256 = some TOP.af256 ∧ okFn Tryz.prog 256 = true := ⟨by kernel_rfl, by kernel_rfl⟩
end Go.Proofs.YtlkcohidkhbipaaGreat.lnk
