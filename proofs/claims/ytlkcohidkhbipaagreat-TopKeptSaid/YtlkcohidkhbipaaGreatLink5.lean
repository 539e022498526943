/- Machine code of some functions is what the program holds. No condition. -/
import Derived.Test.YtlkcohidkhbipaaGreatRows
import Derived.Test.YtlkcohidkhbipaaGreatRWa
import Derived.Test.YtlkcohidkhbipaaGreatBT
import Derived.Test.YtlkcohidkhbipaaGreatPLk
import Derived.WalkKit
import Derived.ProofKit
import Derived.OpenShut
import Derived.ShutString
import Derived.ChangeOld
import Derived.Below
import Derived.SizedLaws
import Derived.Carry
namespace Go.Proofs.YtlkcohidkhbipaaGreat.lnk
open Go.ChangeShapes Go.WideShapes Go.ChangeAt Go.RowKit Go.AM
set_option linter.all false
set_option maxRecDepth 10000
theorem l206 : cFunc Tryz.prog 206 = some TOP.af206 ∧ okFn Tryz.prog 206 = true := ⟨by kernel_rfl, by kernel_rfl⟩
theorem l19 : cFunc Tryz.prog 19 = some TOP.af19 ∧ okFn Tryz.prog 19 = true := ⟨by kernel_rfl, by kernel_rfl⟩
theorem l29 : cFunc Tryz.prog 29 = some TOP.af29 ∧ okFn Tryz.prog 29 = true := ⟨by kernel_rfl, by kernel_rfl⟩
theorem l44 : cFunc Tryz.prog 44 = some TOP.af44 ∧ okFn Tryz.prog 44 = true := ⟨by kernel_rfl, by kernel_rfl⟩
theorem l52 : cFunc Tryz.prog 52 = some TOP.af52 ∧ okFn Tryz.prog 52 = true := ⟨by kernel_rfl, by kernel_rfl⟩
theorem l64 : cFunc Tryz.prog 64 = some TOP.af64 ∧ okFn Tryz.prog 64 = true := ⟨by kernel_rfl, by kernel_rfl⟩
theorem l76 : cFunc Tryz.prog 76 = some TOP.af76 ∧ okFn Tryz.prog 76 = true := ⟨by kernel_rfl, by kernel_rfl⟩
theorem l84 : cFunc Tryz.prog 84 = some TOP.af84 ∧ okFn Tryz.prog 84 = true := ⟨by kernel_rfl, by kernel_rfl⟩
theorem l98 : cFunc Tryz.prog 98 = some TOP.af98 ∧ okFn Tryz.prog 98 = true := ⟨by kernel_rfl, by kernel_rfl⟩
theorem l106 : cFunc Tryz.prog 106 = some TOP.af106 ∧ okFn Tryz.prog 106 = true := ⟨by kernel_rfl, by kernel_rfl⟩
theorem l116 : cFunc Tryz.prog 116 = some TOP.af116 ∧ okFn Tryz.prog 116 = true := ⟨by kernel_rfl, by kernel_rfl⟩
theorem l124 : cFunc Tryz.prog 124 = some TOP.af124 ∧ okFn Tryz.prog 124 = true := ⟨by kernel_rfl, by kernel_rfl⟩
theorem l139 : cFunc Tryz.prog 139 = some TOP.af139 ∧ okFn Tryz.prog 139 = true := ⟨by kernel_rfl, by kernel_rfl⟩
theorem l148 : cFunc Tryz.prog 148 = some TOP.af148 ∧ okFn Tryz.prog 148 = true := ⟨by kernel_rfl, by kernel_rfl⟩
theorem l157 : cFunc Tryz.prog 157 = some TOP.af157 ∧ okFn Tryz.prog 157 = true := ⟨by kernel_rfl, by kernel_rfl⟩
theorem l165 : cFunc Tryz.prog 165 = some TOP.af165 ∧ okFn Tryz.prog 165 = true := ⟨by kernel_rfl, by kernel_rfl⟩
theorem l182 : cFunc Tryz.prog 182 = some TOP.af182 ∧ okFn Tryz.prog 182 = true := ⟨by kernel_rfl, by kernel_rfl⟩
theorem l196 : cFunc Tryz.prog 196 = some TOP.af196 ∧ okFn Tryz.prog 196 = true := ⟨by kernel_rfl, by kernel_rfl⟩
theorem l213 : cFunc Tryz.prog 213 = some TOP.af213 ∧ okFn Tryz.prog 213 = true := ⟨by kernel_rfl, by kernel_rfl⟩
theorem l222 : cFunc Tryz.prog 222 = some TOP.af222 ∧ okFn Tryz.prog 222 = true := ⟨by kernel_rfl, by kernel_rfl⟩
end Go.Proofs.YtlkcohidkhbipaaGreat.lnk
