/- Machine code of some functions is what the program holds. No condition. -/
import Derived.Test.YtlkcohidkhbipaaGreatRows
import Derived.Test.YtlkcohidkhbipaaGreatRWa
import Derived.Test.YtlkcohidkhbipaaGreatBT
import Derived.Test.YtlkcohidkhbipaaGreatPLk
import Derived.WalkKit
import Derived.ProofKit
import Derived.OpenShut
import Derived.ShutString
import Derived.ChangeOld
import Derived.Below
import Derived.SizedLaws
import Derived.Carry
namespace Go.Proofs.YtlkcohidkhbipaaGreat.lnk
open Go.ChangeShapes Go.WideShapes Go.ChangeAt Go.RowKit Go.AM
set_option linter.all false
set_option maxRecDepth 10000
theorem l206 : cFunc Tryz.prog 206 = some TOP.af206 ∧ okFn Tryz.prog 206 = true := ⟨by kernel_rfl, by kernel_rfl⟩
theorem l19 : cFunc Tryz.prog 19 = some TOP.af19 ∧ okFn Tryz.prog 19 = true := ⟨by kernel_rfl, by kernel_rfl⟩
theorem l30 : cFunc Tryz.prog 30 = some TOP.af30 ∧ okFn Tryz.prog 30 = true := ⟨by kernel_rfl, by kernel_rfl⟩
theorem l43 : cFunc Tryz.prog 43 = some TOP.af43 ∧ okFn Tryz.prog 43 = true := ⟨by kernel_rfl, by kernel_rfl⟩
theorem l51 : cFunc Tryz.prog 51 = some TOP.af51 ∧ okFn Tryz.prog 51 = true := ⟨by kernel_rfl, by kernel_rfl⟩
theorem l68 : cFunc Tryz.prog 68 = some TOP.af68 ∧ okFn Tryz.prog 68 = true := ⟨by kernel_rfl, by kernel_rfl⟩
theorem l76 : cFunc Tryz.prog 76 = some TOP.af76 ∧ okFn Tryz.prog 76 = true := ⟨by kernel_rfl, by kernel_rfl⟩
theorem l84 : cFunc Tryz.prog 84 = some TOP.af84 ∧ okFn Tryz.prog 84 = true := ⟨by kernel_rfl, by kernel_rfl⟩
theorem l98 : cFunc Tryz.prog 98 = some TOP.af98 ∧ okFn Tryz.prog 98 = true := ⟨by kernel_rfl, by kernel_rfl⟩
theorem l106 : cFunc Tryz.prog 106 = some TOP.af106 ∧ okFn Tryz.prog 106 = true := ⟨by kernel_rfl, by kernel_rfl⟩
theorem l115 : cFunc Tryz.prog 115 = some TOP.af115 ∧ okFn Tryz.prog 115 = true := ⟨by kernel_rfl, by kernel_rfl⟩
theorem l126 : cFunc Tryz.prog 126 = some TOP.af126 ∧ okFn Tryz.prog 126 = true := ⟨by kernel_rfl, by kernel_rfl⟩
theorem l140 : cFunc Tryz.prog 140 = some TOP.af140 ∧ okFn Tryz.prog 140 = true := ⟨by kernel_rfl, by kernel_rfl⟩
theorem l149 : cFunc Tryz.prog 149 = some TOP.af149 ∧ okFn Tryz.prog 149 = true := ⟨by kernel_rfl, by kernel_rfl⟩
theorem l157 : cFunc Tryz.prog 157 = some TOP.af157 ∧ okFn Tryz.prog 157 = true := ⟨by kernel_rfl, by kernel_rfl⟩
theorem l165 : cFunc Tryz.prog 165 = some TOP.af165 ∧ okFn Tryz.prog 165 = true := ⟨by kernel_rfl, by kernel_rfl⟩
theorem l182 : cFunc Tryz.prog 182 = some TOP.af182 ∧ okFn Tryz.prog 182 = true := ⟨by kernel_rfl, by kernel_rfl⟩
theorem l195 : cFunc Tryz.prog 195 = some TOP.af195 ∧ okFn Tryz.prog 195 = true := ⟨by kernel_rfl, by kernel_rfl⟩
theorem l211 : cFunc Tryz.prog 211 = some TOP.af211 ∧ okFn Tryz.prog 211 = true := ⟨by kernel_rfl, by kernel_rfl⟩
theorem l221 : cFunc Tryz.prog 221 = some TOP.af221 ∧ okFn Tryz.prog 221 = true := ⟨by kernel_rfl, by kernel_rfl⟩
theorem l258 : cFunc Tryz.prog 258 = some TOP.af258 ∧ okFn Tryz.prog 258 = true := ⟨by kernel_rfl, by kernel_rfl⟩
end Go.Proofs.YtlkcohidkhbipaaGreat.lnk
