/- Machine code of some functions is what the program holds. No condition. -/
import Derived.Test.YtlkcohidkhbipaaGreatRows
import Derived.Test.YtlkcohidkhbipaaGreatRWa
import Derived.Test.YtlkcohidkhbipaaGreatBT
import Derived.Test.YtlkcohidkhbipaaGreatPLk
import Derived.WalkKit
import Derived.ProofKit
import Derived.OpenShut
import Derived.ShutString
import Derived.ChangeOld
import Derived.Below
import Derived.SizedLaws
import Derived.Carry
namespace Go.Proofs.YtlkcohidkhbipaaGreat.lnk
open Go.ChangeShapes Go.WideShapes Go.ChangeAt Go.RowKit Go.AM
set_option linter.all false
set_option maxRecDepth 10000
theorem l205 : cFunc Tryz.prog 205 = some TOP.af205 ∧ okFn Tryz.prog 205 = true := ⟨by kernel_rfl, by kernel_rfl⟩
theorem l18 : cFunc Tryz.prog 18 = some TOP.af18 ∧ okFn Tryz.prog 18 = true := ⟨by kernel_rfl, by kernel_rfl⟩
theorem l28 : cFunc Tryz.prog 28 = some TOP.af28 ∧ okFn Tryz.prog 28 = true := ⟨by kernel_rfl, by kernel_rfl⟩
theorem l43 : cFunc Tryz.prog 43 = some TOP.af43 ∧ okFn Tryz.prog 43 = true := ⟨by kernel_rfl, by kernel_rfl⟩
theorem l51 : cFunc Tryz.prog 51 = some TOP.af51 ∧ okFn Tryz.prog 51 = true := ⟨by kernel_rfl, by kernel_rfl⟩
theorem l63 : cFunc Tryz.prog 63 = some TOP.af63 ∧ okFn Tryz.prog 63 = true := ⟨by kernel_rfl, by kernel_rfl⟩
theorem l75 : cFunc Tryz.prog 75 = some TOP.af75 ∧ okFn Tryz.prog 75 = true := ⟨by kernel_rfl, by kernel_rfl⟩
theorem l83 : cFunc Tryz.prog 83 = some TOP.af83 ∧ okFn Tryz.prog 83 = true := ⟨by kernel_rfl, by kernel_rfl⟩
theorem l97 : cFunc Tryz.prog 97 = some TOP.af97 ∧ okFn Tryz.prog 97 = true := ⟨by kernel_rfl, by kernel_rfl⟩
theorem l105 : cFunc Tryz.prog 105 = some TOP.af105 ∧ okFn Tryz.prog 105 = true := ⟨by kernel_rfl, by kernel_rfl⟩
theorem l115 : cFunc Tryz.prog 115 = some TOP.af115 ∧ okFn Tryz.prog 115 = true := ⟨by kernel_rfl, by kernel_rfl⟩
theorem l123 : cFunc Tryz.prog 123 = some TOP.af123 ∧ okFn Tryz.prog 123 = true := ⟨by kernel_rfl, by kernel_rfl⟩
theorem l138 : cFunc Tryz.prog 138 = some TOP.af138 ∧ okFn Tryz.prog 138 = true := ⟨by kernel_rfl, by kernel_rfl⟩
theorem l147 : cFunc Tryz.prog 147 = some TOP.af147 ∧ okFn Tryz.prog 147 = true := ⟨by kernel_rfl, by kernel_rfl⟩
theorem l156 : cFunc Tryz.prog 156 = some TOP.af156 ∧ okFn Tryz.prog 156 = true := ⟨by kernel_rfl, by kernel_rfl⟩
theorem l164 : cFunc Tryz.prog 164 = some TOP.af164 ∧ okFn Tryz.prog 164 = true := ⟨by kernel_rfl, by kernel_rfl⟩
theorem l180 : cFunc Tryz.prog 180 = some TOP.af180 ∧ okFn Tryz.prog 180 = true := ⟨by kernel_rfl, by kernel_rfl⟩
theorem l195 : cFunc Tryz.prog 195 = some TOP.af195 ∧ okFn Tryz.prog 195 = true := ⟨by kernel_rfl, by kernel_rfl⟩
theorem l212 : cFunc Tryz.prog 212 = some TOP.af212 ∧ okFn Tryz.prog 212 = true := ⟨by kernel_rfl, by kernel_rfl⟩
theorem l221 : cFunc Tryz.prog 221 = some TOP.af221 ∧ okFn Tryz.prog 221 = true := ⟨by kernel_rfl, by kernel_rfl⟩
theorem l258 : cFunc Tryz.prog 258 = some TOP.af258 ∧ okFn Tryz.prog 258 = true := ⟨by kernel_rfl, by kernel_rfl⟩
end Go.Proofs.YtlkcohidkhbipaaGreat.lnk
