/- Machine code of some functions is what the program holds. No condition. -/
import Derived.Test.YtlkcohidkhbipaaGreatRows
import Derived.Test.YtlkcohidkhbipaaGreatRWa
import Derived.Test.YtlkcohidkhbipaaGreatBT
import Derived.Test.YtlkcohidkhbipaaGreatPLk
import Derived.WalkKit
import Derived.ProofKit
import Derived.OpenShut
import Derived.ShutString
import Derived.ChangeOld
import Derived.Below
import Derived.SizedLaws
import Derived.Carry
namespace Go.Proofs.YtlkcohidkhbipaaGreat.lnk
open Go.ChangeShapes Go.WideShapes Go.ChangeAt Go.RowKit Go.AM
set_option linter.all false
set_option maxRecDepth 10000
theorem l183 : cFunc Tryz.prog 183 = some TOP.af183 ∧ okFn Tryz.prog 183 = true := ⟨by kernel_rfl, by kernel_rfl⟩
theorem l17 : cFunc Tryz.prog 17 = some TOP.af17 ∧ okFn Tryz.prog 17 = true := ⟨by kernel_rfl, by kernel_rfl⟩
theorem l27 : cFunc Tryz.prog 27 = some TOP.af27 ∧ okFn Tryz.prog 27 = true := ⟨by kernel_rfl, by kernel_rfl⟩
theorem l41 : cFunc Tryz.prog 41 = some TOP.af41 ∧ okFn Tryz.prog 41 = true := ⟨by kernel_rfl, by kernel_rfl⟩
theorem l50 : cFunc Tryz.prog 50 = some TOP.af50 ∧ okFn Tryz.prog 50 = true := ⟨by kernel_rfl, by kernel_rfl⟩
theorem l62 : cFunc Tryz.prog 62 = some TOP.af62 ∧ okFn Tryz.prog 62 = true := ⟨by kernel_rfl, by kernel_rfl⟩
theorem l74 : cFunc Tryz.prog 74 = some TOP.af74 ∧ okFn Tryz.prog 74 = true := ⟨by kernel_rfl, by kernel_rfl⟩
theorem l82 : cFunc Tryz.prog 82 = some TOP.af82 ∧ okFn Tryz.prog 82 = true := ⟨by kernel_rfl, by kernel_rfl⟩
theorem l96 : cFunc Tryz.prog 96 = some TOP.af96 ∧ okFn Tryz.prog 96 = true := ⟨by kernel_rfl, by kernel_rfl⟩
theorem l104 : cFunc Tryz.prog 104 = some TOP.af104 ∧ okFn Tryz.prog 104 = true := ⟨by kernel_rfl, by kernel_rfl⟩
theorem l114 : cFunc Tryz.prog 114 = some TOP.af114 ∧ okFn Tryz.prog 114 = true := ⟨by kernel_rfl, by kernel_rfl⟩
theorem l123 : cFunc Tryz.prog 123 = some TOP.af123 ∧ okFn Tryz.prog 123 = true := ⟨by kernel_rfl, by kernel_rfl⟩
theorem l138 : cFunc Tryz.prog 138 = some TOP.af138 ∧ okFn Tryz.prog 138 = true := ⟨by kernel_rfl, by kernel_rfl⟩
theorem l147 : cFunc Tryz.prog 147 = some TOP.af147 ∧ okFn Tryz.prog 147 = true := ⟨by kernel_rfl, by kernel_rfl⟩
theorem l156 : cFunc Tryz.prog 156 = some TOP.af156 ∧ okFn Tryz.prog 156 = true := ⟨by kernel_rfl, by kernel_rfl⟩
theorem l164 : cFunc Tryz.prog 164 = some TOP.af164 ∧ okFn Tryz.prog 164 = true := ⟨by kernel_rfl, by kernel_rfl⟩
theorem l180 : cFunc Tryz.prog 180 = some TOP.af180 ∧ okFn Tryz.prog 180 = true := ⟨by kernel_rfl, by kernel_rfl⟩
theorem l195 : cFunc Tryz.prog 195 = some TOP.af195 ∧ okFn Tryz.prog 195 = true := ⟨by kernel_rfl, by kernel_rfl⟩
theorem l212 : cFunc Tryz.prog 212 = some TOP.af212 ∧ okFn Tryz.prog 212 = true := ⟨by kernel_rfl, by kernel_rfl⟩
theorem l221 : cFunc Tryz.prog 221 = some TOP.af221 ∧ okFn Tryz.prog 221 = true := ⟨by kernel_rfl, by kernel_rfl⟩
theorem l258 : cFunc Tryz.prog 258 = some TOP.af258 ∧ okFn Tryz.prog 258 = true := ⟨by kernel_rfl, by kernel_rfl⟩
end Go.Proofs.YtlkcohidkhbipaaGreat.lnk
