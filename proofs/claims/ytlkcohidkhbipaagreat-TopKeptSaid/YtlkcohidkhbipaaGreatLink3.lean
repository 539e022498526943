/- Machine code of some functions is what the program holds. No condition. -/
import Derived.Test.YtlkcohidkhbipaaGreatRows
import Derived.Test.YtlkcohidkhbipaaGreatRWa
import Derived.Test.YtlkcohidkhbipaaGreatBT
import Derived.Test.YtlkcohidkhbipaaGreatPLk
import Derived.WalkKit
import Derived.ProofKit
import Derived.OpenShut
import Derived.ShutString
import Derived.ChangeOld
import Derived.Below
import Derived.SizedLaws
import Derived.Carry
namespace Go.Proofs.YtlkcohidkhbipaaGreat.lnk
open Go.ChangeShapes Go.WideShapes Go.ChangeAt Go.RowKit Go.AM
set_option linter.all false
set_option maxRecDepth 10000
theorem l183 : cFunc Tryz.prog 183 = some TOP.af183 ∧ okFn Tryz.prog 183 = true := ⟨by kernel_rfl, by kernel_rfl⟩
theorem l17 : cFunc Tryz.prog 17 = some TOP.af17 ∧ okFn Tryz.prog 17 = true := ⟨by kernel_rfl, by kernel_rfl⟩
theorem l27 : cFunc Tryz.prog 27 = some TOP.af27 ∧ okFn Tryz.prog 27 = true := ⟨by kernel_rfl, by kernel_rfl⟩
theorem l41 : cFunc Tryz.prog 41 = some TOP.af41 ∧ okFn Tryz.prog 41 = true := ⟨by kernel_rfl, by kernel_rfl⟩
theorem l50 : cFunc Tryz.prog 50 = some TOP.af50 ∧ okFn Tryz.prog 50 = true := ⟨by kernel_rfl, by kernel_rfl⟩
theorem l62 : cFunc Tryz.prog 62 = some TOP.af62 ∧ okFn Tryz.prog 62 = true := ⟨by kernel_rfl, by kernel_rfl⟩
theorem l74 : cFunc Tryz.prog 74 = some TOP.af74 ∧ okFn Tryz.prog 74 = true := ⟨by kernel_rfl, by kernel_rfl⟩
theorem l82 : cFunc Tryz.prog 82 = some TOP.af82 ∧ okFn Tryz.prog 82 = true := ⟨by kernel_rfl, by kernel_rfl⟩
theorem l96 : cFunc Tryz.prog 96 = some TOP.af96 ∧ okFn Tryz.prog 96 = true := ⟨by kernel_rfl, by kernel_rfl⟩
theorem l104 : cFunc Tryz.prog 104 = some TOP.af104 ∧ okFn Tryz.prog 104 = true := ⟨by kernel_rfl, by kernel_rfl⟩
theorem l114 : cFunc Tryz.prog 114 = some TOP.af114 ∧ okFn Tryz.prog 114 = true := ⟨by kernel_rfl, by kernel_rfl⟩
theorem l122 : cFunc Tryz.prog 122 = some TOP.af122 ∧ okFn Tryz.prog 122 = true := ⟨by kernel_rfl, by kernel_rfl⟩
theorem l137 : cFunc Tryz.prog 137 = some TOP.af137 ∧ okFn Tryz.prog 137 = true := ⟨by kernel_rfl, by kernel_rfl⟩
theorem l146 : cFunc Tryz.prog 146 = some TOP.af146 ∧ okFn Tryz.prog 146 = true := ⟨by kernel_rfl, by kernel_rfl⟩
theorem l155 : cFunc Tryz.prog 155 = some TOP.af155 ∧ okFn Tryz.prog 155 = true := ⟨by kernel_rfl, by kernel_rfl⟩
theorem l163 : cFunc Tryz.prog 163 = some TOP.af163 ∧ okFn Tryz.prog 163 = true := ⟨by kernel_rfl, by kernel_rfl⟩
theorem l179 : cFunc Tryz.prog 179 = some TOP.af179 ∧ okFn Tryz.prog 179 = true := ⟨by kernel_rfl, by kernel_rfl⟩
theorem l194 : cFunc Tryz.prog 194 = some TOP.af194 ∧ okFn Tryz.prog 194 = true := ⟨by kernel_rfl, by kernel_rfl⟩
theorem l211 : cFunc Tryz.prog 211 = some TOP.af211 ∧ okFn Tryz.prog 211 = true := ⟨by kernel_rfl, by kernel_rfl⟩
theorem l220 : cFunc Tryz.prog 220 = some TOP.af220 ∧ okFn Tryz.prog 220 = true := ⟨by kernel_rfl, by kernel_rfl⟩
theorem l257 : cFunc Tryz.prog 257 = some TOP.af257 ∧ okFn Tryz.prog 257 = true := ⟨by kernel_rfl, by kernel_rfl⟩
end Go.Proofs.YtlkcohidkhbipaaGreat.lnk
