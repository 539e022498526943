/- Machine code of some functions is what the program holds. No condition. -/
import Derived.Test.YtlkcohidkhbipaaGreatRows
import Derived.Test.YtlkcohidkhbipaaGreatRWa
import Derived.Test.YtlkcohidkhbipaaGreatBT
import Derived.Test.YtlkcohidkhbipaaGreatPLk
import Derived.WalkKit
import Derived.ProofKit
import Derived.OpenShut
import Derived.ShutString
import Derived.ChangeOld
import Derived.Below
import Derived.SizedLaws
import Derived.Carry
namespace Go.Proofs.YtlkcohidkhbipaaGreat.lnk
open Go.ChangeShapes Go.WideShapes Go.ChangeAt Go.RowKit Go.AM
set_option linter.all false
set_option maxRecDepth 10000
theorem l181 : cFunc Tryz.prog 181 = some TOP.af181 ∧ okFn Tryz.prog 181 = true := ⟨by kernel_rfl, by kernel_rfl⟩
theorem l16 : cFunc Tryz.prog 16 = some TOP.af16 ∧ okFn Tryz.prog 16 = true := ⟨by kernel_rfl, by kernel_rfl⟩
theorem l26 : cFunc Tryz.prog 26 = some TOP.af26 ∧ okFn Tryz.prog 26 = true := ⟨by kernel_rfl, by kernel_rfl⟩
theorem l38 : cFunc Tryz.prog 38 = some TOP.af38 ∧ okFn Tryz.prog 38 = true := ⟨by kernel_rfl, by kernel_rfl⟩
theorem l49 : cFunc Tryz.prog 49 = some TOP.af49 ∧ okFn Tryz.prog 49 = true := ⟨by kernel_rfl, by kernel_rfl⟩
theorem l61 : cFunc Tryz.prog 61 = some TOP.af61 ∧ okFn Tryz.prog 61 = true := ⟨by kernel_rfl, by kernel_rfl⟩
theorem l73 : cFunc Tryz.prog 73 = some TOP.af73 ∧ okFn Tryz.prog 73 = true := ⟨by kernel_rfl, by kernel_rfl⟩
theorem l81 : cFunc Tryz.prog 81 = some TOP.af81 ∧ okFn Tryz.prog 81 = true := ⟨by kernel_rfl, by kernel_rfl⟩
theorem l95 : cFunc Tryz.prog 95 = some TOP.af95 ∧ okFn Tryz.prog 95 = true := ⟨by kernel_rfl, by kernel_rfl⟩
theorem l103 : cFunc Tryz.prog 103 = some TOP.af103 ∧ okFn Tryz.prog 103 = true := ⟨by kernel_rfl, by kernel_rfl⟩
theorem l113 : cFunc Tryz.prog 113 = some TOP.af113 ∧ okFn Tryz.prog 113 = true := ⟨by kernel_rfl, by kernel_rfl⟩
theorem l122 : cFunc Tryz.prog 122 = some TOP.af122 ∧ okFn Tryz.prog 122 = true := ⟨by kernel_rfl, by kernel_rfl⟩
theorem l137 : cFunc Tryz.prog 137 = some TOP.af137 ∧ okFn Tryz.prog 137 = true := ⟨by kernel_rfl, by kernel_rfl⟩
theorem l146 : cFunc Tryz.prog 146 = some TOP.af146 ∧ okFn Tryz.prog 146 = true := ⟨by kernel_rfl, by kernel_rfl⟩
theorem l155 : cFunc Tryz.prog 155 = some TOP.af155 ∧ okFn Tryz.prog 155 = true := ⟨by kernel_rfl, by kernel_rfl⟩
theorem l163 : cFunc Tryz.prog 163 = some TOP.af163 ∧ okFn Tryz.prog 163 = true := ⟨by kernel_rfl, by kernel_rfl⟩
theorem l179 : cFunc Tryz.prog 179 = some TOP.af179 ∧ okFn Tryz.prog 179 = true := ⟨by kernel_rfl, by kernel_rfl⟩
theorem l194 : cFunc Tryz.prog 194 = some TOP.af194 ∧ okFn Tryz.prog 194 = true := ⟨by kernel_rfl, by kernel_rfl⟩
theorem l211 : cFunc Tryz.prog 211 = some TOP.af211 ∧ okFn Tryz.prog 211 = true := ⟨by kernel_rfl, by kernel_rfl⟩
theorem l220 : cFunc Tryz.prog 220 = some TOP.af220 ∧ okFn Tryz.prog 220 = true := ⟨by kernel_rfl, by kernel_rfl⟩
theorem l257 : cFunc Tryz.prog 257 = some TOP.af257 ∧ okFn Tryz.prog 257 = true := ⟨by kernel_rfl, by kernel_rfl⟩
end Go.Proofs.YtlkcohidkhbipaaGreat.lnk
