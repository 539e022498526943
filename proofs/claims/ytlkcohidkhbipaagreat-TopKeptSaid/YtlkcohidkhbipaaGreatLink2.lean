/- Machine code of some functions is what the program holds. No condition. -/
import Derived.Test.YtlkcohidkhbipaaGreatRows
import Derived.Test.YtlkcohidkhbipaaGreatRWa
import Derived.Test.YtlkcohidkhbipaaGreatBT
import Derived.Test.YtlkcohidkhbipaaGreatPLk
import Derived.WalkKit
import Derived.ProofKit
import Derived.OpenShut
import Derived.ShutString
import Derived.ChangeOld
import Derived.Below
import Derived.SizedLaws
import Derived.Carry
namespace Go.Proofs.YtlkcohidkhbipaaGreat.lnk
open Go.ChangeShapes Go.WideShapes Go.ChangeAt Go.RowKit Go.AM
set_option linter.all false
set_option maxRecDepth 10000
theorem l181 : cFunc Tryz.prog 181 = some TOP.af181 ∧ okFn Tryz.prog 181 = true := ⟨by kernel_rfl, by kernel_rfl⟩
theorem l16 : cFunc Tryz.prog 16 = some TOP.af16 ∧ okFn Tryz.prog 16 = true := ⟨by kernel_rfl, by kernel_rfl⟩
theorem l26 : cFunc Tryz.prog 26 = some TOP.af26 ∧ okFn Tryz.prog 26 = true := ⟨by kernel_rfl, by kernel_rfl⟩
theorem l38 : cFunc Tryz.prog 38 = some TOP.af38 ∧ okFn Tryz.prog 38 = true := ⟨by kernel_rfl, by kernel_rfl⟩
theorem l49 : cFunc Tryz.prog 49 = some TOP.af49 ∧ okFn Tryz.prog 49 = true := ⟨by kernel_rfl, by kernel_rfl⟩
theorem l61 : cFunc Tryz.prog 61 = some TOP.af61 ∧ okFn Tryz.prog 61 = true := ⟨by kernel_rfl, by kernel_rfl⟩
theorem l73 : cFunc Tryz.prog 73 = some TOP.af73 ∧ okFn Tryz.prog 73 = true := ⟨by kernel_rfl, by kernel_rfl⟩
theorem l81 : cFunc Tryz.prog 81 = some TOP.af81 ∧ okFn Tryz.prog 81 = true := ⟨by kernel_rfl, by kernel_rfl⟩
theorem l95 : cFunc Tryz.prog 95 = some TOP.af95 ∧ okFn Tryz.prog 95 = true := ⟨by kernel_rfl, by kernel_rfl⟩
theorem l103 : cFunc Tryz.prog 103 = some TOP.af103 ∧ okFn Tryz.prog 103 = true := ⟨by kernel_rfl, by kernel_rfl⟩
theorem l113 : cFunc Tryz.prog 113 = some TOP.af113 ∧ okFn Tryz.prog 113 = true := ⟨by kernel_rfl, by kernel_rfl⟩
theorem l121 : cFunc Tryz.prog 121 = some TOP.af121 ∧ okFn Tryz.prog 121 = true := ⟨by kernel_rfl, by kernel_rfl⟩
theorem l136 : cFunc Tryz.prog 136 = some TOP.af136 ∧ okFn Tryz.prog 136 = true := ⟨by kernel_rfl, by kernel_rfl⟩
theorem l145 : cFunc Tryz.prog 145 = some TOP.af145 ∧ okFn Tryz.prog 145 = true := ⟨by kernel_rfl, by kernel_rfl⟩
theorem l153 : cFunc Tryz.prog 153 = some TOP.af153 ∧ okFn Tryz.prog 153 = true := ⟨by kernel_rfl, by kernel_rfl⟩
theorem l162 : cFunc Tryz.prog 162 = some TOP.af162 ∧ okFn Tryz.prog 162 = true := ⟨by kernel_rfl, by kernel_rfl⟩
theorem l178 : cFunc Tryz.prog 178 = some TOP.af178 ∧ okFn Tryz.prog 178 = true := ⟨by kernel_rfl, by kernel_rfl⟩
theorem l193 : cFunc Tryz.prog 193 = some TOP.af193 ∧ okFn Tryz.prog 193 = true := ⟨by kernel_rfl, by kernel_rfl⟩
theorem l210 : cFunc Tryz.prog 210 = some TOP.af210 ∧ okFn Tryz.prog 210 = true := ⟨by kernel_rfl, by kernel_rfl⟩
theorem l219 : cFunc Tryz.prog 219 = some TOP.af219 ∧ okFn Tryz.prog 219 = true := ⟨by kernel_rfl, by kernel_rfl⟩
theorem l256 : cFunc Tryz.prog 256 = some TOP.af256 ∧ okFn Tryz.prog 256 = true := ⟨by kernel_rfl, by kernel_rfl⟩
end Go.Proofs.YtlkcohidkhbipaaGreat.lnk
