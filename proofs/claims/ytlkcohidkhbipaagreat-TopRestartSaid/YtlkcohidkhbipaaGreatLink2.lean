/- Machine code of some functions is what the program holds. No condition. -/
import Derived.Test.YtlkcohidkhbipaaGreatRows
import Derived.Test.YtlkcohidkhbipaaGreatRWa
import Derived.Test.YtlkcohidkhbipaaGreatBT
import Derived.Test.YtlkcohidkhbipaaGreatPLk
import Derived.WalkKit
import Derived.ProofKit
import Derived.OpenShut
import Derived.ShutString
import Derived.ChangeOld
import Derived.Below
import Derived.SizedLaws
import Derived.Carry
namespace Go.Proofs.YtlkcohidkhbipaaGreat.lnk
open Go.ChangeShapes Go.WideShapes Go.ChangeAt Go.RowKit Go.AM
set_option linter.all false
set_option maxRecDepth 10000
theorem l181 : cFunc Tryz.prog 181 = some TOP.af181 ∧ okFn Tryz.prog 181 = true := ⟨by kernel_rfl, by kernel_rfl⟩
theorem l16 : cFunc Tryz.prog 16 = some TOP.af16 ∧ okFn Tryz.prog 16 = true := ⟨by kernel_rfl, by kernel_rfl⟩
theorem l27 : cFunc Tryz.prog 27 = some TOP.af27 ∧ okFn Tryz.prog 27 = true := ⟨by kernel_rfl, by kernel_rfl⟩
theorem l39 : cFunc Tryz.prog 39 = some TOP.af39 ∧ okFn Tryz.prog 39 = true := ⟨by kernel_rfl, by kernel_rfl⟩
theorem l48 : cFunc Tryz.prog 48 = some TOP.af48 ∧ okFn Tryz.prog 48 = true := ⟨by kernel_rfl, by kernel_rfl⟩
theorem l63 : cFunc Tryz.prog 63 = some TOP.af63 ∧ okFn Tryz.prog 63 = true := ⟨by kernel_rfl, by kernel_rfl⟩
theorem l73 : cFunc Tryz.prog 73 = some TOP.af73 ∧ okFn Tryz.prog 73 = true := ⟨by kernel_rfl, by kernel_rfl⟩
theorem l81 : cFunc Tryz.prog 81 = some TOP.af81 ∧ okFn Tryz.prog 81 = true := ⟨by kernel_rfl, by kernel_rfl⟩
theorem l95 : cFunc Tryz.prog 95 = some TOP.af95 ∧ okFn Tryz.prog 95 = true := ⟨by kernel_rfl, by kernel_rfl⟩
theorem l103 : cFunc Tryz.prog 103 = some TOP.af103 ∧ okFn Tryz.prog 103 = true := ⟨by kernel_rfl, by kernel_rfl⟩
theorem l112 : cFunc Tryz.prog 112 = some TOP.af112 ∧ okFn Tryz.prog 112 = true := ⟨by kernel_rfl, by kernel_rfl⟩
theorem l122 : cFunc Tryz.prog 122 = some TOP.af122 ∧ okFn Tryz.prog 122 = true := ⟨by kernel_rfl, by kernel_rfl⟩
theorem l137 : cFunc Tryz.prog 137 = some TOP.af137 ∧ okFn Tryz.prog 137 = true := ⟨by kernel_rfl, by kernel_rfl⟩
theorem l146 : cFunc Tryz.prog 146 = some TOP.af146 ∧ okFn Tryz.prog 146 = true := ⟨by kernel_rfl, by kernel_rfl⟩
theorem l154 : cFunc Tryz.prog 154 = some TOP.af154 ∧ okFn Tryz.prog 154 = true := ⟨by kernel_rfl, by kernel_rfl⟩
theorem l162 : cFunc Tryz.prog 162 = some TOP.af162 ∧ okFn Tryz.prog 162 = true := ⟨by kernel_rfl, by kernel_rfl⟩
theorem l178 : cFunc Tryz.prog 178 = some TOP.af178 ∧ okFn Tryz.prog 178 = true := ⟨by kernel_rfl, by kernel_rfl⟩
theorem l192 : cFunc Tryz.prog 192 = some TOP.af192 ∧ okFn Tryz.prog 192 = true := ⟨by kernel_rfl, by kernel_rfl⟩
theorem l204 : cFunc Tryz.prog 204 = some TOP.af204 ∧ okFn Tryz.prog 204 = true := ⟨by kernel_rfl, by kernel_rfl⟩
theorem l218 : cFunc Tryz.prog 218 = some TOP.af218 ∧ okFn Tryz.prog 218 = true := ⟨by kernel_rfl, by kernel_rfl⟩
theorem l245 : cFunc Tryz.prog 245 = some TOP.af245 ∧ okFn Tryz.prog 245 = true := ⟨by kernel_rfl, by kernel_rfl⟩
end Go.Proofs.YtlkcohidkhbipaaGreat.lnk
