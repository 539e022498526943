/- Machine code of some functions is what the program holds. No condition. -/
import Derived.Test.YtlkcohidkhbipaaGreatRows
import Derived.Test.YtlkcohidkhbipaaGreatRWa
import Derived.Test.YtlkcohidkhbipaaGreatBT
import Derived.Test.YtlkcohidkhbipaaGreatPLk
import Derived.WalkKit
import Derived.ProofKit
import Derived.OpenShut
import Derived.ShutString
import Derived.ChangeOld
import Derived.Below
import Derived.SizedLaws
import Derived.Carry
namespace Go.Proofs.YtlkcohidkhbipaaGreat.lnk
open Go.ChangeShapes Go.WideShapes Go.ChangeAt Go.RowKit Go.AM
set_option linter.all false
set_option maxRecDepth 10000
theorem l205 : cFunc Tryz.prog 205 = some TOP.af205 ∧ okFn Tryz.prog 205 = true := ⟨by kernel_rfl, by kernel_rfl⟩
theorem l18 : cFunc Tryz.prog 18 = some TOP.af18 ∧ okFn Tryz.prog 18 = true := ⟨by kernel_rfl, by kernel_rfl⟩
theorem l29 : cFunc Tryz.prog 29 = some TOP.af29 ∧ okFn Tryz.prog 29 = true := ⟨by kernel_rfl, by kernel_rfl⟩
theorem l43 : cFunc Tryz.prog 43 = some TOP.af43 ∧ okFn Tryz.prog 43 = true := ⟨by kernel_rfl, by kernel_rfl⟩
theorem l51 : cFunc Tryz.prog 51 = some TOP.af51 ∧ okFn Tryz.prog 51 = true := ⟨by kernel_rfl, by kernel_rfl⟩
theorem l68 : cFunc Tryz.prog 68 = some TOP.af68 ∧ okFn Tryz.prog 68 = true := ⟨by kernel_rfl, by kernel_rfl⟩
theorem l77 : cFunc Tryz.prog 77 = some TOP.af77 ∧ okFn Tryz.prog 77 = true := ⟨by kernel_rfl, by kernel_rfl⟩
theorem l85 : cFunc Tryz.prog 85 = some TOP.af85 ∧ okFn Tryz.prog 85 = true := ⟨by kernel_rfl, by kernel_rfl⟩
theorem l99 : cFunc Tryz.prog 99 = some TOP.af99 ∧ okFn Tryz.prog 99 = true := ⟨by kernel_rfl, by kernel_rfl⟩
theorem l107 : cFunc Tryz.prog 107 = some TOP.af107 ∧ okFn Tryz.prog 107 = true := ⟨by kernel_rfl, by kernel_rfl⟩
theorem l117 : cFunc Tryz.prog 117 = some TOP.af117 ∧ okFn Tryz.prog 117 = true := ⟨by kernel_rfl, by kernel_rfl⟩
theorem l134 : cFunc Tryz.prog 134 = some TOP.af134 ∧ okFn Tryz.prog 134 = true := ⟨by kernel_rfl, by kernel_rfl⟩
theorem l142 : cFunc Tryz.prog 142 = some TOP.af142 ∧ okFn Tryz.prog 142 = true := ⟨by kernel_rfl, by kernel_rfl⟩
theorem l151 : cFunc Tryz.prog 151 = some TOP.af151 ∧ okFn Tryz.prog 151 = true := ⟨by kernel_rfl, by kernel_rfl⟩
theorem l159 : cFunc Tryz.prog 159 = some TOP.af159 ∧ okFn Tryz.prog 159 = true := ⟨by kernel_rfl, by kernel_rfl⟩
theorem l175 : cFunc Tryz.prog 175 = some TOP.af175 ∧ okFn Tryz.prog 175 = true := ⟨by kernel_rfl, by kernel_rfl⟩
theorem l185 : cFunc Tryz.prog 185 = some TOP.af185 ∧ okFn Tryz.prog 185 = true := ⟨by kernel_rfl, by kernel_rfl⟩
theorem l196 : cFunc Tryz.prog 196 = some TOP.af196 ∧ okFn Tryz.prog 196 = true := ⟨by kernel_rfl, by kernel_rfl⟩
theorem l211 : cFunc Tryz.prog 211 = some TOP.af211 ∧ okFn Tryz.prog 211 = true := ⟨by kernel_rfl, by kernel_rfl⟩
theorem l221 : cFunc Tryz.prog 221 = some TOP.af221 ∧ okFn Tryz.prog 221 = true := ⟨by kernel_rfl, by kernel_rfl⟩
theorem l257 : cFunc Tryz.prog 257 = some TOP.af257 ∧ okFn Tryz.prog 257 = true := ⟨by kernel_rfl, by kernel_rfl⟩
end Go.Proofs.YtlkcohidkhbipaaGreat.lnk
