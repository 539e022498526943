/- Machine code of some functions is what the program holds. No condition. -/
import Derived.Test.YtlkcohidkhbipaaGreatRows
import Derived.Test.YtlkcohidkhbipaaGreatRWa
import Derived.Test.YtlkcohidkhbipaaGreatBT
import Derived.Test.YtlkcohidkhbipaaGreatPLk
import Derived.WalkKit
import Derived.ProofKit
import Derived.OpenShut
import Derived.ShutString
import Derived.ChangeOld
import Derived.Below
import Derived.SizedLaws
import Derived.Carry
namespace Go.Proofs.YtlkcohidkhbipaaGreat.lnk
open Go.ChangeShapes Go.WideShapes Go.ChangeAt Go.RowKit Go.AM
set_option linter.all false
set_option maxRecDepth 10000
theorem l21 : cFunc Tryz.prog 21 = some TOP.af21 ∧ okFn Tryz.prog 21 = true := ⟨by kernel_rfl, by kernel_rfl⟩
theorem l33 : cFunc Tryz.prog 33 = some TOP.af33 ∧ okFn Tryz.prog 33 = true := ⟨by kernel_rfl, by kernel_rfl⟩
theorem l45 : cFunc Tryz.prog 45 = some TOP.af45 ∧ okFn Tryz.prog 45 = true := ⟨by kernel_rfl, by kernel_rfl⟩
theorem l60 : cFunc Tryz.prog 60 = some TOP.af60 ∧ okFn Tryz.prog 60 = true := ⟨by kernel_rfl, by kernel_rfl⟩
theorem l70 : cFunc Tryz.prog 70 = some TOP.af70 ∧ okFn Tryz.prog 70 = true := ⟨by kernel_rfl, by kernel_rfl⟩
theorem l78 : cFunc Tryz.prog 78 = some TOP.af78 ∧ okFn Tryz.prog 78 = true := ⟨by kernel_rfl, by kernel_rfl⟩
theorem l86 : cFunc Tryz.prog 86 = some TOP.af86 ∧ okFn Tryz.prog 86 = true := ⟨by kernel_rfl, by kernel_rfl⟩
theorem l100 : cFunc Tryz.prog 100 = some TOP.af100 ∧ okFn Tryz.prog 100 = true := ⟨by kernel_rfl, by kernel_rfl⟩
theorem l108 : cFunc Tryz.prog 108 = some TOP.af108 ∧ okFn Tryz.prog 108 = true := ⟨by kernel_rfl, by kernel_rfl⟩
theorem l117 : cFunc Tryz.prog 117 = some TOP.af117 ∧ okFn Tryz.prog 117 = true := ⟨by kernel_rfl, by kernel_rfl⟩
theorem l134 : cFunc Tryz.prog 134 = some TOP.af134 ∧ okFn Tryz.prog 134 = true := ⟨by kernel_rfl, by kernel_rfl⟩
theorem l142 : cFunc Tryz.prog 142 = some TOP.af142 ∧ okFn Tryz.prog 142 = true := ⟨by kernel_rfl, by kernel_rfl⟩
theorem l151 : cFunc Tryz.prog 151 = some TOP.af151 ∧ okFn Tryz.prog 151 = true := ⟨by kernel_rfl, by kernel_rfl⟩
theorem l159 : cFunc Tryz.prog 159 = some TOP.af159 ∧ okFn Tryz.prog 159 = true := ⟨by kernel_rfl, by kernel_rfl⟩
theorem l175 : cFunc Tryz.prog 175 = some TOP.af175 ∧ okFn Tryz.prog 175 = true := ⟨by kernel_rfl, by kernel_rfl⟩
theorem l185 : cFunc Tryz.prog 185 = some TOP.af185 ∧ okFn Tryz.prog 185 = true := ⟨by kernel_rfl, by kernel_rfl⟩
theorem l197 : cFunc Tryz.prog 197 = some TOP.af197 ∧ okFn Tryz.prog 197 = true := ⟨by kernel_rfl, by kernel_rfl⟩
theorem l213 : cFunc Tryz.prog 213 = some TOP.af213 ∧ okFn Tryz.prog 213 = true := ⟨by kernel_rfl, by kernel_rfl⟩
theorem l223 : cFunc Tryz.prog 223 = some TOP.af223 ∧ okFn Tryz.prog 223 = true := ⟨by kernel_rfl, by kernel_rfl⟩
end Go.Proofs.YtlkcohidkhbipaaGreat.lnk
