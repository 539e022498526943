/- Machine code of some functions is what the program holds. No condition. -/
import Derived.Test.YtlkcohidkhbipaaGreatRows
import Derived.Test.YtlkcohidkhbipaaGreatRWa
import Derived.Test.YtlkcohidkhbipaaGreatBT
import Derived.Test.YtlkcohidkhbipaaGreatPLk
import Derived.WalkKit
import Derived.ProofKit
import Derived.OpenShut
import Derived.ShutString
import Derived.ChangeOld
import Derived.Below
import Derived.SizedLaws
import Derived.Carry
namespace Go.Proofs.YtlkcohidkhbipaaGreat.lnk
open Go.ChangeShapes Go.WideShapes Go.ChangeAt Go.RowKit Go.AM
set_option linter.all false
set_option maxRecDepth 10000
theorem l20 : cFunc Tryz.prog 20 = some TOP.af20 ∧ okFn Tryz.prog 20 = true := ⟨by kernel_rfl, by kernel_rfl⟩
theorem l30 : cFunc Tryz.prog 30 = some TOP.af30 ∧ okFn Tryz.prog 30 = true := ⟨by kernel_rfl, by kernel_rfl⟩
theorem l45 : cFunc Tryz.prog 45 = some TOP.af45 ∧ okFn Tryz.prog 45 = true := ⟨by kernel_rfl, by kernel_rfl⟩
theorem l53 : cFunc Tryz.prog 53 = some TOP.af53 ∧ okFn Tryz.prog 53 = true := ⟨by kernel_rfl, by kernel_rfl⟩
theorem l67 : cFunc Tryz.prog 67 = some TOP.af67 ∧ okFn Tryz.prog 67 = true := ⟨by kernel_rfl, by kernel_rfl⟩
theorem l77 : cFunc Tryz.prog 77 = some TOP.af77 ∧ okFn Tryz.prog 77 = true := ⟨by kernel_rfl, by kernel_rfl⟩
theorem l85 : cFunc Tryz.prog 85 = some TOP.af85 ∧ okFn Tryz.prog 85 = true := ⟨by kernel_rfl, by kernel_rfl⟩
theorem l99 : cFunc Tryz.prog 99 = some TOP.af99 ∧ okFn Tryz.prog 99 = true := ⟨by kernel_rfl, by kernel_rfl⟩
theorem l107 : cFunc Tryz.prog 107 = some TOP.af107 ∧ okFn Tryz.prog 107 = true := ⟨by kernel_rfl, by kernel_rfl⟩
theorem l117 : cFunc Tryz.prog 117 = some TOP.af117 ∧ okFn Tryz.prog 117 = true := ⟨by kernel_rfl, by kernel_rfl⟩
theorem l126 : cFunc Tryz.prog 126 = some TOP.af126 ∧ okFn Tryz.prog 126 = true := ⟨by kernel_rfl, by kernel_rfl⟩
theorem l140 : cFunc Tryz.prog 140 = some TOP.af140 ∧ okFn Tryz.prog 140 = true := ⟨by kernel_rfl, by kernel_rfl⟩
theorem l149 : cFunc Tryz.prog 149 = some TOP.af149 ∧ okFn Tryz.prog 149 = true := ⟨by kernel_rfl, by kernel_rfl⟩
theorem l158 : cFunc Tryz.prog 158 = some TOP.af158 ∧ okFn Tryz.prog 158 = true := ⟨by kernel_rfl, by kernel_rfl⟩
theorem l166 : cFunc Tryz.prog 166 = some TOP.af166 ∧ okFn Tryz.prog 166 = true := ⟨by kernel_rfl, by kernel_rfl⟩
theorem l184 : cFunc Tryz.prog 184 = some TOP.af184 ∧ okFn Tryz.prog 184 = true := ⟨by kernel_rfl, by kernel_rfl⟩
theorem l197 : cFunc Tryz.prog 197 = some TOP.af197 ∧ okFn Tryz.prog 197 = true := ⟨by kernel_rfl, by kernel_rfl⟩
theorem l214 : cFunc Tryz.prog 214 = some TOP.af214 ∧ okFn Tryz.prog 214 = true := ⟨by kernel_rfl, by kernel_rfl⟩
theorem l223 : cFunc Tryz.prog 223 = some TOP.af223 ∧ okFn Tryz.prog 223 = true := ⟨by kernel_rfl, by kernel_rfl⟩
end Go.Proofs.YtlkcohidkhbipaaGreat.lnk
