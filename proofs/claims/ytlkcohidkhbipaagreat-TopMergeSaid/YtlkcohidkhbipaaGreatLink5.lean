/- Machine code of some functions is what the program holds. No condition. -/
import Derived.Test.YtlkcohidkhbipaaGreatRows
import Derived.Test.YtlkcohidkhbipaaGreatRWa
import Derived.Test.YtlkcohidkhbipaaGreatBT
import Derived.Test.YtlkcohidkhbipaaGreatPLk
import Derived.WalkKit
import Derived.ProofKit
import Derived.OpenShut
import Derived.ShutString
import Derived.ChangeOld
import Derived.Below
import Derived.SizedLaws
import Derived.Carry
namespace Go.Proofs.YtlkcohidkhbipaaGreat.lnk
open Go.ChangeShapes Go.WideShapes Go.ChangeAt Go.RowKit Go.AM
set_option linter.all false
set_option maxRecDepth 10000
theorem l206 : cFunc Tryz.prog 206 = some TOP.af206 ∧ okFn Tryz.prog 206 = true := ⟨by kernel_rfl, by kernel_rfl⟩
theorem l19 : cFunc Tryz.prog 19 = some TOP.af19 ∧ okFn Tryz.prog 19 = true := ⟨by kernel_rfl, by kernel_rfl⟩
theorem l29 : cFunc Tryz.prog 29 = some TOP.af29 ∧ okFn Tryz.prog 29 = true := ⟨by kernel_rfl, by kernel_rfl⟩
theorem l44 : cFunc Tryz.prog 44 = some TOP.af44 ∧ okFn Tryz.prog 44 = true := ⟨by kernel_rfl, by kernel_rfl⟩
theorem l52 : cFunc Tryz.prog 52 = some TOP.af52 ∧ okFn Tryz.prog 52 = true := ⟨by kernel_rfl, by kernel_rfl⟩
theorem l64 : cFunc Tryz.prog 64 = some TOP.af64 ∧ okFn Tryz.prog 64 = true := ⟨by kernel_rfl, by kernel_rfl⟩
theorem l76 : cFunc Tryz.prog 76 = some TOP.af76 ∧ okFn Tryz.prog 76 = true := ⟨by kernel_rfl, by kernel_rfl⟩
theorem l84 : cFunc Tryz.prog 84 = some TOP.af84 ∧ okFn Tryz.prog 84 = true := ⟨by kernel_rfl, by kernel_rfl⟩
theorem l98 : cFunc Tryz.prog 98 = some TOP.af98 ∧ okFn Tryz.prog 98 = true := ⟨by kernel_rfl, by kernel_rfl⟩
theorem l106 : cFunc Tryz.prog 106 = some TOP.af106 ∧ okFn Tryz.prog 106 = true := ⟨by kernel_rfl, by kernel_rfl⟩
theorem l116 : cFunc Tryz.prog 116 = some TOP.af116 ∧ okFn Tryz.prog 116 = true := ⟨by kernel_rfl, by kernel_rfl⟩
theorem l126 : cFunc Tryz.prog 126 = some TOP.af126 ∧ okFn Tryz.prog 126 = true := ⟨by kernel_rfl, by kernel_rfl⟩
theorem l140 : cFunc Tryz.prog 140 = some TOP.af140 ∧ okFn Tryz.prog 140 = true := ⟨by kernel_rfl, by kernel_rfl⟩
theorem l149 : cFunc Tryz.prog 149 = some TOP.af149 ∧ okFn Tryz.prog 149 = true := ⟨by kernel_rfl, by kernel_rfl⟩
theorem l158 : cFunc Tryz.prog 158 = some TOP.af158 ∧ okFn Tryz.prog 158 = true := ⟨by kernel_rfl, by kernel_rfl⟩
theorem l166 : cFunc Tryz.prog 166 = some TOP.af166 ∧ okFn Tryz.prog 166 = true := ⟨by kernel_rfl, by kernel_rfl⟩
theorem l184 : cFunc Tryz.prog 184 = some TOP.af184 ∧ okFn Tryz.prog 184 = true := ⟨by kernel_rfl, by kernel_rfl⟩
theorem l197 : cFunc Tryz.prog 197 = some TOP.af197 ∧ okFn Tryz.prog 197 = true := ⟨by kernel_rfl, by kernel_rfl⟩
theorem l214 : cFunc Tryz.prog 214 = some TOP.af214 ∧ okFn Tryz.prog 214 = true := ⟨by kernel_rfl, by kernel_rfl⟩
theorem l223 : cFunc Tryz.prog 223 = some TOP.af223 ∧ okFn Tryz.prog 223 = true := ⟨by kernel_rfl, by kernel_rfl⟩
end Go.Proofs.YtlkcohidkhbipaaGreat.lnk
