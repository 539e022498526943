/- Machine code of some functions is what the program holds. No condition. -/
import Derived.Test.YtlkcohidkhbipaaGreatRows
import Derived.Test.YtlkcohidkhbipaaGreatRWa
import Derived.Test.YtlkcohidkhbipaaGreatBT
import Derived.Test.YtlkcohidkhbipaaGreatPLk
import Derived.WalkKit
import Derived.ProofKit
import Derived.OpenShut
import Derived.ShutString
import Derived.ChangeOld
import Derived.Below
import Derived.SizedLaws
import Derived.Carry
namespace Go.Proofs.YtlkcohidkhbipaaGreat.lnk
open Go.ChangeShapes Go.WideShapes Go.ChangeAt Go.RowKit Go.AM
set_option linter.all false
set_option maxRecDepth 10000
theorem l20 : cFunc Tryz.prog 20 = some TOP.af20 ∧ okFn Tryz.prog 20 = true := ⟨by kernel_rfl, by kernel_rfl⟩
theorem l32 : cFunc Tryz.prog 32 = some TOP.af32 ∧ okFn Tryz.prog 32 = true := ⟨by kernel_rfl, by kernel_rfl⟩
theorem l44 : cFunc Tryz.prog 44 = some TOP.af44 ∧ okFn Tryz.prog 44 = true := ⟨by kernel_rfl, by kernel_rfl⟩
theorem l55 : cFunc Tryz.prog 55 = some TOP.af55 ∧ okFn Tryz.prog 55 = true := ⟨by kernel_rfl, by kernel_rfl⟩
theorem l69 : cFunc Tryz.prog 69 = some TOP.af69 ∧ okFn Tryz.prog 69 = true := ⟨by kernel_rfl, by kernel_rfl⟩
theorem l77 : cFunc Tryz.prog 77 = some TOP.af77 ∧ okFn Tryz.prog 77 = true := ⟨by kernel_rfl, by kernel_rfl⟩
theorem l85 : cFunc Tryz.prog 85 = some TOP.af85 ∧ okFn Tryz.prog 85 = true := ⟨by kernel_rfl, by kernel_rfl⟩
theorem l99 : cFunc Tryz.prog 99 = some TOP.af99 ∧ okFn Tryz.prog 99 = true := ⟨by kernel_rfl, by kernel_rfl⟩
theorem l107 : cFunc Tryz.prog 107 = some TOP.af107 ∧ okFn Tryz.prog 107 = true := ⟨by kernel_rfl, by kernel_rfl⟩
theorem l116 : cFunc Tryz.prog 116 = some TOP.af116 ∧ okFn Tryz.prog 116 = true := ⟨by kernel_rfl, by kernel_rfl⟩
theorem l127 : cFunc Tryz.prog 127 = some TOP.af127 ∧ okFn Tryz.prog 127 = true := ⟨by kernel_rfl, by kernel_rfl⟩
theorem l141 : cFunc Tryz.prog 141 = some TOP.af141 ∧ okFn Tryz.prog 141 = true := ⟨by kernel_rfl, by kernel_rfl⟩
theorem l150 : cFunc Tryz.prog 150 = some TOP.af150 ∧ okFn Tryz.prog 150 = true := ⟨by kernel_rfl, by kernel_rfl⟩
theorem l158 : cFunc Tryz.prog 158 = some TOP.af158 ∧ okFn Tryz.prog 158 = true := ⟨by kernel_rfl, by kernel_rfl⟩
theorem l166 : cFunc Tryz.prog 166 = some TOP.af166 ∧ okFn Tryz.prog 166 = true := ⟨by kernel_rfl, by kernel_rfl⟩
theorem l184 : cFunc Tryz.prog 184 = some TOP.af184 ∧ okFn Tryz.prog 184 = true := ⟨by kernel_rfl, by kernel_rfl⟩
theorem l196 : cFunc Tryz.prog 196 = some TOP.af196 ∧ okFn Tryz.prog 196 = true := ⟨by kernel_rfl, by kernel_rfl⟩
theorem l212 : cFunc Tryz.prog 212 = some TOP.af212 ∧ okFn Tryz.prog 212 = true := ⟨by kernel_rfl, by kernel_rfl⟩
theorem l222 : cFunc Tryz.prog 222 = some TOP.af222 ∧ okFn Tryz.prog 222 = true := ⟨by kernel_rfl, by kernel_rfl⟩
end Go.Proofs.YtlkcohidkhbipaaGreat.lnk
