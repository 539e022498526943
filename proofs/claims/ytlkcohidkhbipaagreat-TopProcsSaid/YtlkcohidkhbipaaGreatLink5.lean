/- Machine code of some functions is what the program holds. No condition. -/
import Derived.Test.YtlkcohidkhbipaaGreatRows
import Derived.Test.YtlkcohidkhbipaaGreatRWa
import Derived.Test.YtlkcohidkhbipaaGreatBT
import Derived.Test.YtlkcohidkhbipaaGreatPLk
import Derived.WalkKit
import Derived.ProofKit
import Derived.OpenShut
import Derived.ShutString
import Derived.ChangeOld
import Derived.Below
import Derived.SizedLaws
import Derived.Carry
namespace Go.Proofs.YtlkcohidkhbipaaGreat.lnk
open Go.ChangeShapes Go.WideShapes Go.ChangeAt Go.RowKit Go.AM
set_option linter.all false
set_option maxRecDepth 10000
theorem l206 : cFunc Tryz.prog 206 = some TOP.af206 ∧ okFn Tryz.prog 206 = true := ⟨by kernel_rfl, by kernel_rfl⟩
theorem l19 : cFunc Tryz.prog 19 = some TOP.af19 ∧ okFn Tryz.prog 19 = true := ⟨by kernel_rfl, by kernel_rfl⟩
theorem l30 : cFunc Tryz.prog 30 = some TOP.af30 ∧ okFn Tryz.prog 30 = true := ⟨by kernel_rfl, by kernel_rfl⟩
theorem l44 : cFunc Tryz.prog 44 = some TOP.af44 ∧ okFn Tryz.prog 44 = true := ⟨by kernel_rfl, by kernel_rfl⟩
theorem l55 : cFunc Tryz.prog 55 = some TOP.af55 ∧ okFn Tryz.prog 55 = true := ⟨by kernel_rfl, by kernel_rfl⟩
theorem l70 : cFunc Tryz.prog 70 = some TOP.af70 ∧ okFn Tryz.prog 70 = true := ⟨by kernel_rfl, by kernel_rfl⟩
theorem l78 : cFunc Tryz.prog 78 = some TOP.af78 ∧ okFn Tryz.prog 78 = true := ⟨by kernel_rfl, by kernel_rfl⟩
theorem l86 : cFunc Tryz.prog 86 = some TOP.af86 ∧ okFn Tryz.prog 86 = true := ⟨by kernel_rfl, by kernel_rfl⟩
theorem l100 : cFunc Tryz.prog 100 = some TOP.af100 ∧ okFn Tryz.prog 100 = true := ⟨by kernel_rfl, by kernel_rfl⟩
theorem l108 : cFunc Tryz.prog 108 = some TOP.af108 ∧ okFn Tryz.prog 108 = true := ⟨by kernel_rfl, by kernel_rfl⟩
theorem l119 : cFunc Tryz.prog 119 = some TOP.af119 ∧ okFn Tryz.prog 119 = true := ⟨by kernel_rfl, by kernel_rfl⟩
theorem l135 : cFunc Tryz.prog 135 = some TOP.af135 ∧ okFn Tryz.prog 135 = true := ⟨by kernel_rfl, by kernel_rfl⟩
theorem l143 : cFunc Tryz.prog 143 = some TOP.af143 ∧ okFn Tryz.prog 143 = true := ⟨by kernel_rfl, by kernel_rfl⟩
theorem l152 : cFunc Tryz.prog 152 = some TOP.af152 ∧ okFn Tryz.prog 152 = true := ⟨by kernel_rfl, by kernel_rfl⟩
theorem l160 : cFunc Tryz.prog 160 = some TOP.af160 ∧ okFn Tryz.prog 160 = true := ⟨by kernel_rfl, by kernel_rfl⟩
theorem l176 : cFunc Tryz.prog 176 = some TOP.af176 ∧ okFn Tryz.prog 176 = true := ⟨by kernel_rfl, by kernel_rfl⟩
theorem l186 : cFunc Tryz.prog 186 = some TOP.af186 ∧ okFn Tryz.prog 186 = true := ⟨by kernel_rfl, by kernel_rfl⟩
theorem l197 : cFunc Tryz.prog 197 = some TOP.af197 ∧ okFn Tryz.prog 197 = true := ⟨by kernel_rfl, by kernel_rfl⟩
theorem l212 : cFunc Tryz.prog 212 = some TOP.af212 ∧ okFn Tryz.prog 212 = true := ⟨by kernel_rfl, by kernel_rfl⟩
theorem l222 : cFunc Tryz.prog 222 = some TOP.af222 ∧ okFn Tryz.prog 222 = true := ⟨by kernel_rfl, by kernel_rfl⟩
theorem l258 : cFunc Tryz.prog 258 = some TOP.af258 ∧ okFn Tryz.prog 258 = true := ⟨by kernel_rfl, by kernel_rfl⟩
end Go.Proofs.YtlkcohidkhbipaaGreat.lnk
