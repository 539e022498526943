/- Machine code of some functions is what the program holds. No condition. -/
import Derived.Test.YtlkcohidkhbipaaGreatRows
import Derived.Test.YtlkcohidkhbipaaGreatRWa
import Derived.Test.YtlkcohidkhbipaaGreatBT
import Derived.Test.YtlkcohidkhbipaaGreatPLk
import Derived.WalkKit
import Derived.ProofKit
import Derived.OpenShut
import Derived.ShutString
import Derived.ChangeOld
import Derived.Below
import Derived.SizedLaws
import Derived.Carry
namespace Go.Proofs.YtlkcohidkhbipaaGreat.lnk
open Go.ChangeShapes Go.WideShapes Go.ChangeAt Go.RowKit Go.AM
set_option linter.all false
set_option maxRecDepth 10000
theorem l65 : cFunc Tryz.prog 65 = some TOP.af65 ∧ okFn Tryz.prog 65 = true := ⟨by kernel_rfl, by kernel_rfl⟩
theorem l14 : cFunc Tryz.prog 14 = some TOP.af14 ∧ okFn Tryz.prog 14 = true := ⟨by kernel_rfl, by kernel_rfl⟩
theorem l23 : cFunc Tryz.prog 23 = some TOP.af23 ∧ okFn Tryz.prog 23 = true := ⟨by kernel_rfl, by kernel_rfl⟩
theorem l36 : cFunc Tryz.prog 36 = some TOP.af36 ∧ okFn Tryz.prog 36 = true := ⟨by kernel_rfl, by kernel_rfl⟩
theorem l46 : cFunc Tryz.prog 46 = some TOP.af46 ∧ okFn Tryz.prog 46 = true := ⟨by kernel_rfl, by kernel_rfl⟩
theorem l61 : cFunc Tryz.prog 61 = some TOP.af61 ∧ okFn Tryz.prog 61 = true := ⟨by kernel_rfl, by kernel_rfl⟩
theorem l71 : cFunc Tryz.prog 71 = some TOP.af71 ∧ okFn Tryz.prog 71 = true := ⟨by kernel_rfl, by kernel_rfl⟩
theorem l79 : cFunc Tryz.prog 79 = some TOP.af79 ∧ okFn Tryz.prog 79 = true := ⟨by kernel_rfl, by kernel_rfl⟩
theorem l87 : cFunc Tryz.prog 87 = some TOP.af87 ∧ okFn Tryz.prog 87 = true := ⟨by kernel_rfl, by kernel_rfl⟩
theorem l101 : cFunc Tryz.prog 101 = some TOP.af101 ∧ okFn Tryz.prog 101 = true := ⟨by kernel_rfl, by kernel_rfl⟩
theorem l110 : cFunc Tryz.prog 110 = some TOP.af110 ∧ okFn Tryz.prog 110 = true := ⟨by kernel_rfl, by kernel_rfl⟩
theorem l119 : cFunc Tryz.prog 119 = some TOP.af119 ∧ okFn Tryz.prog 119 = true := ⟨by kernel_rfl, by kernel_rfl⟩
theorem l135 : cFunc Tryz.prog 135 = some TOP.af135 ∧ okFn Tryz.prog 135 = true := ⟨by kernel_rfl, by kernel_rfl⟩
theorem l143 : cFunc Tryz.prog 143 = some TOP.af143 ∧ okFn Tryz.prog 143 = true := ⟨by kernel_rfl, by kernel_rfl⟩
theorem l152 : cFunc Tryz.prog 152 = some TOP.af152 ∧ okFn Tryz.prog 152 = true := ⟨by kernel_rfl, by kernel_rfl⟩
theorem l160 : cFunc Tryz.prog 160 = some TOP.af160 ∧ okFn Tryz.prog 160 = true := ⟨by kernel_rfl, by kernel_rfl⟩
theorem l176 : cFunc Tryz.prog 176 = some TOP.af176 ∧ okFn Tryz.prog 176 = true := ⟨by kernel_rfl, by kernel_rfl⟩
theorem l186 : cFunc Tryz.prog 186 = some TOP.af186 ∧ okFn Tryz.prog 186 = true := ⟨by kernel_rfl, by kernel_rfl⟩
theorem l198 : cFunc Tryz.prog 198 = some TOP.af198 ∧ okFn Tryz.prog 198 = true := ⟨by kernel_rfl, by kernel_rfl⟩
theorem l214 : cFunc Tryz.prog 214 = some TOP.af214 ∧ okFn Tryz.prog 214 = true := ⟨by kernel_rfl, by kernel_rfl⟩
theorem l243 : cFunc Tryz.prog 243 = some TOP.af243 ∧ okFn Tryz.prog 243 = true := ⟨by kernel_rfl, by kernel_rfl⟩
end Go.Proofs.YtlkcohidkhbipaaGreat.lnk
