/- Machine code of some functions is what the program holds. No condition. -/
import Derived.Test.YtlkcohidkhbipaaGreatRows
import Derived.Test.YtlkcohidkhbipaaGreatRWa
import Derived.Test.YtlkcohidkhbipaaGreatBT
import Derived.Test.YtlkcohidkhbipaaGreatPLk
import Derived.WalkKit
import Derived.ProofKit
import Derived.OpenShut
import Derived.ShutString
import Derived.ChangeOld
import Derived.Below
import Derived.SizedLaws
import Derived.Carry
namespace Go.Proofs.YtlkcohidkhbipaaGreat.lnk
open Go.ChangeShapes Go.WideShapes Go.ChangeAt Go.RowKit Go.AM
set_option linter.all false
set_option maxRecDepth 10000
theorem l20 : cFunc Tryz.prog 20 = some TOP.af20 ∧ okFn Tryz.prog 20 = true := ⟨by kernel_rfl, by kernel_rfl⟩
theorem l32 : cFunc Tryz.prog 32 = some TOP.af32 ∧ okFn Tryz.prog 32 = true := ⟨by kernel_rfl, by kernel_rfl⟩
theorem l45 : cFunc Tryz.prog 45 = some TOP.af45 ∧ okFn Tryz.prog 45 = true := ⟨by kernel_rfl, by kernel_rfl⟩
theorem l60 : cFunc Tryz.prog 60 = some TOP.af60 ∧ okFn Tryz.prog 60 = true := ⟨by kernel_rfl, by kernel_rfl⟩
theorem l71 : cFunc Tryz.prog 71 = some TOP.af71 ∧ okFn Tryz.prog 71 = true := ⟨by kernel_rfl, by kernel_rfl⟩
theorem l79 : cFunc Tryz.prog 79 = some TOP.af79 ∧ okFn Tryz.prog 79 = true := ⟨by kernel_rfl, by kernel_rfl⟩
theorem l87 : cFunc Tryz.prog 87 = some TOP.af87 ∧ okFn Tryz.prog 87 = true := ⟨by kernel_rfl, by kernel_rfl⟩
theorem l101 : cFunc Tryz.prog 101 = some TOP.af101 ∧ okFn Tryz.prog 101 = true := ⟨by kernel_rfl, by kernel_rfl⟩
theorem l111 : cFunc Tryz.prog 111 = some TOP.af111 ∧ okFn Tryz.prog 111 = true := ⟨by kernel_rfl, by kernel_rfl⟩
theorem l121 : cFunc Tryz.prog 121 = some TOP.af121 ∧ okFn Tryz.prog 121 = true := ⟨by kernel_rfl, by kernel_rfl⟩
theorem l136 : cFunc Tryz.prog 136 = some TOP.af136 ∧ okFn Tryz.prog 136 = true := ⟨by kernel_rfl, by kernel_rfl⟩
theorem l145 : cFunc Tryz.prog 145 = some TOP.af145 ∧ okFn Tryz.prog 145 = true := ⟨by kernel_rfl, by kernel_rfl⟩
theorem l153 : cFunc Tryz.prog 153 = some TOP.af153 ∧ okFn Tryz.prog 153 = true := ⟨by kernel_rfl, by kernel_rfl⟩
theorem l161 : cFunc Tryz.prog 161 = some TOP.af161 ∧ okFn Tryz.prog 161 = true := ⟨by kernel_rfl, by kernel_rfl⟩
theorem l177 : cFunc Tryz.prog 177 = some TOP.af177 ∧ okFn Tryz.prog 177 = true := ⟨by kernel_rfl, by kernel_rfl⟩
theorem l188 : cFunc Tryz.prog 188 = some TOP.af188 ∧ okFn Tryz.prog 188 = true := ⟨by kernel_rfl, by kernel_rfl⟩
theorem l198 : cFunc Tryz.prog 198 = some TOP.af198 ∧ okFn Tryz.prog 198 = true := ⟨by kernel_rfl, by kernel_rfl⟩
theorem l213 : cFunc Tryz.prog 213 = some TOP.af213 ∧ okFn Tryz.prog 213 = true := ⟨by kernel_rfl, by kernel_rfl⟩
theorem l223 : cFunc Tryz.prog 223 = some TOP.af223 ∧ okFn Tryz.prog 223 = true := ⟨by kernel_rfl, by kernel_rfl⟩
theorem l259 : cFunc Tryz.prog 259 = some TOP.af259 ∧ okFn Tryz.prog 259 = true := ⟨by kernel_rfl, by kernel_rfl⟩
end Go.Proofs.YtlkcohidkhbipaaGreat.lnk
