/- The machine code of the seat Ytnkbbfnloecbcaa is what the program holds. No condition. -/
import Derived.Test.YtnkbbfnloecbcaaRows
import Derived.Test.YtnkbbfnloecbcaaRWa
import Derived.Test.YtnkbbfnloecbcaaB3
import Derived.Test.YtnkbbfnloecbcaaPLk
import Derived.Test.YtnkbbfnloecbcaaPLk
import Derived.Test.YtnkbbfnloecbcaaPLk
import Derived.Test.YtnkbbfnloecbcaaPLk
import Derived.Test.YtnkbbfnloecbcaaPLk
import Derived.Test.YtnkbbfnloecbcaaPLk
import Derived.Test.YtnkbbfnloecbcaaPLm
import Derived.Test.YtnkbbfnloecbcaaPLm
import Derived.Test.YtnkbbfnloecbcaaPLm
import Derived.Test.YtnkbbfnloecbcaaPLm
import Derived.Test.YtnkbbfnloecbcaaPLm
import Derived.Test.YtnkbbfnloecbcaaPLn
import Derived.Test.YtnkbbfnloecbcaaPLn
import Derived.Test.YtnkbbfnloecbcaaPLn
import Derived.Test.YtnkbbfnloecbcaaPLn
import Derived.Test.YtnkbbfnloecbcaaPLn
import Derived.Test.YtnkbbfnloecbcaaPLn
import Derived.Test.YtnkbbfnloecbcaaPLo
import Derived.Test.YtnkbbfnloecbcaaPLo
import Derived.Test.YtnkbbfnloecbcaaPLo
import Derived.Test.YtnkbbfnloecbcaaPLo
import Derived.Test.YtnkbbfnloecbcaaPLo
import Derived.Test.YtnkbbfnloecbcaaPLo
import Derived.Test.YtnkbbfnloecbcaaPLo
import Derived.Test.YtnkbbfnloecbcaaPL3e
import Derived.WalkKit
import Derived.ProofKit
import Derived.OpenShut
import Derived.ShutString
import Derived.ChangeOld
import Derived.Below
import Derived.SizedLaws
import Derived.Carry
namespace Go.Proofs.Ytnkbbfnloecbcaa.lnk
open Go.ChangeShapes Go.WideShapes Go.ChangeAt Go.RowKit Go.AM
set_option linter.all false
set_option maxRecDepth 10000
theorem own : ownKnob Try.prog.godebug = none := by kernel_rfl
theorem laid : laidOutB Try.prog = true := by kernel_rfl
theorem l3 : cFunc Try.prog 3 = some L3.af3 ∧ okFn Try.prog 3 = true := ⟨by kernel_rfl, by kernel_rfl⟩
theorem l7 : cFunc Try.prog 7 = some L3.af7 ∧ okFn Try.prog 7 = true := ⟨by kernel_rfl, by kernel_rfl⟩
theorem l8 : cFunc Try.prog 8 = some L3.af8 ∧ okFn Try.prog 8 = true := ⟨by kernel_rfl, by kernel_rfl⟩
theorem l9 : cFunc Try.prog 9 = some L3.af9 ∧ okFn Try.prog 9 = true := ⟨by kernel_rfl, by kernel_rfl⟩
theorem l10 : cFunc Try.prog 10 = some L3.af10 ∧ okFn Try.prog 10 = true := ⟨by kernel_rfl, by kernel_rfl⟩
theorem l11 : cFunc Try.prog 11 = some L3.af11 ∧ okFn Try.prog 11 = true := ⟨by kernel_rfl, by kernel_rfl⟩
theorem l12 : cFunc Try.prog 12 = some L3.af12 ∧ okFn Try.prog 12 = true := ⟨by kernel_rfl, by kernel_rfl⟩
theorem l13 : cFunc Try.prog 13 = some L3.af13 ∧ okFn Try.prog 13 = true := ⟨by kernel_rfl, by kernel_rfl⟩
theorem l14 : cFunc Try.prog 14 = some L3.af14 ∧ okFn Try.prog 14 = true := ⟨by kernel_rfl, by kernel_rfl⟩
theorem l15 : cFunc Try.prog 15 = some L3.af15 ∧ okFn Try.prog 15 = true := ⟨by kernel_rfl, by kernel_rfl⟩
theorem l16 : cFunc Try.prog 16 = some L3.af16 ∧ okFn Try.prog 16 = true := ⟨by kernel_rfl, by kernel_rfl⟩
theorem l17 : cFunc Try.prog 17 = some L3.af17 ∧ okFn Try.prog 17 = true := ⟨by kernel_rfl, by kernel_rfl⟩
theorem l18 : cFunc Try.prog 18 = some L3.af18 ∧ okFn Try.prog 18 = true := ⟨by kernel_rfl, by kernel_rfl⟩
theorem l19 : cFunc Try.prog 19 = some L3.af19 ∧ okFn Try.prog 19 = true := ⟨by kernel_rfl, by kernel_rfl⟩
theorem l20 : cFunc Try.prog 20 = some L3.af20 ∧ okFn Try.prog 20 = true := ⟨by kernel_rfl, by kernel_rfl⟩
theorem l21 : cFunc Try.prog 21 = some L3.af21 ∧ okFn Try.prog 21 = true := ⟨by kernel_rfl, by kernel_rfl⟩
theorem l22 : cFunc Try.prog 22 = some L3.af22 ∧ okFn Try.prog 22 = true := ⟨by kernel_rfl, by kernel_rfl⟩
theorem l23 : cFunc Try.prog 23 = some L3.af23 ∧ okFn Try.prog 23 = true := ⟨by kernel_rfl, by kernel_rfl⟩
theorem l24 : cFunc Try.prog 24 = some L3.af24 ∧ okFn Try.prog 24 = true := ⟨by kernel_rfl, by kernel_rfl⟩
theorem l25 : cFunc Try.prog 25 = some L3.af25 ∧ okFn Try.prog 25 = true := ⟨by kernel_rfl, by kernel_rfl⟩
theorem l26 : cFunc Try.prog 26 = some L3.af26 ∧ okFn Try.prog 26 = true := ⟨by kernel_rfl, by kernel_rfl⟩
theorem l27 : cFunc Try.prog 27 = some L3.af27 ∧ okFn Try.prog 27 = true := ⟨by kernel_rfl, by kernel_rfl⟩
theorem l28 : cFunc Try.prog 28 = some L3.af28 ∧ okFn Try.prog 28 = true := ⟨by kernel_rfl, by kernel_rfl⟩
theorem l29 : cFunc Try.prog 29 = some L3.af29 ∧ okFn Try.prog 29 = true := ⟨by kernel_rfl, by kernel_rfl⟩
theorem l30 : cFunc Try.prog 30 = some L3.af30 ∧ okFn Try.prog 30 = true := ⟨by kernel_rfl, by kernel_rfl⟩
theorem l31 : cFunc Try.prog 31 = some L3.af31 ∧ okFn Try.prog 31 = true := ⟨by kernel_rfl, by kernel_rfl⟩
theorem l32 : cFunc Try.prog 32 = some L3.af32 ∧ okFn Try.prog 32 = true := ⟨by kernel_rfl, by kernel_rfl⟩
theorem l33 : cFunc Try.prog 33 = some L3.af33 ∧ okFn Try.prog 33 = true := ⟨by kernel_rfl, by kernel_rfl⟩
theorem l34 : cFunc Try.prog 34 = some L3.af34 ∧ okFn Try.prog 34 = true := ⟨by kernel_rfl, by kernel_rfl⟩
theorem link : LinkL Try.prog L3.funs := (.cons l3.1 l3.2 (.cons l7.1 l7.2 (.cons l8.1 l8.2 (.cons l9.1 l9.2 (.cons l10.1 l10.2 (.cons l11.1 l11.2 (.cons l12.1 l12.2 (.cons l13.1 l13.2 (.cons l14.1 l14.2 (.cons l15.1 l15.2 (.cons l16.1 l16.2 (.cons l17.1 l17.2 (.cons l18.1 l18.2 (.cons l19.1 l19.2 (.cons l20.1 l20.2 (.cons l21.1 l21.2 (.cons l22.1 l22.2 (.cons l23.1 l23.2 (.cons l24.1 l24.2 (.cons l25.1 l25.2 (.cons l26.1 l26.2 (.cons l27.1 l27.2 (.cons l28.1 l28.2 (.cons l29.1 l29.2 (.cons l30.1 l30.2 (.cons l31.1 l31.2 (.cons l32.1 l32.2 (.cons l33.1 l33.2 (.cons l34.1 l34.2 .nil)))))))))))))))))))))))))))))
theorem linked : Linked Try.prog L3.A := link.linked (by kernel_rfl)
theorem wf64 {n : Int} (h : (Lit.int .i64 n).wf = true) : PL.i64 n := by
  unfold PL.i64
  unfold Lit.wf at h
  simp only [Bool.and_eq_true, decide_eq_true_eq] at h
  rw [show IntKind.i64.min = -9223372036854775808 by decide, show IntKind.i64.max = 9223372036854775807 by decide] at h
  omega
theorem wf32 {n : Int} (h : (Lit.int .u32 n).wf = true) : 0 ≤ n ∧ n < 4294967296 := by
  unfold Lit.wf at h
  simp only [Bool.and_eq_true, decide_eq_true_eq] at h
  rw [show IntKind.u32.min = 0 by decide, show IntKind.u32.max = 4294967295 by decide] at h
  omega

end Go.Proofs.Ytnkbbfnloecbcaa.lnk
