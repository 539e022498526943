/- The machine code of the seat Ytomglcfneeelgaa is what the program holds. No condition. -/
import Derived.Test.YtomglcfneeelgaaRows
import Derived.Test.YtomglcfneeelgaaRWa
import Derived.Test.YtomglcfneeelgaaB7
import Derived.Test.YtomglcfneeelgaaPL22
import Derived.Test.YtomglcfneeelgaaPLb
import Derived.Test.YtomglcfneeelgaaPLg
import Derived.Test.YtomglcfneeelgaaPL1
import Derived.Test.YtomglcfneeelgaaPL1b
import Derived.Test.YtomglcfneeelgaaPL2
import Derived.Test.YtomglcfneeelgaaPL3
import Derived.Test.YtomglcfneeelgaaPL3b
import Derived.Test.YtomglcfneeelgaaPL8
import Derived.Test.YtomglcfneeelgaaPL8b
import Derived.Test.YtomglcfneeelgaaPL8c
import Derived.Test.YtomglcfneeelgaaPL8d
import Derived.Test.YtomglcfneeelgaaPL8e
import Derived.Test.YtomglcfneeelgaaPL17
import Derived.Test.YtomglcfneeelgaaPL17b
import Derived.Test.YtomglcfneeelgaaPL9
import Derived.Test.YtomglcfneeelgaaPL9b
import Derived.Test.YtomglcfneeelgaaPL9c
import Derived.Test.YtomglcfneeelgaaPL9d
import Derived.Test.YtomglcfneeelgaaPL7
import Derived.WalkKit
import Derived.ProofKit
import Derived.OpenShut
import Derived.ShutString
import Derived.ChangeOld
import Derived.Below
import Derived.SizedLaws
import Derived.Carry
namespace Go.Proofs.Ytomglcfneeelgaa.lnk
open Go.ChangeShapes Go.WideShapes Go.ChangeAt Go.RowKit Go.AM
set_option linter.all false
set_option maxRecDepth 10000
theorem own : ownKnob Try.prog.godebug = none := by kernel_rfl
theorem laid : laidOutB Try.prog = true := by kernel_rfl
theorem l7 : cFunc Try.prog 7 = some L7.af7 ∧ okFn Try.prog 7 = true := ⟨by kernel_rfl, by kernel_rfl⟩
theorem l11 : cFunc Try.prog 11 = some L7.af11 ∧ okFn Try.prog 11 = true := ⟨by kernel_rfl, by kernel_rfl⟩
theorem l12 : cFunc Try.prog 12 = some L7.af12 ∧ okFn Try.prog 12 = true := ⟨by kernel_rfl, by kernel_rfl⟩
theorem l13 : cFunc Try.prog 13 = some L7.af13 ∧ okFn Try.prog 13 = true := ⟨by kernel_rfl, by kernel_rfl⟩
theorem l15 : cFunc Try.prog 15 = some L7.af15 ∧ okFn Try.prog 15 = true := ⟨by kernel_rfl, by kernel_rfl⟩
theorem l16 : cFunc Try.prog 16 = some L7.af16 ∧ okFn Try.prog 16 = true := ⟨by kernel_rfl, by kernel_rfl⟩
theorem l17 : cFunc Try.prog 17 = some L7.af17 ∧ okFn Try.prog 17 = true := ⟨by kernel_rfl, by kernel_rfl⟩
theorem l18 : cFunc Try.prog 18 = some L7.af18 ∧ okFn Try.prog 18 = true := ⟨by kernel_rfl, by kernel_rfl⟩
theorem l20 : cFunc Try.prog 20 = some L7.af20 ∧ okFn Try.prog 20 = true := ⟨by kernel_rfl, by kernel_rfl⟩
theorem l24 : cFunc Try.prog 24 = some L7.af24 ∧ okFn Try.prog 24 = true := ⟨by kernel_rfl, by kernel_rfl⟩
theorem l25 : cFunc Try.prog 25 = some L7.af25 ∧ okFn Try.prog 25 = true := ⟨by kernel_rfl, by kernel_rfl⟩
theorem l26 : cFunc Try.prog 26 = some L7.af26 ∧ okFn Try.prog 26 = true := ⟨by kernel_rfl, by kernel_rfl⟩
theorem l27 : cFunc Try.prog 27 = some L7.af27 ∧ okFn Try.prog 27 = true := ⟨by kernel_rfl, by kernel_rfl⟩
theorem l28 : cFunc Try.prog 28 = some L7.af28 ∧ okFn Try.prog 28 = true := ⟨by kernel_rfl, by kernel_rfl⟩
theorem l29 : cFunc Try.prog 29 = some L7.af29 ∧ okFn Try.prog 29 = true := ⟨by kernel_rfl, by kernel_rfl⟩
theorem l30 : cFunc Try.prog 30 = some L7.af30 ∧ okFn Try.prog 30 = true := ⟨by kernel_rfl, by kernel_rfl⟩
theorem l31 : cFunc Try.prog 31 = some L7.af31 ∧ okFn Try.prog 31 = true := ⟨by kernel_rfl, by kernel_rfl⟩
theorem l32 : cFunc Try.prog 32 = some L7.af32 ∧ okFn Try.prog 32 = true := ⟨by kernel_rfl, by kernel_rfl⟩
theorem l33 : cFunc Try.prog 33 = some L7.af33 ∧ okFn Try.prog 33 = true := ⟨by kernel_rfl, by kernel_rfl⟩
theorem l40 : cFunc Try.prog 40 = some L7.af40 ∧ okFn Try.prog 40 = true := ⟨by kernel_rfl, by kernel_rfl⟩
theorem l41 : cFunc Try.prog 41 = some L7.af41 ∧ okFn Try.prog 41 = true := ⟨by kernel_rfl, by kernel_rfl⟩
theorem link : LinkL Try.prog L7.funs := (.cons l7.1 l7.2 (.cons l11.1 l11.2 (.cons l12.1 l12.2 (.cons l13.1 l13.2 (.cons l15.1 l15.2 (.cons l16.1 l16.2 (.cons l17.1 l17.2 (.cons l18.1 l18.2 (.cons l20.1 l20.2 (.cons l24.1 l24.2 (.cons l25.1 l25.2 (.cons l26.1 l26.2 (.cons l27.1 l27.2 (.cons l28.1 l28.2 (.cons l29.1 l29.2 (.cons l30.1 l30.2 (.cons l31.1 l31.2 (.cons l32.1 l32.2 (.cons l33.1 l33.2 (.cons l40.1 l40.2 (.cons l41.1 l41.2 .nil)))))))))))))))))))))
theorem linked : Linked Try.prog L7.A := link.linked (by kernel_rfl)
theorem wf64 {n : Int} (h : (Lit.int .i64 n).wf = true) : PL.i64 n := by
  unfold PL.i64
  unfold Lit.wf at h
  simp only [Bool.and_eq_true, decide_eq_true_eq] at h
  rw [show IntKind.i64.min = -9223372036854775808 by decide, show IntKind.i64.max = 9223372036854775807 by decide] at h
  omega
theorem wf32 {n : Int} (h : (Lit.int .u32 n).wf = true) : 0 ≤ n ∧ n < 4294967296 := by
  unfold Lit.wf at h
  simp only [Bool.and_eq_true, decide_eq_true_eq] at h
  rw [show IntKind.u32.min = 0 by decide, show IntKind.u32.max = 4294967295 by decide] at h
  omega

end Go.Proofs.Ytomglcfneeelgaa.lnk
