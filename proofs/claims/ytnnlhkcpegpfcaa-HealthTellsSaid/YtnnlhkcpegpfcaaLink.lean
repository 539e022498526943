/- The machine code of the seat Ytnnlhkcpegpfcaa is what the program holds. No condition. -/
import Derived.Test.YtnnlhkcpegpfcaaRows
import Derived.Test.YtnnlhkcpegpfcaaRWa
import Derived.Test.YtnnlhkcpegpfcaaB18
import Derived.Test.YtnnlhkcpegpfcaaPLk
import Derived.Test.YtnnlhkcpegpfcaaPLk
import Derived.Test.YtnnlhkcpegpfcaaPLk
import Derived.Test.YtnnlhkcpegpfcaaPLk
import Derived.Test.YtnnlhkcpegpfcaaPLk
import Derived.Test.YtnnlhkcpegpfcaaPLk
import Derived.Test.YtnnlhkcpegpfcaaPLm
import Derived.Test.YtnnlhkcpegpfcaaPLm
import Derived.Test.YtnnlhkcpegpfcaaPLm
import Derived.Test.YtnnlhkcpegpfcaaPLm
import Derived.Test.YtnnlhkcpegpfcaaPLm
import Derived.Test.YtnnlhkcpegpfcaaPLn
import Derived.Test.YtnnlhkcpegpfcaaPLn
import Derived.Test.YtnnlhkcpegpfcaaPLn
import Derived.Test.YtnnlhkcpegpfcaaPLn
import Derived.Test.YtnnlhkcpegpfcaaPLn
import Derived.Test.YtnnlhkcpegpfcaaPLn
import Derived.Test.YtnnlhkcpegpfcaaPL18
import Derived.WalkKit
import Derived.ProofKit
import Derived.OpenShut
import Derived.ShutString
import Derived.ChangeOld
import Derived.Below
import Derived.SizedLaws
import Derived.Carry
namespace Go.Proofs.Ytnnlhkcpegpfcaa.lnk
open Go.ChangeShapes Go.WideShapes Go.ChangeAt Go.RowKit Go.AM
set_option linter.all false
set_option maxRecDepth 10000
theorem own : ownKnob Try.prog.godebug = none := by kernel_rfl
theorem laid : laidOutB Try.prog = true := by kernel_rfl
theorem l4 : cFunc Try.prog 4 = some L18.af4 ∧ okFn Try.prog 4 = true := ⟨by kernel_rfl, by kernel_rfl⟩
theorem l6 : cFunc Try.prog 6 = some L18.af6 ∧ okFn Try.prog 6 = true := ⟨by kernel_rfl, by kernel_rfl⟩
theorem l7 : cFunc Try.prog 7 = some L18.af7 ∧ okFn Try.prog 7 = true := ⟨by kernel_rfl, by kernel_rfl⟩
theorem l8 : cFunc Try.prog 8 = some L18.af8 ∧ okFn Try.prog 8 = true := ⟨by kernel_rfl, by kernel_rfl⟩
theorem l9 : cFunc Try.prog 9 = some L18.af9 ∧ okFn Try.prog 9 = true := ⟨by kernel_rfl, by kernel_rfl⟩
theorem l10 : cFunc Try.prog 10 = some L18.af10 ∧ okFn Try.prog 10 = true := ⟨by kernel_rfl, by kernel_rfl⟩
theorem l11 : cFunc Try.prog 11 = some L18.af11 ∧ okFn Try.prog 11 = true := ⟨by kernel_rfl, by kernel_rfl⟩
theorem l12 : cFunc Try.prog 12 = some L18.af12 ∧ okFn Try.prog 12 = true := ⟨by kernel_rfl, by kernel_rfl⟩
theorem l13 : cFunc Try.prog 13 = some L18.af13 ∧ okFn Try.prog 13 = true := ⟨by kernel_rfl, by kernel_rfl⟩
theorem l14 : cFunc Try.prog 14 = some L18.af14 ∧ okFn Try.prog 14 = true := ⟨by kernel_rfl, by kernel_rfl⟩
theorem link : LinkL Try.prog L18.funs := (.cons l4.1 l4.2 (.cons l6.1 l6.2 (.cons l7.1 l7.2 (.cons l8.1 l8.2 (.cons l9.1 l9.2 (.cons l10.1 l10.2 (.cons l11.1 l11.2 (.cons l12.1 l12.2 (.cons l13.1 l13.2 (.cons l14.1 l14.2 .nil))))))))))
theorem linked : Linked Try.prog L18.A := link.linked (by kernel_rfl)
theorem wf64 {n : Int} (h : (Lit.int .i64 n).wf = true) : PL.i64 n := by
  unfold PL.i64
  unfold Lit.wf at h
  simp only [Bool.and_eq_true, decide_eq_true_eq] at h
  rw [show IntKind.i64.min = -9223372036854775808 by decide, show IntKind.i64.max = 9223372036854775807 by decide] at h
  omega
theorem wf32 {n : Int} (h : (Lit.int .u32 n).wf = true) : 0 ≤ n ∧ n < 4294967296 := by
  unfold Lit.wf at h
  simp only [Bool.and_eq_true, decide_eq_true_eq] at h
  rw [show IntKind.u32.min = 0 by decide, show IntKind.u32.max = 4294967295 by decide] at h
  omega

end Go.Proofs.Ytnnlhkcpegpfcaa.lnk
