/- The machine code of the seat Ytkcacljpghfiaaa is what the program holds. No condition. -/
import Derived.Test.YtkcacljpghfiaaaRows
import Derived.Test.YtkcacljpghfiaaaRWa
import Derived.Test.YtkcacljpghfiaaaB16
import Derived.Test.YtkcacljpghfiaaaPLk
import Derived.Test.YtkcacljpghfiaaaPLk
import Derived.Test.YtkcacljpghfiaaaPLk
import Derived.Test.YtkcacljpghfiaaaPLk
import Derived.Test.YtkcacljpghfiaaaPLk
import Derived.Test.YtkcacljpghfiaaaPLk
import Derived.Test.YtkcacljpghfiaaaPLm
import Derived.Test.YtkcacljpghfiaaaPLm
import Derived.Test.YtkcacljpghfiaaaPLm
import Derived.Test.YtkcacljpghfiaaaPLm
import Derived.Test.YtkcacljpghfiaaaPLm
import Derived.Test.YtkcacljpghfiaaaPLn
import Derived.Test.YtkcacljpghfiaaaPLn
import Derived.Test.YtkcacljpghfiaaaPLn
import Derived.Test.YtkcacljpghfiaaaPLn
import Derived.Test.YtkcacljpghfiaaaPLn
import Derived.Test.YtkcacljpghfiaaaPLn
import Derived.Test.YtkcacljpghfiaaaPLo
import Derived.Test.YtkcacljpghfiaaaPLo
import Derived.Test.YtkcacljpghfiaaaPLo
import Derived.Test.YtkcacljpghfiaaaPLo
import Derived.Test.YtkcacljpghfiaaaPLo
import Derived.Test.YtkcacljpghfiaaaPLo
import Derived.Test.YtkcacljpghfiaaaPLo
import Derived.Test.YtkcacljpghfiaaaPL16
import Derived.Test.YtkcacljpghfiaaaPL16b
import Derived.Test.YtkcacljpghfiaaaPL16c
import Derived.WalkKit
import Derived.ProofKit
import Derived.OpenShut
import Derived.ShutString
import Derived.ChangeOld
import Derived.Below
import Derived.SizedLaws
import Derived.Carry
namespace Go.Proofs.Ytkcacljpghfiaaa.lnk
open Go.ChangeShapes Go.WideShapes Go.ChangeAt Go.RowKit Go.AM
set_option linter.all false
set_option maxRecDepth 10000
theorem own : ownKnob Try.prog.godebug = none := by kernel_rfl
theorem laid : laidOutB Try.prog = true := by kernel_rfl
theorem l5 : cFunc Try.prog 5 = some L16.af5 ∧ okFn Try.prog 5 = true := ⟨by kernel_rfl, by kernel_rfl⟩
theorem l7 : cFunc Try.prog 7 = some L16.af7 ∧ okFn Try.prog 7 = true := ⟨by kernel_rfl, by kernel_rfl⟩
theorem l8 : cFunc Try.prog 8 = some L16.af8 ∧ okFn Try.prog 8 = true := ⟨by kernel_rfl, by kernel_rfl⟩
theorem l9 : cFunc Try.prog 9 = some L16.af9 ∧ okFn Try.prog 9 = true := ⟨by kernel_rfl, by kernel_rfl⟩
theorem l10 : cFunc Try.prog 10 = some L16.af10 ∧ okFn Try.prog 10 = true := ⟨by kernel_rfl, by kernel_rfl⟩
theorem l11 : cFunc Try.prog 11 = some L16.af11 ∧ okFn Try.prog 11 = true := ⟨by kernel_rfl, by kernel_rfl⟩
theorem l12 : cFunc Try.prog 12 = some L16.af12 ∧ okFn Try.prog 12 = true := ⟨by kernel_rfl, by kernel_rfl⟩
theorem l14 : cFunc Try.prog 14 = some L16.af14 ∧ okFn Try.prog 14 = true := ⟨by kernel_rfl, by kernel_rfl⟩
theorem l15 : cFunc Try.prog 15 = some L16.af15 ∧ okFn Try.prog 15 = true := ⟨by kernel_rfl, by kernel_rfl⟩
theorem l16 : cFunc Try.prog 16 = some L16.af16 ∧ okFn Try.prog 16 = true := ⟨by kernel_rfl, by kernel_rfl⟩
theorem l17 : cFunc Try.prog 17 = some L16.af17 ∧ okFn Try.prog 17 = true := ⟨by kernel_rfl, by kernel_rfl⟩
theorem l18 : cFunc Try.prog 18 = some L16.af18 ∧ okFn Try.prog 18 = true := ⟨by kernel_rfl, by kernel_rfl⟩
theorem l19 : cFunc Try.prog 19 = some L16.af19 ∧ okFn Try.prog 19 = true := ⟨by kernel_rfl, by kernel_rfl⟩
theorem l20 : cFunc Try.prog 20 = some L16.af20 ∧ okFn Try.prog 20 = true := ⟨by kernel_rfl, by kernel_rfl⟩
theorem l21 : cFunc Try.prog 21 = some L16.af21 ∧ okFn Try.prog 21 = true := ⟨by kernel_rfl, by kernel_rfl⟩
theorem l22 : cFunc Try.prog 22 = some L16.af22 ∧ okFn Try.prog 22 = true := ⟨by kernel_rfl, by kernel_rfl⟩
theorem l23 : cFunc Try.prog 23 = some L16.af23 ∧ okFn Try.prog 23 = true := ⟨by kernel_rfl, by kernel_rfl⟩
theorem l24 : cFunc Try.prog 24 = some L16.af24 ∧ okFn Try.prog 24 = true := ⟨by kernel_rfl, by kernel_rfl⟩
theorem l25 : cFunc Try.prog 25 = some L16.af25 ∧ okFn Try.prog 25 = true := ⟨by kernel_rfl, by kernel_rfl⟩
theorem l26 : cFunc Try.prog 26 = some L16.af26 ∧ okFn Try.prog 26 = true := ⟨by kernel_rfl, by kernel_rfl⟩
theorem l27 : cFunc Try.prog 27 = some L16.af27 ∧ okFn Try.prog 27 = true := ⟨by kernel_rfl, by kernel_rfl⟩
theorem l44 : cFunc Try.prog 44 = some L16.af44 ∧ okFn Try.prog 44 = true := ⟨by kernel_rfl, by kernel_rfl⟩
theorem l45 : cFunc Try.prog 45 = some L16.af45 ∧ okFn Try.prog 45 = true := ⟨by kernel_rfl, by kernel_rfl⟩
theorem l46 : cFunc Try.prog 46 = some L16.af46 ∧ okFn Try.prog 46 = true := ⟨by kernel_rfl, by kernel_rfl⟩
theorem l47 : cFunc Try.prog 47 = some L16.af47 ∧ okFn Try.prog 47 = true := ⟨by kernel_rfl, by kernel_rfl⟩
theorem l48 : cFunc Try.prog 48 = some L16.af48 ∧ okFn Try.prog 48 = true := ⟨by kernel_rfl, by kernel_rfl⟩
theorem l49 : cFunc Try.prog 49 = some L16.af49 ∧ okFn Try.prog 49 = true := ⟨by kernel_rfl, by kernel_rfl⟩
theorem l50 : cFunc Try.prog 50 = some L16.af50 ∧ okFn Try.prog 50 = true := ⟨by kernel_rfl, by kernel_rfl⟩
theorem link : LinkL Try.prog L16.funs := (.cons l5.1 l5.2 (.cons l7.1 l7.2 (.cons l8.1 l8.2 (.cons l9.1 l9.2 (.cons l10.1 l10.2 (.cons l11.1 l11.2 (.cons l12.1 l12.2 (.cons l14.1 l14.2 (.cons l15.1 l15.2 (.cons l16.1 l16.2 (.cons l17.1 l17.2 (.cons l18.1 l18.2 (.cons l19.1 l19.2 (.cons l20.1 l20.2 (.cons l21.1 l21.2 (.cons l22.1 l22.2 (.cons l23.1 l23.2 (.cons l24.1 l24.2 (.cons l25.1 l25.2 (.cons l26.1 l26.2 (.cons l27.1 l27.2 (.cons l44.1 l44.2 (.cons l45.1 l45.2 (.cons l46.1 l46.2 (.cons l47.1 l47.2 (.cons l48.1 l48.2 (.cons l49.1 l49.2 (.cons l50.1 l50.2 .nil))))))))))))))))))))))))))))
theorem linked : Linked Try.prog L16.A := link.linked (by kernel_rfl)
theorem wf64 {n : Int} (h : (Lit.int .i64 n).wf = true) : PL.i64 n := by
  unfold PL.i64
  unfold Lit.wf at h
  simp only [Bool.and_eq_true, decide_eq_true_eq] at h
  rw [show IntKind.i64.min = -9223372036854775808 by decide, show IntKind.i64.max = 9223372036854775807 by decide] at h
  omega
theorem wf32 {n : Int} (h : (Lit.int .u32 n).wf = true) : 0 ≤ n ∧ n < 4294967296 := by
  unfold Lit.wf at h
  simp only [Bool.and_eq_true, decide_eq_true_eq] at h
  rw [show IntKind.u32.min = 0 by decide, show IntKind.u32.max = 4294967295 by decide] at h
  omega

end Go.Proofs.Ytkcacljpghfiaaa.lnk
