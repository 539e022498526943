/- The machine code of the seat Ytabhoinefficpaa is what the program holds. No condition. -/
import Derived.Test.YtabhoinefficpaaRows
import Derived.Test.YtabhoinefficpaaRWa
import Derived.Test.YtabhoinefficpaaB10
import Derived.Test.YtabhoinefficpaaPLk
import Derived.Test.YtabhoinefficpaaPLk
import Derived.Test.YtabhoinefficpaaPLk
import Derived.Test.YtabhoinefficpaaPLk
import Derived.Test.YtabhoinefficpaaPLk
import Derived.Test.YtabhoinefficpaaPLk
import Derived.Test.YtabhoinefficpaaPLm
import Derived.Test.YtabhoinefficpaaPLm
import Derived.Test.YtabhoinefficpaaPLm
import Derived.Test.YtabhoinefficpaaPLm
import Derived.Test.YtabhoinefficpaaPLm
import Derived.Test.YtabhoinefficpaaPLn
import Derived.Test.YtabhoinefficpaaPLn
import Derived.Test.YtabhoinefficpaaPLn
import Derived.Test.YtabhoinefficpaaPLn
import Derived.Test.YtabhoinefficpaaPLn
import Derived.Test.YtabhoinefficpaaPLn
import Derived.Test.YtabhoinefficpaaPLo
import Derived.Test.YtabhoinefficpaaPLo
import Derived.Test.YtabhoinefficpaaPLo
import Derived.Test.YtabhoinefficpaaPLo
import Derived.Test.YtabhoinefficpaaPLo
import Derived.Test.YtabhoinefficpaaPLo
import Derived.Test.YtabhoinefficpaaPLo
import Derived.Test.YtabhoinefficpaaPLp
import Derived.Test.YtabhoinefficpaaPLp
import Derived.Test.YtabhoinefficpaaPLp
import Derived.Test.YtabhoinefficpaaPLp
import Derived.Test.YtabhoinefficpaaPL10
import Derived.Test.YtabhoinefficpaaPL10b
import Derived.WalkKit
import Derived.ProofKit
import Derived.OpenShut
import Derived.ShutString
import Derived.ChangeOld
import Derived.Below
import Derived.SizedLaws
import Derived.Carry
namespace Go.Proofs.Ytabhoinefficpaa.lnk
open Go.ChangeShapes Go.WideShapes Go.ChangeAt Go.RowKit Go.AM
set_option linter.all false
set_option maxRecDepth 10000
theorem own : ownKnob Try.prog.godebug = none := by kernel_rfl
theorem laid : laidOutB Try.prog = true := by kernel_rfl
theorem l3 : cFunc Try.prog 3 = some L10.af3 ∧ okFn Try.prog 3 = true := ⟨by kernel_rfl, by kernel_rfl⟩
theorem l8 : cFunc Try.prog 8 = some L10.af8 ∧ okFn Try.prog 8 = true := ⟨by kernel_rfl, by kernel_rfl⟩
theorem l9 : cFunc Try.prog 9 = some L10.af9 ∧ okFn Try.prog 9 = true := ⟨by kernel_rfl, by kernel_rfl⟩
theorem l10 : cFunc Try.prog 10 = some L10.af10 ∧ okFn Try.prog 10 = true := ⟨by kernel_rfl, by kernel_rfl⟩
theorem l11 : cFunc Try.prog 11 = some L10.af11 ∧ okFn Try.prog 11 = true := ⟨by kernel_rfl, by kernel_rfl⟩
theorem l12 : cFunc Try.prog 12 = some L10.af12 ∧ okFn Try.prog 12 = true := ⟨by kernel_rfl, by kernel_rfl⟩
theorem l13 : cFunc Try.prog 13 = some L10.af13 ∧ okFn Try.prog 13 = true := ⟨by kernel_rfl, by kernel_rfl⟩
theorem l14 : cFunc Try.prog 14 = some L10.af14 ∧ okFn Try.prog 14 = true := ⟨by kernel_rfl, by kernel_rfl⟩
theorem l15 : cFunc Try.prog 15 = some L10.af15 ∧ okFn Try.prog 15 = true := ⟨by kernel_rfl, by kernel_rfl⟩
theorem l16 : cFunc Try.prog 16 = some L10.af16 ∧ okFn Try.prog 16 = true := ⟨by kernel_rfl, by kernel_rfl⟩
theorem l17 : cFunc Try.prog 17 = some L10.af17 ∧ okFn Try.prog 17 = true := ⟨by kernel_rfl, by kernel_rfl⟩
theorem l18 : cFunc Try.prog 18 = some L10.af18 ∧ okFn Try.prog 18 = true := ⟨by kernel_rfl, by kernel_rfl⟩
theorem l20 : cFunc Try.prog 20 = some L10.af20 ∧ okFn Try.prog 20 = true := ⟨by kernel_rfl, by kernel_rfl⟩
theorem l23 : cFunc Try.prog 23 = some L10.af23 ∧ okFn Try.prog 23 = true := ⟨by kernel_rfl, by kernel_rfl⟩
theorem l24 : cFunc Try.prog 24 = some L10.af24 ∧ okFn Try.prog 24 = true := ⟨by kernel_rfl, by kernel_rfl⟩
theorem l25 : cFunc Try.prog 25 = some L10.af25 ∧ okFn Try.prog 25 = true := ⟨by kernel_rfl, by kernel_rfl⟩
theorem l26 : cFunc Try.prog 26 = some L10.af26 ∧ okFn Try.prog 26 = true := ⟨by kernel_rfl, by kernel_rfl⟩
theorem l27 : cFunc Try.prog 27 = some L10.af27 ∧ okFn Try.prog 27 = true := ⟨by kernel_rfl, by kernel_rfl⟩
theorem l28 : cFunc Try.prog 28 = some L10.af28 ∧ okFn Try.prog 28 = true := ⟨by kernel_rfl, by kernel_rfl⟩
theorem l29 : cFunc Try.prog 29 = some L10.af29 ∧ okFn Try.prog 29 = true := ⟨by kernel_rfl, by kernel_rfl⟩
theorem l30 : cFunc Try.prog 30 = some L10.af30 ∧ okFn Try.prog 30 = true := ⟨by kernel_rfl, by kernel_rfl⟩
theorem l31 : cFunc Try.prog 31 = some L10.af31 ∧ okFn Try.prog 31 = true := ⟨by kernel_rfl, by kernel_rfl⟩
theorem l32 : cFunc Try.prog 32 = some L10.af32 ∧ okFn Try.prog 32 = true := ⟨by kernel_rfl, by kernel_rfl⟩
theorem l33 : cFunc Try.prog 33 = some L10.af33 ∧ okFn Try.prog 33 = true := ⟨by kernel_rfl, by kernel_rfl⟩
theorem l34 : cFunc Try.prog 34 = some L10.af34 ∧ okFn Try.prog 34 = true := ⟨by kernel_rfl, by kernel_rfl⟩
theorem l35 : cFunc Try.prog 35 = some L10.af35 ∧ okFn Try.prog 35 = true := ⟨by kernel_rfl, by kernel_rfl⟩
theorem l36 : cFunc Try.prog 36 = some L10.af36 ∧ okFn Try.prog 36 = true := ⟨by kernel_rfl, by kernel_rfl⟩
theorem l37 : cFunc Try.prog 37 = some L10.af37 ∧ okFn Try.prog 37 = true := ⟨by kernel_rfl, by kernel_rfl⟩
theorem l38 : cFunc Try.prog 38 = some L10.af38 ∧ okFn Try.prog 38 = true := ⟨by kernel_rfl, by kernel_rfl⟩
theorem l39 : cFunc Try.prog 39 = some L10.af39 ∧ okFn Try.prog 39 = true := ⟨by kernel_rfl, by kernel_rfl⟩
theorem l40 : cFunc Try.prog 40 = some L10.af40 ∧ okFn Try.prog 40 = true := ⟨by kernel_rfl, by kernel_rfl⟩
theorem l41 : cFunc Try.prog 41 = some L10.af41 ∧ okFn Try.prog 41 = true := ⟨by kernel_rfl, by kernel_rfl⟩
theorem l42 : cFunc Try.prog 42 = some L10.af42 ∧ okFn Try.prog 42 = true := ⟨by kernel_rfl, by kernel_rfl⟩
theorem l43 : cFunc Try.prog 43 = some L10.af43 ∧ okFn Try.prog 43 = true := ⟨by kernel_rfl, by kernel_rfl⟩
theorem l44 : cFunc Try.prog 44 = some L10.af44 ∧ okFn Try.prog 44 = true := ⟨by kernel_rfl, by kernel_rfl⟩
theorem l46 : cFunc Try.prog 46 = some L10.af46 ∧ okFn Try.prog 46 = true := ⟨by kernel_rfl, by kernel_rfl⟩
theorem l47 : cFunc Try.prog 47 = some L10.af47 ∧ okFn Try.prog 47 = true := ⟨by kernel_rfl, by kernel_rfl⟩
theorem l48 : cFunc Try.prog 48 = some L10.af48 ∧ okFn Try.prog 48 = true := ⟨by kernel_rfl, by kernel_rfl⟩
theorem l49 : cFunc Try.prog 49 = some L10.af49 ∧ okFn Try.prog 49 = true := ⟨by kernel_rfl, by kernel_rfl⟩
theorem l50 : cFunc Try.prog 50 = some L10.af50 ∧ okFn Try.prog 50 = true := ⟨by kernel_rfl, by kernel_rfl⟩
theorem l51 : cFunc Try.prog 51 = some L10.af51 ∧ okFn Try.prog 51 = true := ⟨by kernel_rfl, by kernel_rfl⟩
theorem l52 : cFunc Try.prog 52 = some L10.af52 ∧ okFn Try.prog 52 = true := ⟨by kernel_rfl, by kernel_rfl⟩
theorem l53 : cFunc Try.prog 53 = some L10.af53 ∧ okFn Try.prog 53 = true := ⟨by kernel_rfl, by kernel_rfl⟩
theorem l54 : cFunc Try.prog 54 = some L10.af54 ∧ okFn Try.prog 54 = true := ⟨by kernel_rfl, by kernel_rfl⟩
theorem l55 : cFunc Try.prog 55 = some L10.af55 ∧ okFn Try.prog 55 = true := ⟨by kernel_rfl, by kernel_rfl⟩
theorem l56 : cFunc Try.prog 56 = some L10.af56 ∧ okFn Try.prog 56 = true := ⟨by kernel_rfl, by kernel_rfl⟩
theorem l57 : cFunc Try.prog 57 = some L10.af57 ∧ okFn Try.prog 57 = true := ⟨by kernel_rfl, by kernel_rfl⟩
theorem l58 : cFunc Try.prog 58 = some L10.af58 ∧ okFn Try.prog 58 = true := ⟨by kernel_rfl, by kernel_rfl⟩
theorem l59 : cFunc Try.prog 59 = some L10.af59 ∧ okFn Try.prog 59 = true := ⟨by kernel_rfl, by kernel_rfl⟩
theorem l60 : cFunc Try.prog 60 = some L10.af60 ∧ okFn Try.prog 60 = true := ⟨by kernel_rfl, by kernel_rfl⟩
theorem l62 : cFunc Try.prog 62 = some L10.af62 ∧ okFn Try.prog 62 = true := ⟨by kernel_rfl, by kernel_rfl⟩
theorem l63 : cFunc Try.prog 63 = some L10.af63 ∧ okFn Try.prog 63 = true := ⟨by kernel_rfl, by kernel_rfl⟩
theorem l64 : cFunc Try.prog 64 = some L10.af64 ∧ okFn Try.prog 64 = true := ⟨by kernel_rfl, by kernel_rfl⟩
theorem l65 : cFunc Try.prog 65 = some L10.af65 ∧ okFn Try.prog 65 = true := ⟨by kernel_rfl, by kernel_rfl⟩
theorem l66 : cFunc Try.prog 66 = some L10.af66 ∧ okFn Try.prog 66 = true := ⟨by kernel_rfl, by kernel_rfl⟩
theorem l67 : cFunc Try.prog 67 = some L10.af67 ∧ okFn Try.prog 67 = true := ⟨by kernel_rfl, by kernel_rfl⟩
theorem l68 : cFunc Try.prog 68 = some L10.af68 ∧ okFn Try.prog 68 = true := ⟨by kernel_rfl, by kernel_rfl⟩
theorem l69 : cFunc Try.prog 69 = some L10.af69 ∧ okFn Try.prog 69 = true := ⟨by kernel_rfl, by kernel_rfl⟩
theorem l70 : cFunc Try.prog 70 = some L10.af70 ∧ okFn Try.prog 70 = true := ⟨by kernel_rfl, by kernel_rfl⟩
theorem l71 : cFunc Try.prog 71 = some L10.af71 ∧ okFn Try.prog 71 = true := ⟨by kernel_rfl, by kernel_rfl⟩
theorem l72 : cFunc Try.prog 72 = some L10.af72 ∧ okFn Try.prog 72 = true := ⟨by kernel_rfl, by kernel_rfl⟩
theorem l73 : cFunc Try.prog 73 = some L10.af73 ∧ okFn Try.prog 73 = true := ⟨by kernel_rfl, by kernel_rfl⟩
theorem l74 : cFunc Try.prog 74 = some L10.af74 ∧ okFn Try.prog 74 = true := ⟨by kernel_rfl, by kernel_rfl⟩
theorem l75 : cFunc Try.prog 75 = some L10.af75 ∧ okFn Try.prog 75 = true := ⟨by kernel_rfl, by kernel_rfl⟩
theorem l76 : cFunc Try.prog 76 = some L10.af76 ∧ okFn Try.prog 76 = true := ⟨by kernel_rfl, by kernel_rfl⟩
theorem l77 : cFunc Try.prog 77 = some L10.af77 ∧ okFn Try.prog 77 = true := ⟨by kernel_rfl, by kernel_rfl⟩
theorem l78 : cFunc Try.prog 78 = some L10.af78 ∧ okFn Try.prog 78 = true := ⟨by kernel_rfl, by kernel_rfl⟩
theorem link : LinkL Try.prog L10.funs := (.cons l3.1 l3.2 (.cons l8.1 l8.2 (.cons l9.1 l9.2 (.cons l10.1 l10.2 (.cons l11.1 l11.2 (.cons l12.1 l12.2 (.cons l13.1 l13.2 (.cons l14.1 l14.2 (.cons l15.1 l15.2 (.cons l16.1 l16.2 (.cons l17.1 l17.2 (.cons l18.1 l18.2 (.cons l20.1 l20.2 (.cons l23.1 l23.2 (.cons l24.1 l24.2 (.cons l25.1 l25.2 (.cons l26.1 l26.2 (.cons l27.1 l27.2 (.cons l28.1 l28.2 (.cons l29.1 l29.2 (.cons l30.1 l30.2 (.cons l31.1 l31.2 (.cons l32.1 l32.2 (.cons l33.1 l33.2 (.cons l34.1 l34.2 (.cons l35.1 l35.2 (.cons l36.1 l36.2 (.cons l37.1 l37.2 (.cons l38.1 l38.2 (.cons l39.1 l39.2 (.cons l40.1 l40.2 (.cons l41.1 l41.2 (.cons l42.1 l42.2 (.cons l43.1 l43.2 (.cons l44.1 l44.2 (.cons l46.1 l46.2 (.cons l47.1 l47.2 (.cons l48.1 l48.2 (.cons l49.1 l49.2 (.cons l50.1 l50.2 (.cons l51.1 l51.2 (.cons l52.1 l52.2 (.cons l53.1 l53.2 (.cons l54.1 l54.2 (.cons l55.1 l55.2 (.cons l56.1 l56.2 (.cons l57.1 l57.2 (.cons l58.1 l58.2 (.cons l59.1 l59.2 (.cons l60.1 l60.2 (.cons l62.1 l62.2 (.cons l63.1 l63.2 (.cons l64.1 l64.2 (.cons l65.1 l65.2 (.cons l66.1 l66.2 (.cons l67.1 l67.2 (.cons l68.1 l68.2 (.cons l69.1 l69.2 (.cons l70.1 l70.2 (.cons l71.1 l71.2 (.cons l72.1 l72.2 (.cons l73.1 l73.2 (.cons l74.1 l74.2 (.cons l75.1 l75.2 (.cons l76.1 l76.2 (.cons l77.1 l77.2 (.cons l78.1 l78.2 .nil)))))))))))))))))))))))))))))))))))))))))))))))))))))))))))))))))))
theorem linked : Linked Try.prog L10.A := link.linked (by kernel_rfl)
theorem wf64 {n : Int} (h : (Lit.int .i64 n).wf = true) : PL.i64 n := by
  unfold PL.i64
  unfold Lit.wf at h
  simp only [Bool.and_eq_true, decide_eq_true_eq] at h
  rw [show IntKind.i64.min = -9223372036854775808 by decide, show IntKind.i64.max = 9223372036854775807 by decide] at h
  omega
theorem wf32 {n : Int} (h : (Lit.int .u32 n).wf = true) : 0 ≤ n ∧ n < 4294967296 := by
  unfold Lit.wf at h
  simp only [Bool.and_eq_true, decide_eq_true_eq] at h
  rw [show IntKind.u32.min = 0 by decide, show IntKind.u32.max = 4294967295 by decide] at h
  omega

end Go.Proofs.Ytabhoinefficpaa.lnk
