/- The machine code of the seat Ytbnhmpjcmgbabaa is what the program holds. No condition. -/
import Derived.Test.YtbnhmpjcmgbabaaRows
import Derived.Test.YtbnhmpjcmgbabaaRWa
import Derived.Test.YtbnhmpjcmgbabaaB17
import Derived.Test.YtbnhmpjcmgbabaaPL22
import Derived.Test.YtbnhmpjcmgbabaaPLb
import Derived.Test.YtbnhmpjcmgbabaaPLg
import Derived.Test.YtbnhmpjcmgbabaaPL1
import Derived.Test.YtbnhmpjcmgbabaaPL1b
import Derived.Test.YtbnhmpjcmgbabaaPL8
import Derived.Test.YtbnhmpjcmgbabaaPL8b
import Derived.Test.YtbnhmpjcmgbabaaPL8c
import Derived.Test.YtbnhmpjcmgbabaaPL8d
import Derived.Test.YtbnhmpjcmgbabaaPL8e
import Derived.Test.YtbnhmpjcmgbabaaPL17
import Derived.Test.YtbnhmpjcmgbabaaPL17b
import Derived.Test.YtbnhmpjcmgbabaaPL17c
import Derived.WalkKit
import Derived.ProofKit
import Derived.OpenShut
import Derived.ShutString
import Derived.ChangeOld
import Derived.Below
import Derived.SizedLaws
import Derived.Carry
namespace Go.Proofs.Ytbnhmpjcmgbabaa.lnk
open Go.ChangeShapes Go.WideShapes Go.ChangeAt Go.RowKit Go.AM
set_option linter.all false
set_option maxRecDepth 10000
theorem own : ownKnob Try.prog.godebug = none := by kernel_rfl
theorem laid : laidOutB Try.prog = true := by kernel_rfl
theorem l2 : cFunc Try.prog 2 = some L17.af2 ∧ okFn Try.prog 2 = true := ⟨by kernel_rfl, by kernel_rfl⟩
theorem l3 : cFunc Try.prog 3 = some L17.af3 ∧ okFn Try.prog 3 = true := ⟨by kernel_rfl, by kernel_rfl⟩
theorem l4 : cFunc Try.prog 4 = some L17.af4 ∧ okFn Try.prog 4 = true := ⟨by kernel_rfl, by kernel_rfl⟩
theorem l5 : cFunc Try.prog 5 = some L17.af5 ∧ okFn Try.prog 5 = true := ⟨by kernel_rfl, by kernel_rfl⟩
theorem l6 : cFunc Try.prog 6 = some L17.af6 ∧ okFn Try.prog 6 = true := ⟨by kernel_rfl, by kernel_rfl⟩
theorem l7 : cFunc Try.prog 7 = some L17.af7 ∧ okFn Try.prog 7 = true := ⟨by kernel_rfl, by kernel_rfl⟩
theorem l8 : cFunc Try.prog 8 = some L17.af8 ∧ okFn Try.prog 8 = true := ⟨by kernel_rfl, by kernel_rfl⟩
theorem l9 : cFunc Try.prog 9 = some L17.af9 ∧ okFn Try.prog 9 = true := ⟨by kernel_rfl, by kernel_rfl⟩
theorem l10 : cFunc Try.prog 10 = some L17.af10 ∧ okFn Try.prog 10 = true := ⟨by kernel_rfl, by kernel_rfl⟩
theorem l11 : cFunc Try.prog 11 = some L17.af11 ∧ okFn Try.prog 11 = true := ⟨by kernel_rfl, by kernel_rfl⟩
theorem l12 : cFunc Try.prog 12 = some L17.af12 ∧ okFn Try.prog 12 = true := ⟨by kernel_rfl, by kernel_rfl⟩
theorem l13 : cFunc Try.prog 13 = some L17.af13 ∧ okFn Try.prog 13 = true := ⟨by kernel_rfl, by kernel_rfl⟩
theorem l14 : cFunc Try.prog 14 = some L17.af14 ∧ okFn Try.prog 14 = true := ⟨by kernel_rfl, by kernel_rfl⟩
theorem l15 : cFunc Try.prog 15 = some L17.af15 ∧ okFn Try.prog 15 = true := ⟨by kernel_rfl, by kernel_rfl⟩
theorem l16 : cFunc Try.prog 16 = some L17.af16 ∧ okFn Try.prog 16 = true := ⟨by kernel_rfl, by kernel_rfl⟩
theorem l17 : cFunc Try.prog 17 = some L17.af17 ∧ okFn Try.prog 17 = true := ⟨by kernel_rfl, by kernel_rfl⟩
theorem l18 : cFunc Try.prog 18 = some L17.af18 ∧ okFn Try.prog 18 = true := ⟨by kernel_rfl, by kernel_rfl⟩
theorem l19 : cFunc Try.prog 19 = some L17.af19 ∧ okFn Try.prog 19 = true := ⟨by kernel_rfl, by kernel_rfl⟩
theorem l20 : cFunc Try.prog 20 = some L17.af20 ∧ okFn Try.prog 20 = true := ⟨by kernel_rfl, by kernel_rfl⟩
theorem l21 : cFunc Try.prog 21 = some L17.af21 ∧ okFn Try.prog 21 = true := ⟨by kernel_rfl, by kernel_rfl⟩
theorem l22 : cFunc Try.prog 22 = some L17.af22 ∧ okFn Try.prog 22 = true := ⟨by kernel_rfl, by kernel_rfl⟩
theorem l23 : cFunc Try.prog 23 = some L17.af23 ∧ okFn Try.prog 23 = true := ⟨by kernel_rfl, by kernel_rfl⟩
theorem l24 : cFunc Try.prog 24 = some L17.af24 ∧ okFn Try.prog 24 = true := ⟨by kernel_rfl, by kernel_rfl⟩
theorem l25 : cFunc Try.prog 25 = some L17.af25 ∧ okFn Try.prog 25 = true := ⟨by kernel_rfl, by kernel_rfl⟩
theorem l26 : cFunc Try.prog 26 = some L17.af26 ∧ okFn Try.prog 26 = true := ⟨by kernel_rfl, by kernel_rfl⟩
theorem l27 : cFunc Try.prog 27 = some L17.af27 ∧ okFn Try.prog 27 = true := ⟨by kernel_rfl, by kernel_rfl⟩
theorem link : LinkL Try.prog L17.funs := (.cons l2.1 l2.2 (.cons l3.1 l3.2 (.cons l4.1 l4.2 (.cons l5.1 l5.2 (.cons l6.1 l6.2 (.cons l7.1 l7.2 (.cons l8.1 l8.2 (.cons l9.1 l9.2 (.cons l10.1 l10.2 (.cons l11.1 l11.2 (.cons l12.1 l12.2 (.cons l13.1 l13.2 (.cons l14.1 l14.2 (.cons l15.1 l15.2 (.cons l16.1 l16.2 (.cons l17.1 l17.2 (.cons l18.1 l18.2 (.cons l19.1 l19.2 (.cons l20.1 l20.2 (.cons l21.1 l21.2 (.cons l22.1 l22.2 (.cons l23.1 l23.2 (.cons l24.1 l24.2 (.cons l25.1 l25.2 (.cons l26.1 l26.2 (.cons l27.1 l27.2 .nil))))))))))))))))))))))))))
theorem linked : Linked Try.prog L17.A := link.linked (by kernel_rfl)
theorem wf64 {n : Int} (h : (Lit.int .i64 n).wf = true) : PL.i64 n := by
  unfold PL.i64
  unfold Lit.wf at h
  simp only [Bool.and_eq_true, decide_eq_true_eq] at h
  rw [show IntKind.i64.min = -9223372036854775808 by decide, show IntKind.i64.max = 9223372036854775807 by decide] at h
  omega
theorem wf32 {n : Int} (h : (Lit.int .u32 n).wf = true) : 0 ≤ n ∧ n < 4294967296 := by
  unfold Lit.wf at h
  simp only [Bool.and_eq_true, decide_eq_true_eq] at h
  rw [show IntKind.u32.min = 0 by decide, show IntKind.u32.max = 4294967295 by decide] at h
  omega
theorem rcCh {M : Nat} (W : World) : RC M Try.prog W 29 6 PL.encC PL.okC :=
  (RC.struct Try.underlying29 (by kernel_rfl) (.cons rfl (RC.int Try.underlying3 (by kernel_rfl)) rfl (.cons rfl (RC.int Try.underlying3 (by kernel_rfl)) rfl (.cons rfl (RC.bool Try.underlying4 (by kernel_rfl)) rfl (.cons rfl (RC.int Try.underlying3 (by kernel_rfl)) rfl (.cons rfl (RC.int Try.underlying23 (by kernel_rfl)) rfl (.cons rfl (RC.int Try.underlying2 (by kernel_rfl)) rfl .nil))))))).map (fun x => ⟨x.1, x.2.1, x.2.2.1, x.2.2.2.1, x.2.2.2.2.1, x.2.2.2.2.2.1⟩) (fun x h => ⟨⟨wf64 h.1, wf64 h.2.1, wf64 h.2.2.2.1, wf32 h.2.2.2.2.1, wf64 h.2.2.2.2.2.1⟩, rfl⟩) (fun _ _ => rfl)
theorem rcAsk {M : Nat} (W : World) : RC M Try.prog W 25 3 PL.encA PL.okA :=
  (RC.struct Try.underlying25 (by kernel_rfl) (.cons rfl (RC.int Try.underlying3 (by kernel_rfl)) rfl (.cons rfl (RC.int Try.underlying3 (by kernel_rfl)) rfl (.cons rfl (RC.int Try.underlying23 (by kernel_rfl)) rfl .nil)))).map (fun x => ⟨x.1, x.2.1, x.2.2.1⟩) (fun x h => ⟨⟨wf64 h.1, wf64 h.2.1, wf32 h.2.2.1⟩, rfl⟩) (fun _ _ => rfl)

end Go.Proofs.Ytbnhmpjcmgbabaa.lnk
