/- The machine code of the seat YtlkcohidkhbipaaGreat is what the program holds. No condition. -/
import Derived.Test.YtlkcohidkhbipaaGreatRows
import Derived.Test.YtlkcohidkhbipaaGreatRWa
import Derived.Test.YtlkcohidkhbipaaGreatBT
import Derived.Test.YtlkcohidkhbipaaGreatPLk
import Derived.WalkKit
import Derived.ProofKit
import Derived.OpenShut
import Derived.ShutString
import Derived.ChangeOld
import Derived.Below
import Derived.SizedLaws
import Derived.Carry
import Derived.Test.YtlkcohidkhbipaaGreatLink0
import Derived.Test.YtlkcohidkhbipaaGreatLink1
import Derived.Test.YtlkcohidkhbipaaGreatLink2
import Derived.Test.YtlkcohidkhbipaaGreatLink3
import Derived.Test.YtlkcohidkhbipaaGreatLink4
import Derived.Test.YtlkcohidkhbipaaGreatLink5
import Derived.Test.YtlkcohidkhbipaaGreatLink6
import Derived.Test.YtlkcohidkhbipaaGreatLink7
namespace Go.Proofs.YtlkcohidkhbipaaGreat.lnk
open Go.ChangeShapes Go.WideShapes Go.ChangeAt Go.RowKit Go.AM
set_option linter.all false
set_option maxRecDepth 10000
theorem own : ownKnob Tryz.prog.godebug = none := by kernel_rfl
theorem laid : laidOutB Tryz.prog = true := by kernel_rfl
theorem link : LinkL Tryz.prog TOP.funs := (.cons l13.1 l13.2 (.cons l15.1 l15.2 (.cons l16.1 l16.2 (.cons l17.1 l17.2 (.cons l18.1 l18.2 (.cons l19.1 l19.2 (.cons l20.1 l20.2 (.cons l21.1 l21.2 (.cons l23.1 l23.2 (.cons l26.1 l26.2 (.cons l27.1 l27.2 (.cons l28.1 l28.2 (.cons l29.1 l29.2 (.cons l30.1 l30.2 (.cons l32.1 l32.2 (.cons l33.1 l33.2 (.cons l36.1 l36.2 (.cons l38.1 l38.2 (.cons l39.1 l39.2 (.cons l41.1 l41.2 (.cons l43.1 l43.2 (.cons l44.1 l44.2 (.cons l45.1 l45.2 (.cons l46.1 l46.2 (.cons l47.1 l47.2 (.cons l48.1 l48.2 (.cons l49.1 l49.2 (.cons l50.1 l50.2 (.cons l51.1 l51.2 (.cons l55.1 l55.2 (.cons l60.1 l60.2 (.cons l61.1 l61.2 (.cons l62.1 l62.2 (.cons l63.1 l63.2 (.cons l64.1 l64.2 (.cons l65.1 l65.2 (.cons l67.1 l67.2 (.cons l68.1 l68.2 (.cons l70.1 l70.2 (.cons l71.1 l71.2 (.cons l72.1 l72.2 (.cons l73.1 l73.2 (.cons l74.1 l74.2 (.cons l75.1 l75.2 (.cons l76.1 l76.2 (.cons l77.1 l77.2 (.cons l78.1 l78.2 (.cons l79.1 l79.2 (.cons l80.1 l80.2 (.cons l81.1 l81.2 (.cons l82.1 l82.2 (.cons l83.1 l83.2 (.cons l84.1 l84.2 (.cons l85.1 l85.2 (.cons l86.1 l86.2 (.cons l87.1 l87.2 (.cons l88.1 l88.2 (.cons l95.1 l95.2 (.cons l96.1 l96.2 (.cons l97.1 l97.2 (.cons l98.1 l98.2 (.cons l99.1 l99.2 (.cons l100.1 l100.2 (.cons l101.1 l101.2 (.cons l102.1 l102.2 (.cons l103.1 l103.2 (.cons l104.1 l104.2 (.cons l105.1 l105.2 (.cons l106.1 l106.2 (.cons l107.1 l107.2 (.cons l108.1 l108.2 (.cons l109.1 l109.2 (.cons l111.1 l111.2 (.cons l112.1 l112.2 (.cons l113.1 l113.2 (.cons l114.1 l114.2 (.cons l115.1 l115.2 (.cons l116.1 l116.2 (.cons l117.1 l117.2 (.cons l119.1 l119.2 (.cons l121.1 l121.2 (.cons l122.1 l122.2 (.cons l123.1 l123.2 (.cons l124.1 l124.2 (.cons l126.1 l126.2 (.cons l127.1 l127.2 (.cons l134.1 l134.2 (.cons l135.1 l135.2 (.cons l136.1 l136.2 (.cons l137.1 l137.2 (.cons l138.1 l138.2 (.cons l139.1 l139.2 (.cons l140.1 l140.2 (.cons l141.1 l141.2 (.cons l142.1 l142.2 (.cons l143.1 l143.2 (.cons l145.1 l145.2 (.cons l146.1 l146.2 (.cons l147.1 l147.2 (.cons l148.1 l148.2 (.cons l149.1 l149.2 (.cons l150.1 l150.2 (.cons l151.1 l151.2 (.cons l152.1 l152.2 (.cons l153.1 l153.2 (.cons l154.1 l154.2 (.cons l155.1 l155.2 (.cons l156.1 l156.2 (.cons l157.1 l157.2 (.cons l158.1 l158.2 (.cons l159.1 l159.2 (.cons l160.1 l160.2 (.cons l161.1 l161.2 (.cons l162.1 l162.2 (.cons l163.1 l163.2 (.cons l164.1 l164.2 (.cons l165.1 l165.2 (.cons l166.1 l166.2 (.cons l175.1 l175.2 (.cons l176.1 l176.2 (.cons l177.1 l177.2 (.cons l178.1 l178.2 (.cons l179.1 l179.2 (.cons l180.1 l180.2 (.cons l181.1 l181.2 (.cons l182.1 l182.2 (.cons l183.1 l183.2 (.cons l184.1 l184.2 (.cons l185.1 l185.2 (.cons l186.1 l186.2 (.cons l188.1 l188.2 (.cons l189.1 l189.2 (.cons l192.1 l192.2 (.cons l193.1 l193.2 (.cons l194.1 l194.2 (.cons l195.1 l195.2 (.cons l196.1 l196.2 (.cons l197.1 l197.2 (.cons l198.1 l198.2 (.cons l199.1 l199.2 (.cons l204.1 l204.2 (.cons l205.1 l205.2 (.cons l206.1 l206.2 (.cons l207.1 l207.2 (.cons l209.1 l209.2 (.cons l210.1 l210.2 (.cons l211.1 l211.2 (.cons l212.1 l212.2 (.cons l213.1 l213.2 (.cons l214.1 l214.2 (.cons l215.1 l215.2 (.cons l218.1 l218.2 (.cons l219.1 l219.2 (.cons l220.1 l220.2 (.cons l221.1 l221.2 (.cons l222.1 l222.2 (.cons l223.1 l223.2 (.cons l243.1 l243.2 (.cons l244.1 l244.2 (.cons l245.1 l245.2 (.cons l255.1 l255.2 (.cons l256.1 l256.2 (.cons l257.1 l257.2 (.cons l258.1 l258.2 (.cons l259.1 l259.2 (.cons l260.1 l260.2 (.cons l261.1 l261.2 .nil)))))))))))))))))))))))))))))))))))))))))))))))))))))))))))))))))))))))))))))))))))))))))))))))))))))))))))))))))))))))))))))))))))))))))))))))))))))))))))))))))))))))
theorem linked : Linked Tryz.prog TOP.A := link.linked (by kernel_rfl)
theorem wf64 {n : Int} (h : (Lit.int .i64 n).wf = true) : PL.i64 n := by
  unfold PL.i64
  unfold Lit.wf at h
  simp only [Bool.and_eq_true, decide_eq_true_eq] at h
  rw [show IntKind.i64.min = -9223372036854775808 by decide, show IntKind.i64.max = 9223372036854775807 by decide] at h
  omega
theorem wf32 {n : Int} (h : (Lit.int .u32 n).wf = true) : 0 ≤ n ∧ n < 4294967296 := by
  unfold Lit.wf at h
  simp only [Bool.and_eq_true, decide_eq_true_eq] at h
  rw [show IntKind.u32.min = 0 by decide, show IntKind.u32.max = 4294967295 by decide] at h
  omega

end Go.Proofs.YtlkcohidkhbipaaGreat.lnk
