/-
  No cell of these rows narrows 'for every input' (looked for: loops, veiled, ifaces, maps, wideKeys, modest, calm, conditions, laid).
  DERIVED. THE GIVEN ROWS OF THIS SEAT. 4 by the template 'for every input the law returns true; each argument reads behind the call as it read before'; 0 by the template 'total and deterministic' (their statements: YtjgjjchfpohffaaTotals.lean).
  GIVEN WITH THE SEED: the statements are not yours to turn. If you find one false, say at which input.
  Laid BY PROGRAM, IN A SANDBOX (cutbox-rows.mjs): the forced cells as the released guide's own fill.sh prints them over the translation f1d891d781d0faad… (all of the seat's roots in one cut). By AI agents, Wed Nov 11 2026. No macro, syntax, notation, axiom, sorry.
-/
import Derived.Test.YtjgjjchfpohffaaChecked
import GoSem.Claim
import GoSem.ClaimJoined
import GoSem.ClaimMapViews
import Derived.JoinedTies
import Derived.KernelRfl
namespace Go.Proofs.Ytjgjjchfpohffaa
/- THE CELL 'sum', in the pinned program and in every row, IS THE sha256 OF THE DUMP (.gsa) THAT YtjgjjchfpohffaaProg.lean LOADS. Nothing in Lean hashes anything: it is a label: what it is worth is what the hold of that sum in a sandbox is worth. -/
noncomputable def Try.pinned : Pinned := { name := "ytjgjjchfpohffaa", sum := "f1d891d781d0faadcd37ef8b05353b717262148e5905cd0da7f195dc909707da", checked := Try.checked }
namespace Rows
def none {H : Type} : Left H := { results := [], args := [] }

/-- 'horariumlaw22.TraceNumbers': WHATEVER THE INPUT: true; the input reads as it did. -/
def traceNumbersSpec : ChangeSpec := { name := "traceNumbers", fn := fun _ => fun
  | [] => { results := [.lit (.bool true)], args := [] }
  | _ => none }
def traceNumbersRow : OpenClaim := { program := "ytjgjjchfpohffaa", sum := "f1d891d781d0faadcd37ef8b05353b717262148e5905cd0da7f195dc909707da", func := "horarium/horariumlaw22.TraceNumbers", spec := "traceNumbers", unfollowed := true, recurses := true, apart := false }
def TraceNumbersSaid : Prop := traceNumbersRow.holds Try.pinned (OpenSpec.ofChange traceNumbersSpec)

/-- ITS FALSE NEIGHBOUR: 'it returns false'. Refute it at one input. -/
def traceNumbersWrong : ChangeSpec := { name := "traceNumbers", fn := fun _ => fun
  | [] => { results := [.lit (.bool false)], args := [] }
  | _ => none }
def TraceNumbersWrongFalsely : Prop := traceNumbersRow.holds Try.pinned (OpenSpec.ofChange traceNumbersWrong)

/-- 'horariumlaw22.TraceTells': WHATEVER THE INPUT: true; the input reads as it did. -/
def traceTellsSpec : ChangeSpec := { name := "traceTells", fn := fun _ => fun
  | [d1, d2, d3, d4, d5] => { results := [.lit (.bool true)], args := [d1, d2, d3, d4, d5] }
  | _ => none }
def traceTellsRow : OpenClaim := { program := "ytjgjjchfpohffaa", sum := "f1d891d781d0faadcd37ef8b05353b717262148e5905cd0da7f195dc909707da", func := "horarium/horariumlaw22.TraceTells", spec := "traceTells", unfollowed := true, recurses := true, apart := false }
def TraceTellsSaid : Prop := traceTellsRow.holds Try.pinned (OpenSpec.ofChange traceTellsSpec)

/-- ITS FALSE NEIGHBOUR: 'it returns false'. Refute it at one input. -/
def traceTellsWrong : ChangeSpec := { name := "traceTells", fn := fun _ => fun
  | [d1, d2, d3, d4, d5] => { results := [.lit (.bool false)], args := [d1, d2, d3, d4, d5] }
  | _ => none }
def TraceTellsWrongFalsely : Prop := traceTellsRow.holds Try.pinned (OpenSpec.ofChange traceTellsWrong)

/-- 'horariumlaw22.TraceOrder': WHATEVER THE INPUT: true; the input reads as it did. -/
def traceOrderSpec : ChangeSpec := { name := "traceOrder", fn := fun _ => fun
  | [d1, d2, d3, d4] => { results := [.lit (.bool true)], args := [d1, d2, d3, d4] }
  | _ => none }
def traceOrderRow : OpenClaim := { program := "ytjgjjchfpohffaa", sum := "f1d891d781d0faadcd37ef8b05353b717262148e5905cd0da7f195dc909707da", func := "horarium/horariumlaw22.TraceOrder", spec := "traceOrder", unfollowed := true, recurses := true, apart := false }
def TraceOrderSaid : Prop := traceOrderRow.holds Try.pinned (OpenSpec.ofChange traceOrderSpec)

/-- ITS FALSE NEIGHBOUR: 'it returns false'. Refute it at one input. -/
def traceOrderWrong : ChangeSpec := { name := "traceOrder", fn := fun _ => fun
  | [d1, d2, d3, d4] => { results := [.lit (.bool false)], args := [d1, d2, d3, d4] }
  | _ => none }
def TraceOrderWrongFalsely : Prop := traceOrderRow.holds Try.pinned (OpenSpec.ofChange traceOrderWrong)

/-- 'horariumlaw22.TraceTicks': WHATEVER THE INPUT: true; the input reads as it did. -/
def traceTicksSpec : ChangeSpec := { name := "traceTicks", fn := fun _ => fun
  | [d1, d2] => { results := [.lit (.bool true)], args := [d1, d2] }
  | _ => none }
def traceTicksRow : OpenClaim := { program := "ytjgjjchfpohffaa", sum := "f1d891d781d0faadcd37ef8b05353b717262148e5905cd0da7f195dc909707da", func := "horarium/horariumlaw22.TraceTicks", spec := "traceTicks", unfollowed := true, recurses := true, apart := false }
def TraceTicksSaid : Prop := traceTicksRow.holds Try.pinned (OpenSpec.ofChange traceTicksSpec)

/-- ITS FALSE NEIGHBOUR: 'it returns false'. Refute it at one input. -/
def traceTicksWrong : ChangeSpec := { name := "traceTicks", fn := fun _ => fun
  | [d1, d2] => { results := [.lit (.bool false)], args := [d1, d2] }
  | _ => none }
def TraceTicksWrongFalsely : Prop := traceTicksRow.holds Try.pinned (OpenSpec.ofChange traceTicksWrong)

/- THE SECOND FORM. 'bulk': how many values and letters a reading holds, each counted each time it is reached (what is shared counts as often as it is met; a slice's spare places count too). A statement '..UptoSaid' is the law's where the arguments, and the package variables that the reading takes, are together of bulk at most 1048576: NARROWER than '..Said'. Prove '..Said' where nothing that the law and all that it calls make is longer than what came in: it says more and counts as full. Else prove '..UptoSaid'. A law counts once. -/
mutual
def uptoBulk {H : Type} : DataW H → Nat
  | .lit (.string bytes) => bytes.length + 1
  | .lit _ => 1
  | .nil => 1
  | .ptr d => uptoBulk d + 1
  | .slice elems spare => uptoBulkAll elems + uptoBulkAll spare + 1
  | .agg parts => uptoBulkAll parts + 1
  | .iface _ d => uptoBulk d + 1
  | .map entries => uptoBulkEntries entries + 1
  | .held _ => 1
def uptoBulkAll {H : Type} : List (DataW H) → Nat
  | [] => 0
  | d :: r => uptoBulk d + uptoBulkAll r
def uptoBulkEntries {H : Type} : List (Lit × DataW H) → Nat
  | [] => 0
  | x :: r => uptoBulkEntry x + uptoBulkEntries r
def uptoBulkEntry {H : Type} : Lit × DataW H → Nat
  | (.string bytes, d) => bytes.length + uptoBulk d + 1
  | (_, d) => uptoBulk d + 1
 end
def uptoSmall : (H : Type) → List (DataW H) → Bool := fun _ ds => decide (uptoBulkAll ds ≤ 1048576)
def OpenSpec.upto (s : _root_.Go.ChangeSpec) : _root_.Go.OpenSpec := { _root_.Go.OpenSpec.ofChange s with cond := some uptoSmall }

/-- 'horariumlaw22.TraceNumbers', WHERE WHAT IT READS IS OF BULK AT MOST 1048576: true; the input reads as it did. -/
def traceNumbersUptoRow : OpenClaim := { program := "ytjgjjchfpohffaa", sum := "f1d891d781d0faadcd37ef8b05353b717262148e5905cd0da7f195dc909707da", func := "horarium/horariumlaw22.TraceNumbers", spec := "traceNumbers", unfollowed := true, recurses := true, apart := false, narrowed := true }
def TraceNumbersUptoSaid : Prop := traceNumbersUptoRow.holds Try.pinned (OpenSpec.upto traceNumbersSpec)

/-- 'horariumlaw22.TraceTells', WHERE WHAT IT READS IS OF BULK AT MOST 1048576: true; the input reads as it did. -/
def traceTellsUptoRow : OpenClaim := { program := "ytjgjjchfpohffaa", sum := "f1d891d781d0faadcd37ef8b05353b717262148e5905cd0da7f195dc909707da", func := "horarium/horariumlaw22.TraceTells", spec := "traceTells", unfollowed := true, recurses := true, apart := false, narrowed := true }
def TraceTellsUptoSaid : Prop := traceTellsUptoRow.holds Try.pinned (OpenSpec.upto traceTellsSpec)

/-- 'horariumlaw22.TraceOrder', WHERE WHAT IT READS IS OF BULK AT MOST 1048576: true; the input reads as it did. -/
def traceOrderUptoRow : OpenClaim := { program := "ytjgjjchfpohffaa", sum := "f1d891d781d0faadcd37ef8b05353b717262148e5905cd0da7f195dc909707da", func := "horarium/horariumlaw22.TraceOrder", spec := "traceOrder", unfollowed := true, recurses := true, apart := false, narrowed := true }
def TraceOrderUptoSaid : Prop := traceOrderUptoRow.holds Try.pinned (OpenSpec.upto traceOrderSpec)

/-- 'horariumlaw22.TraceTicks', WHERE WHAT IT READS IS OF BULK AT MOST 1048576: true; the input reads as it did. -/
def traceTicksUptoRow : OpenClaim := { program := "ytjgjjchfpohffaa", sum := "f1d891d781d0faadcd37ef8b05353b717262148e5905cd0da7f195dc909707da", func := "horarium/horariumlaw22.TraceTicks", spec := "traceTicks", unfollowed := true, recurses := true, apart := false, narrowed := true }
def TraceTicksUptoSaid : Prop := traceTicksUptoRow.holds Try.pinned (OpenSpec.upto traceTicksSpec)

end Rows
end Go.Proofs.Ytjgjjchfpohffaa
