/-
  No cell of these rows narrows 'for every input' (looked for: loops, veiled, ifaces, maps, wideKeys, modest, calm, conditions, laid).
  DERIVED. THE GIVEN ROWS OF THIS SEAT. 5 by the template 'for every input the law returns true; each argument reads behind the call as it read before'; 0 by the template 'total and deterministic' (their statements: YthmcocmhalhbfaaTotals.lean).
  GIVEN WITH THE SEED: the statements are not yours to turn. If you find one false, say at which input.
  Laid BY PROGRAM, IN A SANDBOX (cutbox-rows.mjs): the forced cells as the released guide's own fill.sh prints them over the translation 36bc4e39539ebe37… (all of the seat's roots in one cut). By AI agents, Wed Nov 11 2026. No macro, syntax, notation, axiom, sorry.
-/
import Derived.Test.YthmcocmhalhbfaaChecked
import GoSem.Claim
import GoSem.ClaimJoined
import GoSem.ClaimMapViews
import Derived.JoinedTies
import Derived.KernelRfl
namespace Go.Proofs.Ythmcocmhalhbfaa
/- THE CELL 'sum', in the pinned program and in every row, IS THE sha256 OF THE DUMP (.gsa) THAT YthmcocmhalhbfaaProg.lean LOADS. Nothing in Lean hashes anything: it is a label: what it is worth is what the hold of that sum in a sandbox is worth. -/
noncomputable def Try.pinned : Pinned := { name := "ythmcocmhalhbfaa", sum := "36bc4e39539ebe3798fb86180a97083a60963c400dc274efddea2c09103fd67c", checked := Try.checked }
namespace Rows
def none {H : Type} : Left H := { results := [], args := [] }

/-- 'horariumlaw9.BoundNumbers': WHATEVER THE INPUT: true; the input reads as it did. -/
def boundNumbersSpec : ChangeSpec := { name := "boundNumbers", fn := fun _ => fun
  | [] => { results := [.lit (.bool true)], args := [] }
  | _ => none }
def boundNumbersRow : OpenClaim := { program := "ythmcocmhalhbfaa", sum := "36bc4e39539ebe3798fb86180a97083a60963c400dc274efddea2c09103fd67c", func := "horarium/horariumlaw9.BoundNumbers", spec := "boundNumbers", recurses := true, apart := false }
def BoundNumbersSaid : Prop := boundNumbersRow.holds Try.pinned (OpenSpec.ofChange boundNumbersSpec)

/-- ITS FALSE NEIGHBOUR: 'it returns false'. Refute it at one input. -/
def boundNumbersWrong : ChangeSpec := { name := "boundNumbers", fn := fun _ => fun
  | [] => { results := [.lit (.bool false)], args := [] }
  | _ => none }
def BoundNumbersWrongFalsely : Prop := boundNumbersRow.holds Try.pinned (OpenSpec.ofChange boundNumbersWrong)

/-- 'horariumlaw9.BoundTells': WHATEVER THE INPUT: true; the input reads as it did. -/
def boundTellsSpec : ChangeSpec := { name := "boundTells", fn := fun _ => fun
  | [d1, d2, d3, d4, d5, d6] => { results := [.lit (.bool true)], args := [d1, d2, d3, d4, d5, d6] }
  | _ => none }
def boundTellsRow : OpenClaim := { program := "ythmcocmhalhbfaa", sum := "36bc4e39539ebe3798fb86180a97083a60963c400dc274efddea2c09103fd67c", func := "horarium/horariumlaw9.BoundTells", spec := "boundTells", recurses := true, apart := false }
def BoundTellsSaid : Prop := boundTellsRow.holds Try.pinned (OpenSpec.ofChange boundTellsSpec)

/-- ITS FALSE NEIGHBOUR: 'it returns false'. Refute it at one input. -/
def boundTellsWrong : ChangeSpec := { name := "boundTells", fn := fun _ => fun
  | [d1, d2, d3, d4, d5, d6] => { results := [.lit (.bool false)], args := [d1, d2, d3, d4, d5, d6] }
  | _ => none }
def BoundTellsWrongFalsely : Prop := boundTellsRow.holds Try.pinned (OpenSpec.ofChange boundTellsWrong)

/-- 'horariumlaw9.BoundFrames': WHATEVER THE INPUT: true; the input reads as it did. -/
def boundFramesSpec : ChangeSpec := { name := "boundFrames", fn := fun _ => fun
  | [d1, d2, d3] => { results := [.lit (.bool true)], args := [d1, d2, d3] }
  | _ => none }
def boundFramesRow : OpenClaim := { program := "ythmcocmhalhbfaa", sum := "36bc4e39539ebe3798fb86180a97083a60963c400dc274efddea2c09103fd67c", func := "horarium/horariumlaw9.BoundFrames", spec := "boundFrames", apart := false }
def BoundFramesSaid : Prop := boundFramesRow.holds Try.pinned (OpenSpec.ofChange boundFramesSpec)

/-- ITS FALSE NEIGHBOUR: 'it returns false'. Refute it at one input. -/
def boundFramesWrong : ChangeSpec := { name := "boundFrames", fn := fun _ => fun
  | [d1, d2, d3] => { results := [.lit (.bool false)], args := [d1, d2, d3] }
  | _ => none }
def BoundFramesWrongFalsely : Prop := boundFramesRow.holds Try.pinned (OpenSpec.ofChange boundFramesWrong)

/-- 'horariumlaw9.BoundHolds': WHATEVER THE INPUT: true; the input reads as it did. -/
def boundHoldsSpec : ChangeSpec := { name := "boundHolds", fn := fun _ => fun
  | [d1, d2, d3] => { results := [.lit (.bool true)], args := [d1, d2, d3] }
  | _ => none }
def boundHoldsRow : OpenClaim := { program := "ythmcocmhalhbfaa", sum := "36bc4e39539ebe3798fb86180a97083a60963c400dc274efddea2c09103fd67c", func := "horarium/horariumlaw9.BoundHolds", spec := "boundHolds", apart := false }
def BoundHoldsSaid : Prop := boundHoldsRow.holds Try.pinned (OpenSpec.ofChange boundHoldsSpec)

/-- ITS FALSE NEIGHBOUR: 'it returns false'. Refute it at one input. -/
def boundHoldsWrong : ChangeSpec := { name := "boundHolds", fn := fun _ => fun
  | [d1, d2, d3] => { results := [.lit (.bool false)], args := [d1, d2, d3] }
  | _ => none }
def BoundHoldsWrongFalsely : Prop := boundHoldsRow.holds Try.pinned (OpenSpec.ofChange boundHoldsWrong)

/-- 'horariumlaw9.BoundRound': WHATEVER THE INPUT: true; the input reads as it did. -/
def boundRoundSpec : ChangeSpec := { name := "boundRound", fn := fun _ => fun
  | [d1, d2, d3, d4] => { results := [.lit (.bool true)], args := [d1, d2, d3, d4] }
  | _ => none }
def boundRoundRow : OpenClaim := { program := "ythmcocmhalhbfaa", sum := "36bc4e39539ebe3798fb86180a97083a60963c400dc274efddea2c09103fd67c", func := "horarium/horariumlaw9.BoundRound", spec := "boundRound", apart := false }
def BoundRoundSaid : Prop := boundRoundRow.holds Try.pinned (OpenSpec.ofChange boundRoundSpec)

/-- ITS FALSE NEIGHBOUR: 'it returns false'. Refute it at one input. -/
def boundRoundWrong : ChangeSpec := { name := "boundRound", fn := fun _ => fun
  | [d1, d2, d3, d4] => { results := [.lit (.bool false)], args := [d1, d2, d3, d4] }
  | _ => none }
def BoundRoundWrongFalsely : Prop := boundRoundRow.holds Try.pinned (OpenSpec.ofChange boundRoundWrong)

/- THE SECOND FORM. 'bulk': how many values and letters a reading holds, each counted each time it is reached (what is shared counts as often as it is met; a slice's spare places count too). A statement '..UptoSaid' is the law's where the arguments, and the package variables that the reading takes, are together of bulk at most 1048576: NARROWER than '..Said'. Prove '..Said' where nothing that the law and all that it calls make is longer than what came in: it says more and counts as full. Else prove '..UptoSaid'. A law counts once. -/
mutual
def uptoBulk {H : Type} : DataW H → Nat
  | .lit (.string bytes) => bytes.length + 1
  | .lit _ => 1
  | .nil => 1
  | .ptr d => uptoBulk d + 1
  | .slice elems spare => uptoBulkAll elems + uptoBulkAll spare + 1
  | .agg parts => uptoBulkAll parts + 1
  | .iface _ d => uptoBulk d + 1
  | .map entries => uptoBulkEntries entries + 1
  | .held _ => 1
def uptoBulkAll {H : Type} : List (DataW H) → Nat
  | [] => 0
  | d :: r => uptoBulk d + uptoBulkAll r
def uptoBulkEntries {H : Type} : List (Lit × DataW H) → Nat
  | [] => 0
  | x :: r => uptoBulkEntry x + uptoBulkEntries r
def uptoBulkEntry {H : Type} : Lit × DataW H → Nat
  | (.string bytes, d) => bytes.length + uptoBulk d + 1
  | (_, d) => uptoBulk d + 1
 end
def uptoSmall : (H : Type) → List (DataW H) → Bool := fun _ ds => decide (uptoBulkAll ds ≤ 1048576)
def OpenSpec.upto (s : _root_.Go.ChangeSpec) : _root_.Go.OpenSpec := { _root_.Go.OpenSpec.ofChange s with cond := some uptoSmall }

/-- 'horariumlaw9.BoundNumbers', WHERE WHAT IT READS IS OF BULK AT MOST 1048576: true; the input reads as it did. -/
def boundNumbersUptoRow : OpenClaim := { program := "ythmcocmhalhbfaa", sum := "36bc4e39539ebe3798fb86180a97083a60963c400dc274efddea2c09103fd67c", func := "horarium/horariumlaw9.BoundNumbers", spec := "boundNumbers", recurses := true, apart := false, narrowed := true }
def BoundNumbersUptoSaid : Prop := boundNumbersUptoRow.holds Try.pinned (OpenSpec.upto boundNumbersSpec)

/-- 'horariumlaw9.BoundTells', WHERE WHAT IT READS IS OF BULK AT MOST 1048576: true; the input reads as it did. -/
def boundTellsUptoRow : OpenClaim := { program := "ythmcocmhalhbfaa", sum := "36bc4e39539ebe3798fb86180a97083a60963c400dc274efddea2c09103fd67c", func := "horarium/horariumlaw9.BoundTells", spec := "boundTells", recurses := true, apart := false, narrowed := true }
def BoundTellsUptoSaid : Prop := boundTellsUptoRow.holds Try.pinned (OpenSpec.upto boundTellsSpec)

/-- 'horariumlaw9.BoundFrames', WHERE WHAT IT READS IS OF BULK AT MOST 1048576: true; the input reads as it did. -/
def boundFramesUptoRow : OpenClaim := { program := "ythmcocmhalhbfaa", sum := "36bc4e39539ebe3798fb86180a97083a60963c400dc274efddea2c09103fd67c", func := "horarium/horariumlaw9.BoundFrames", spec := "boundFrames", apart := false, narrowed := true }
def BoundFramesUptoSaid : Prop := boundFramesUptoRow.holds Try.pinned (OpenSpec.upto boundFramesSpec)

/-- 'horariumlaw9.BoundHolds', WHERE WHAT IT READS IS OF BULK AT MOST 1048576: true; the input reads as it did. -/
def boundHoldsUptoRow : OpenClaim := { program := "ythmcocmhalhbfaa", sum := "36bc4e39539ebe3798fb86180a97083a60963c400dc274efddea2c09103fd67c", func := "horarium/horariumlaw9.BoundHolds", spec := "boundHolds", apart := false, narrowed := true }
def BoundHoldsUptoSaid : Prop := boundHoldsUptoRow.holds Try.pinned (OpenSpec.upto boundHoldsSpec)

/-- 'horariumlaw9.BoundRound', WHERE WHAT IT READS IS OF BULK AT MOST 1048576: true; the input reads as it did. -/
def boundRoundUptoRow : OpenClaim := { program := "ythmcocmhalhbfaa", sum := "36bc4e39539ebe3798fb86180a97083a60963c400dc274efddea2c09103fd67c", func := "horarium/horariumlaw9.BoundRound", spec := "boundRound", apart := false, narrowed := true }
def BoundRoundUptoSaid : Prop := boundRoundUptoRow.holds Try.pinned (OpenSpec.upto boundRoundSpec)

end Rows
end Go.Proofs.Ythmcocmhalhbfaa
