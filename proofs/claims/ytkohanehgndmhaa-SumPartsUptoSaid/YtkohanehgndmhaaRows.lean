/-
  No cell of these rows narrows 'for every input' (looked for: loops, veiled, ifaces, maps, wideKeys, modest, calm, conditions, laid).
  DERIVED. THE GIVEN ROWS OF THIS SEAT. 5 by the template 'for every input the law returns true; each argument reads behind the call as it read before'; 0 by the template 'total and deterministic' (their statements: YtkohanehgndmhaaTotals.lean).
  GIVEN WITH THE SEED: the statements are not yours to turn. If you find one false, say at which input.
  Laid BY PROGRAM, IN A SANDBOX (cutbox-rows.mjs): the forced cells as the released guide's own fill.sh prints them over the translation a5eb122f8e5ff9b7… (all of the seat's roots in one cut). By AI agents, Wed Nov 11 2026. No macro, syntax, notation, axiom, sorry.
-/
import Derived.Test.YtkohanehgndmhaaChecked
import GoSem.Claim
import GoSem.ClaimJoined
import GoSem.ClaimMapViews
import Derived.JoinedTies
import Derived.KernelRfl
namespace Go.Proofs.Ytkohanehgndmhaa
/- THE CELL 'sum', in the pinned program and in every row, IS THE sha256 OF THE DUMP (.gsa) THAT YtkohanehgndmhaaProg.lean LOADS. Nothing in Lean hashes anything: it is a label: what it is worth is what the hold of that sum in a sandbox is worth. -/
noncomputable def Try.pinned : Pinned := { name := "ytkohanehgndmhaa", sum := "a5eb122f8e5ff9b71f9605cd828f7e4d82432495095adabc9a6c4e2a81034840", checked := Try.checked }
namespace Rows
def none {H : Type} : Left H := { results := [], args := [] }

/-- 'horariumlaw1.SumNumbers': WHATEVER THE INPUT: true; the input reads as it did. -/
def sumNumbersSpec : ChangeSpec := { name := "sumNumbers", fn := fun _ => fun
  | [] => { results := [.lit (.bool true)], args := [] }
  | _ => none }
def sumNumbersRow : OpenClaim := { program := "ytkohanehgndmhaa", sum := "a5eb122f8e5ff9b71f9605cd828f7e4d82432495095adabc9a6c4e2a81034840", func := "horarium/horariumlaw1.SumNumbers", spec := "sumNumbers", apart := false }
def SumNumbersSaid : Prop := sumNumbersRow.holds Try.pinned (OpenSpec.ofChange sumNumbersSpec)

/-- ITS FALSE NEIGHBOUR: 'it returns false'. Refute it at one input. -/
def sumNumbersWrong : ChangeSpec := { name := "sumNumbers", fn := fun _ => fun
  | [] => { results := [.lit (.bool false)], args := [] }
  | _ => none }
def SumNumbersWrongFalsely : Prop := sumNumbersRow.holds Try.pinned (OpenSpec.ofChange sumNumbersWrong)

/-- 'horariumlaw1.SumTells': WHATEVER THE INPUT: true; the input reads as it did. -/
def sumTellsSpec : ChangeSpec := { name := "sumTells", fn := fun _ => fun
  | [d1, d2, d3, d4, d5] => { results := [.lit (.bool true)], args := [d1, d2, d3, d4, d5] }
  | _ => none }
def sumTellsRow : OpenClaim := { program := "ytkohanehgndmhaa", sum := "a5eb122f8e5ff9b71f9605cd828f7e4d82432495095adabc9a6c4e2a81034840", func := "horarium/horariumlaw1.SumTells", spec := "sumTells", apart := false }
def SumTellsSaid : Prop := sumTellsRow.holds Try.pinned (OpenSpec.ofChange sumTellsSpec)

/-- ITS FALSE NEIGHBOUR: 'it returns false'. Refute it at one input. -/
def sumTellsWrong : ChangeSpec := { name := "sumTells", fn := fun _ => fun
  | [d1, d2, d3, d4, d5] => { results := [.lit (.bool false)], args := [d1, d2, d3, d4, d5] }
  | _ => none }
def SumTellsWrongFalsely : Prop := sumTellsRow.holds Try.pinned (OpenSpec.ofChange sumTellsWrong)

/-- 'horariumlaw1.SumTurns': WHATEVER THE INPUT: true; the input reads as it did. -/
def sumTurnsSpec : ChangeSpec := { name := "sumTurns", fn := fun _ => fun
  | [d1, d2, d3] => { results := [.lit (.bool true)], args := [d1, d2, d3] }
  | _ => none }
def sumTurnsRow : OpenClaim := { program := "ytkohanehgndmhaa", sum := "a5eb122f8e5ff9b71f9605cd828f7e4d82432495095adabc9a6c4e2a81034840", func := "horarium/horariumlaw1.SumTurns", spec := "sumTurns", apart := false }
def SumTurnsSaid : Prop := sumTurnsRow.holds Try.pinned (OpenSpec.ofChange sumTurnsSpec)

/-- ITS FALSE NEIGHBOUR: 'it returns false'. Refute it at one input. -/
def sumTurnsWrong : ChangeSpec := { name := "sumTurns", fn := fun _ => fun
  | [d1, d2, d3] => { results := [.lit (.bool false)], args := [d1, d2, d3] }
  | _ => none }
def SumTurnsWrongFalsely : Prop := sumTurnsRow.holds Try.pinned (OpenSpec.ofChange sumTurnsWrong)

/-- 'horariumlaw1.SumParts': WHATEVER THE INPUT: true; the input reads as it did. -/
def sumPartsSpec : ChangeSpec := { name := "sumParts", fn := fun _ => fun
  | [d1, d2] => { results := [.lit (.bool true)], args := [d1, d2] }
  | _ => none }
def sumPartsRow : OpenClaim := { program := "ytkohanehgndmhaa", sum := "a5eb122f8e5ff9b71f9605cd828f7e4d82432495095adabc9a6c4e2a81034840", func := "horarium/horariumlaw1.SumParts", spec := "sumParts", apart := false }
def SumPartsSaid : Prop := sumPartsRow.holds Try.pinned (OpenSpec.ofChange sumPartsSpec)

/-- ITS FALSE NEIGHBOUR: 'it returns false'. Refute it at one input. -/
def sumPartsWrong : ChangeSpec := { name := "sumParts", fn := fun _ => fun
  | [d1, d2] => { results := [.lit (.bool false)], args := [d1, d2] }
  | _ => none }
def SumPartsWrongFalsely : Prop := sumPartsRow.holds Try.pinned (OpenSpec.ofChange sumPartsWrong)

/-- 'horariumlaw1.SumApart': WHATEVER THE INPUT: true; the input reads as it did. -/
def sumApartSpec : ChangeSpec := { name := "sumApart", fn := fun _ => fun
  | [d1, d2, d3] => { results := [.lit (.bool true)], args := [d1, d2, d3] }
  | _ => none }
def sumApartRow : OpenClaim := { program := "ytkohanehgndmhaa", sum := "a5eb122f8e5ff9b71f9605cd828f7e4d82432495095adabc9a6c4e2a81034840", func := "horarium/horariumlaw1.SumApart", spec := "sumApart", apart := false }
def SumApartSaid : Prop := sumApartRow.holds Try.pinned (OpenSpec.ofChange sumApartSpec)

/-- ITS FALSE NEIGHBOUR: 'it returns false'. Refute it at one input. -/
def sumApartWrong : ChangeSpec := { name := "sumApart", fn := fun _ => fun
  | [d1, d2, d3] => { results := [.lit (.bool false)], args := [d1, d2, d3] }
  | _ => none }
def SumApartWrongFalsely : Prop := sumApartRow.holds Try.pinned (OpenSpec.ofChange sumApartWrong)

/- THE SECOND FORM. 'bulk': how many values and letters a reading holds, each counted each time it is reached (what is shared counts as often as it is met; a slice's spare places count too). A statement '..UptoSaid' is the law's where the arguments, and the package variables that the reading takes, are together of bulk at most 1048576: NARROWER than '..Said'. Prove '..Said' where nothing that the law and all that it calls make is longer than what came in: it says more and counts as full. Else prove '..UptoSaid'. A law counts once. -/
mutual
def uptoBulk {H : Type} : DataW H → Nat
  | .lit (.string bytes) => bytes.length + 1
  | .lit _ => 1
  | .nil => 1
  | .ptr d => uptoBulk d + 1
  | .slice elems spare => uptoBulkAll elems + uptoBulkAll spare + 1
  | .agg parts => uptoBulkAll parts + 1
  | .iface _ d => uptoBulk d + 1
  | .map entries => uptoBulkEntries entries + 1
  | .held _ => 1
def uptoBulkAll {H : Type} : List (DataW H) → Nat
  | [] => 0
  | d :: r => uptoBulk d + uptoBulkAll r
def uptoBulkEntries {H : Type} : List (Lit × DataW H) → Nat
  | [] => 0
  | x :: r => uptoBulkEntry x + uptoBulkEntries r
def uptoBulkEntry {H : Type} : Lit × DataW H → Nat
  | (.string bytes, d) => bytes.length + uptoBulk d + 1
  | (_, d) => uptoBulk d + 1
 end
def uptoSmall : (H : Type) → List (DataW H) → Bool := fun _ ds => decide (uptoBulkAll ds ≤ 1048576)
def OpenSpec.upto (s : _root_.Go.ChangeSpec) : _root_.Go.OpenSpec := { _root_.Go.OpenSpec.ofChange s with cond := some uptoSmall }

/-- 'horariumlaw1.SumNumbers', WHERE WHAT IT READS IS OF BULK AT MOST 1048576: true; the input reads as it did. -/
def sumNumbersUptoRow : OpenClaim := { program := "ytkohanehgndmhaa", sum := "a5eb122f8e5ff9b71f9605cd828f7e4d82432495095adabc9a6c4e2a81034840", func := "horarium/horariumlaw1.SumNumbers", spec := "sumNumbers", apart := false, narrowed := true }
def SumNumbersUptoSaid : Prop := sumNumbersUptoRow.holds Try.pinned (OpenSpec.upto sumNumbersSpec)

/-- 'horariumlaw1.SumTells', WHERE WHAT IT READS IS OF BULK AT MOST 1048576: true; the input reads as it did. -/
def sumTellsUptoRow : OpenClaim := { program := "ytkohanehgndmhaa", sum := "a5eb122f8e5ff9b71f9605cd828f7e4d82432495095adabc9a6c4e2a81034840", func := "horarium/horariumlaw1.SumTells", spec := "sumTells", apart := false, narrowed := true }
def SumTellsUptoSaid : Prop := sumTellsUptoRow.holds Try.pinned (OpenSpec.upto sumTellsSpec)

/-- 'horariumlaw1.SumTurns', WHERE WHAT IT READS IS OF BULK AT MOST 1048576: true; the input reads as it did. -/
def sumTurnsUptoRow : OpenClaim := { program := "ytkohanehgndmhaa", sum := "a5eb122f8e5ff9b71f9605cd828f7e4d82432495095adabc9a6c4e2a81034840", func := "horarium/horariumlaw1.SumTurns", spec := "sumTurns", apart := false, narrowed := true }
def SumTurnsUptoSaid : Prop := sumTurnsUptoRow.holds Try.pinned (OpenSpec.upto sumTurnsSpec)

/-- 'horariumlaw1.SumParts', WHERE WHAT IT READS IS OF BULK AT MOST 1048576: true; the input reads as it did. -/
def sumPartsUptoRow : OpenClaim := { program := "ytkohanehgndmhaa", sum := "a5eb122f8e5ff9b71f9605cd828f7e4d82432495095adabc9a6c4e2a81034840", func := "horarium/horariumlaw1.SumParts", spec := "sumParts", apart := false, narrowed := true }
def SumPartsUptoSaid : Prop := sumPartsUptoRow.holds Try.pinned (OpenSpec.upto sumPartsSpec)

/-- 'horariumlaw1.SumApart', WHERE WHAT IT READS IS OF BULK AT MOST 1048576: true; the input reads as it did. -/
def sumApartUptoRow : OpenClaim := { program := "ytkohanehgndmhaa", sum := "a5eb122f8e5ff9b71f9605cd828f7e4d82432495095adabc9a6c4e2a81034840", func := "horarium/horariumlaw1.SumApart", spec := "sumApart", apart := false, narrowed := true }
def SumApartUptoSaid : Prop := sumApartUptoRow.holds Try.pinned (OpenSpec.upto sumApartSpec)

end Rows
end Go.Proofs.Ytkohanehgndmhaa
