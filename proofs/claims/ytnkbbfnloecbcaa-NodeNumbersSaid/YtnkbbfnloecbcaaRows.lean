/-
  No cell of these rows narrows 'for every input' (looked for: loops, veiled, ifaces, maps, wideKeys, modest, calm, conditions, laid).
  DERIVED. THE GIVEN ROWS OF THIS SEAT. 4 by the template 'for every input the law returns true; each argument reads behind the call as it read before'; 0 by the template 'total and deterministic' (their statements: YtnkbbfnloecbcaaTotals.lean).
  GIVEN WITH THE SEED: the statements are not yours to turn. If you find one false, say at which input.
  Laid BY PROGRAM, IN A SANDBOX (cutbox-rows.mjs): the forced cells as the released guide's own fill.sh prints them over the translation 79aa1905b36996e9… (all of the seat's roots in one cut). By AI agents, Wed Nov 11 2026. No macro, syntax, notation, axiom, sorry.
-/
import Derived.Test.YtnkbbfnloecbcaaChecked
import GoSem.Claim
import GoSem.ClaimJoined
import GoSem.ClaimMapViews
import Derived.JoinedTies
import Derived.KernelRfl
namespace Go.Proofs.Ytnkbbfnloecbcaa
/- THE CELL 'sum', in the pinned program and in every row, IS THE sha256 OF THE DUMP (.gsa) THAT YtnkbbfnloecbcaaProg.lean LOADS. Nothing in Lean hashes anything: it is a label: what it is worth is what the hold of that sum in a sandbox is worth. -/
noncomputable def Try.pinned : Pinned := { name := "ytnkbbfnloecbcaa", sum := "79aa1905b36996e931145d20de1b069c8c6a29f93e2151510d8fc32a0702a518", checked := Try.checked }
namespace Rows
def none {H : Type} : Left H := { results := [], args := [] }

/-- 'horariumlaw3.NodeNumbers': WHATEVER THE INPUT: true; the input reads as it did. -/
def nodeNumbersSpec : ChangeSpec := { name := "nodeNumbers", fn := fun _ => fun
  | [] => { results := [.lit (.bool true)], args := [] }
  | _ => none }
def nodeNumbersRow : OpenClaim := { program := "ytnkbbfnloecbcaa", sum := "79aa1905b36996e931145d20de1b069c8c6a29f93e2151510d8fc32a0702a518", func := "horarium/horariumlaw3.NodeNumbers", spec := "nodeNumbers", recurses := true, apart := false }
def NodeNumbersSaid : Prop := nodeNumbersRow.holds Try.pinned (OpenSpec.ofChange nodeNumbersSpec)

/-- ITS FALSE NEIGHBOUR: 'it returns false'. Refute it at one input. -/
def nodeNumbersWrong : ChangeSpec := { name := "nodeNumbers", fn := fun _ => fun
  | [] => { results := [.lit (.bool false)], args := [] }
  | _ => none }
def NodeNumbersWrongFalsely : Prop := nodeNumbersRow.holds Try.pinned (OpenSpec.ofChange nodeNumbersWrong)

/-- 'horariumlaw3.NodeParts': WHATEVER THE INPUT: true; the input reads as it did. -/
def nodePartsSpec : ChangeSpec := { name := "nodeParts", fn := fun _ => fun
  | [d1, d2] => { results := [.lit (.bool true)], args := [d1, d2] }
  | _ => none }
def nodePartsRow : OpenClaim := { program := "ytnkbbfnloecbcaa", sum := "79aa1905b36996e931145d20de1b069c8c6a29f93e2151510d8fc32a0702a518", func := "horarium/horariumlaw3.NodeParts", spec := "nodeParts", recurses := true, apart := false }
def NodePartsSaid : Prop := nodePartsRow.holds Try.pinned (OpenSpec.ofChange nodePartsSpec)

/-- ITS FALSE NEIGHBOUR: 'it returns false'. Refute it at one input. -/
def nodePartsWrong : ChangeSpec := { name := "nodeParts", fn := fun _ => fun
  | [d1, d2] => { results := [.lit (.bool false)], args := [d1, d2] }
  | _ => none }
def NodePartsWrongFalsely : Prop := nodePartsRow.holds Try.pinned (OpenSpec.ofChange nodePartsWrong)

/-- 'horariumlaw3.NodeKids': WHATEVER THE INPUT: true; the input reads as it did. -/
def nodeKidsSpec : ChangeSpec := { name := "nodeKids", fn := fun _ => fun
  | [d1, d2] => { results := [.lit (.bool true)], args := [d1, d2] }
  | _ => none }
def nodeKidsRow : OpenClaim := { program := "ytnkbbfnloecbcaa", sum := "79aa1905b36996e931145d20de1b069c8c6a29f93e2151510d8fc32a0702a518", func := "horarium/horariumlaw3.NodeKids", spec := "nodeKids", recurses := true, apart := false }
def NodeKidsSaid : Prop := nodeKidsRow.holds Try.pinned (OpenSpec.ofChange nodeKidsSpec)

/-- ITS FALSE NEIGHBOUR: 'it returns false'. Refute it at one input. -/
def nodeKidsWrong : ChangeSpec := { name := "nodeKids", fn := fun _ => fun
  | [d1, d2] => { results := [.lit (.bool false)], args := [d1, d2] }
  | _ => none }
def NodeKidsWrongFalsely : Prop := nodeKidsRow.holds Try.pinned (OpenSpec.ofChange nodeKidsWrong)

/-- 'horariumlaw3.NodeRepeats': WHATEVER THE INPUT: true; the input reads as it did. -/
def nodeRepeatsSpec : ChangeSpec := { name := "nodeRepeats", fn := fun _ => fun
  | [d1, d2] => { results := [.lit (.bool true)], args := [d1, d2] }
  | _ => none }
def nodeRepeatsRow : OpenClaim := { program := "ytnkbbfnloecbcaa", sum := "79aa1905b36996e931145d20de1b069c8c6a29f93e2151510d8fc32a0702a518", func := "horarium/horariumlaw3.NodeRepeats", spec := "nodeRepeats", recurses := true, apart := false }
def NodeRepeatsSaid : Prop := nodeRepeatsRow.holds Try.pinned (OpenSpec.ofChange nodeRepeatsSpec)

/-- ITS FALSE NEIGHBOUR: 'it returns false'. Refute it at one input. -/
def nodeRepeatsWrong : ChangeSpec := { name := "nodeRepeats", fn := fun _ => fun
  | [d1, d2] => { results := [.lit (.bool false)], args := [d1, d2] }
  | _ => none }
def NodeRepeatsWrongFalsely : Prop := nodeRepeatsRow.holds Try.pinned (OpenSpec.ofChange nodeRepeatsWrong)

/- THE SECOND FORM. 'bulk': how many values and letters a reading holds, each counted each time it is reached (what is shared counts as often as it is met; a slice's spare places count too). A statement '..UptoSaid' is the law's where the arguments, and the package variables that the reading takes, are together of bulk at most 1048576: NARROWER than '..Said'. Prove '..Said' where nothing that the law and all that it calls make is longer than what came in: it says more and counts as full. Else prove '..UptoSaid'. A law counts once. -/
mutual
def uptoBulk {H : Type} : DataW H → Nat
  | .lit (.string bytes) => bytes.length + 1
  | .lit _ => 1
  | .nil => 1
  | .ptr d => uptoBulk d + 1
  | .slice elems spare => uptoBulkAll elems + uptoBulkAll spare + 1
  | .agg parts => uptoBulkAll parts + 1
  | .iface _ d => uptoBulk d + 1
  | .map entries => uptoBulkEntries entries + 1
  | .held _ => 1
def uptoBulkAll {H : Type} : List (DataW H) → Nat
  | [] => 0
  | d :: r => uptoBulk d + uptoBulkAll r
def uptoBulkEntries {H : Type} : List (Lit × DataW H) → Nat
  | [] => 0
  | x :: r => uptoBulkEntry x + uptoBulkEntries r
def uptoBulkEntry {H : Type} : Lit × DataW H → Nat
  | (.string bytes, d) => bytes.length + uptoBulk d + 1
  | (_, d) => uptoBulk d + 1
 end
def uptoSmall : (H : Type) → List (DataW H) → Bool := fun _ ds => decide (uptoBulkAll ds ≤ 1048576)
def OpenSpec.upto (s : _root_.Go.ChangeSpec) : _root_.Go.OpenSpec := { _root_.Go.OpenSpec.ofChange s with cond := some uptoSmall }

/-- 'horariumlaw3.NodeNumbers', WHERE WHAT IT READS IS OF BULK AT MOST 1048576: true; the input reads as it did. -/
def nodeNumbersUptoRow : OpenClaim := { program := "ytnkbbfnloecbcaa", sum := "79aa1905b36996e931145d20de1b069c8c6a29f93e2151510d8fc32a0702a518", func := "horarium/horariumlaw3.NodeNumbers", spec := "nodeNumbers", recurses := true, apart := false, narrowed := true }
def NodeNumbersUptoSaid : Prop := nodeNumbersUptoRow.holds Try.pinned (OpenSpec.upto nodeNumbersSpec)

/-- 'horariumlaw3.NodeParts', WHERE WHAT IT READS IS OF BULK AT MOST 1048576: true; the input reads as it did. -/
def nodePartsUptoRow : OpenClaim := { program := "ytnkbbfnloecbcaa", sum := "79aa1905b36996e931145d20de1b069c8c6a29f93e2151510d8fc32a0702a518", func := "horarium/horariumlaw3.NodeParts", spec := "nodeParts", recurses := true, apart := false, narrowed := true }
def NodePartsUptoSaid : Prop := nodePartsUptoRow.holds Try.pinned (OpenSpec.upto nodePartsSpec)

/-- 'horariumlaw3.NodeKids', WHERE WHAT IT READS IS OF BULK AT MOST 1048576: true; the input reads as it did. -/
def nodeKidsUptoRow : OpenClaim := { program := "ytnkbbfnloecbcaa", sum := "79aa1905b36996e931145d20de1b069c8c6a29f93e2151510d8fc32a0702a518", func := "horarium/horariumlaw3.NodeKids", spec := "nodeKids", recurses := true, apart := false, narrowed := true }
def NodeKidsUptoSaid : Prop := nodeKidsUptoRow.holds Try.pinned (OpenSpec.upto nodeKidsSpec)

/-- 'horariumlaw3.NodeRepeats', WHERE WHAT IT READS IS OF BULK AT MOST 1048576: true; the input reads as it did. -/
def nodeRepeatsUptoRow : OpenClaim := { program := "ytnkbbfnloecbcaa", sum := "79aa1905b36996e931145d20de1b069c8c6a29f93e2151510d8fc32a0702a518", func := "horarium/horariumlaw3.NodeRepeats", spec := "nodeRepeats", recurses := true, apart := false, narrowed := true }
def NodeRepeatsUptoSaid : Prop := nodeRepeatsUptoRow.holds Try.pinned (OpenSpec.upto nodeRepeatsSpec)

end Rows
end Go.Proofs.Ytnkbbfnloecbcaa
