/-
  No cell of these rows narrows 'for every input' (looked for: loops, veiled, ifaces, maps, wideKeys, modest, calm, conditions, laid).
  DERIVED. THE GIVEN ROWS OF THIS SEAT. 5 by the template 'for every input the law returns true; each argument reads behind the call as it read before'; 0 by the template 'total and deterministic' (their statements: YtabhoinefficpaaTotals.lean).
  GIVEN WITH THE SEED: the statements are not yours to turn. If you find one false, say at which input.
  Laid BY PROGRAM, IN A SANDBOX (cutbox-rows.mjs): the forced cells as the released guide's own fill.sh prints them over the translation ee9e354e445d7d3e… (all of the seat's roots in one cut). By AI agents, Wed Nov 11 2026. No macro, syntax, notation, axiom, sorry.
-/
import Derived.Test.YtabhoinefficpaaChecked
import GoSem.Claim
import GoSem.ClaimJoined
import GoSem.ClaimMapViews
import Derived.JoinedTies
import Derived.KernelRfl
namespace Go.Proofs.Ytabhoinefficpaa
/- THE CELL 'sum', in the pinned program and in every row, IS THE sha256 OF THE DUMP (.gsa) THAT YtabhoinefficpaaProg.lean LOADS. Nothing in Lean hashes anything: it is a label: what it is worth is what the hold of that sum in a sandbox is worth. -/
noncomputable def Try.pinned : Pinned := { name := "ytabhoinefficpaa", sum := "ee9e354e445d7d3e1cc0503cedb362b49146ad5744c9b37cfcfcfb4252f24357", checked := Try.checked }
namespace Rows
def none {H : Type} : Left H := { results := [], args := [] }

/-- 'horariumlaw10.MoveNumbers': WHATEVER THE INPUT: true; the input reads as it did. -/
def moveNumbersSpec : ChangeSpec := { name := "moveNumbers", fn := fun _ => fun
  | [] => { results := [.lit (.bool true)], args := [] }
  | _ => none }
def moveNumbersRow : OpenClaim := { program := "ytabhoinefficpaa", sum := "ee9e354e445d7d3e1cc0503cedb362b49146ad5744c9b37cfcfcfb4252f24357", func := "horarium/horariumlaw10.MoveNumbers", spec := "moveNumbers", unfollowed := true, recurses := true, apart := false }
def MoveNumbersSaid : Prop := moveNumbersRow.holds Try.pinned (OpenSpec.ofChange moveNumbersSpec)

/-- ITS FALSE NEIGHBOUR: 'it returns false'. Refute it at one input. -/
def moveNumbersWrong : ChangeSpec := { name := "moveNumbers", fn := fun _ => fun
  | [] => { results := [.lit (.bool false)], args := [] }
  | _ => none }
def MoveNumbersWrongFalsely : Prop := moveNumbersRow.holds Try.pinned (OpenSpec.ofChange moveNumbersWrong)

/-- 'horariumlaw10.MoveTells': WHATEVER THE INPUT: true; the input reads as it did. -/
def moveTellsSpec : ChangeSpec := { name := "moveTells", fn := fun _ => fun
  | [d1, d2, d3, d4] => { results := [.lit (.bool true)], args := [d1, d2, d3, d4] }
  | _ => none }
def moveTellsRow : OpenClaim := { program := "ytabhoinefficpaa", sum := "ee9e354e445d7d3e1cc0503cedb362b49146ad5744c9b37cfcfcfb4252f24357", func := "horarium/horariumlaw10.MoveTells", spec := "moveTells", unfollowed := true, recurses := true, apart := false }
def MoveTellsSaid : Prop := moveTellsRow.holds Try.pinned (OpenSpec.ofChange moveTellsSpec)

/-- ITS FALSE NEIGHBOUR: 'it returns false'. Refute it at one input. -/
def moveTellsWrong : ChangeSpec := { name := "moveTells", fn := fun _ => fun
  | [d1, d2, d3, d4] => { results := [.lit (.bool false)], args := [d1, d2, d3, d4] }
  | _ => none }
def MoveTellsWrongFalsely : Prop := moveTellsRow.holds Try.pinned (OpenSpec.ofChange moveTellsWrong)

/-- 'horariumlaw10.MoveSame': WHATEVER THE INPUT: true; the input reads as it did. -/
def moveSameSpec : ChangeSpec := { name := "moveSame", fn := fun _ => fun
  | [d1, d2, d3] => { results := [.lit (.bool true)], args := [d1, d2, d3] }
  | _ => none }
def moveSameRow : OpenClaim := { program := "ytabhoinefficpaa", sum := "ee9e354e445d7d3e1cc0503cedb362b49146ad5744c9b37cfcfcfb4252f24357", func := "horarium/horariumlaw10.MoveSame", spec := "moveSame", unfollowed := true, recurses := true, apart := false }
def MoveSameSaid : Prop := moveSameRow.holds Try.pinned (OpenSpec.ofChange moveSameSpec)

/-- ITS FALSE NEIGHBOUR: 'it returns false'. Refute it at one input. -/
def moveSameWrong : ChangeSpec := { name := "moveSame", fn := fun _ => fun
  | [d1, d2, d3] => { results := [.lit (.bool false)], args := [d1, d2, d3] }
  | _ => none }
def MoveSameWrongFalsely : Prop := moveSameRow.holds Try.pinned (OpenSpec.ofChange moveSameWrong)

/-- 'horariumlaw10.MoveAll': WHATEVER THE INPUT: true; the input reads as it did. -/
def moveAllSpec : ChangeSpec := { name := "moveAll", fn := fun _ => fun
  | [d] => { results := [.lit (.bool true)], args := [d] }
  | _ => none }
def moveAllRow : OpenClaim := { program := "ytabhoinefficpaa", sum := "ee9e354e445d7d3e1cc0503cedb362b49146ad5744c9b37cfcfcfb4252f24357", func := "horarium/horariumlaw10.MoveAll", spec := "moveAll", unfollowed := true, recurses := true, apart := false }
def MoveAllSaid : Prop := moveAllRow.holds Try.pinned (OpenSpec.ofChange moveAllSpec)

/-- ITS FALSE NEIGHBOUR: 'it returns false'. Refute it at one input. -/
def moveAllWrong : ChangeSpec := { name := "moveAll", fn := fun _ => fun
  | [d] => { results := [.lit (.bool false)], args := [d] }
  | _ => none }
def MoveAllWrongFalsely : Prop := moveAllRow.holds Try.pinned (OpenSpec.ofChange moveAllWrong)

/-- 'horariumlaw10.MoveApart': WHATEVER THE INPUT: true; the input reads as it did. -/
def moveApartSpec : ChangeSpec := { name := "moveApart", fn := fun _ => fun
  | [d] => { results := [.lit (.bool true)], args := [d] }
  | _ => none }
def moveApartRow : OpenClaim := { program := "ytabhoinefficpaa", sum := "ee9e354e445d7d3e1cc0503cedb362b49146ad5744c9b37cfcfcfb4252f24357", func := "horarium/horariumlaw10.MoveApart", spec := "moveApart", unfollowed := true, recurses := true, apart := false }
def MoveApartSaid : Prop := moveApartRow.holds Try.pinned (OpenSpec.ofChange moveApartSpec)

/-- ITS FALSE NEIGHBOUR: 'it returns false'. Refute it at one input. -/
def moveApartWrong : ChangeSpec := { name := "moveApart", fn := fun _ => fun
  | [d] => { results := [.lit (.bool false)], args := [d] }
  | _ => none }
def MoveApartWrongFalsely : Prop := moveApartRow.holds Try.pinned (OpenSpec.ofChange moveApartWrong)

/- THE SECOND FORM. 'bulk': how many values and letters a reading holds, each counted each time it is reached (what is shared counts as often as it is met; a slice's spare places count too). A statement '..UptoSaid' is the law's where the arguments, and the package variables that the reading takes, are together of bulk at most 1048576: NARROWER than '..Said'. Prove '..Said' where nothing that the law and all that it calls make is longer than what came in: it says more and counts as full. Else prove '..UptoSaid'. A law counts once. -/
mutual
def uptoBulk {H : Type} : DataW H → Nat
  | .lit (.string bytes) => bytes.length + 1
  | .lit _ => 1
  | .nil => 1
  | .ptr d => uptoBulk d + 1
  | .slice elems spare => uptoBulkAll elems + uptoBulkAll spare + 1
  | .agg parts => uptoBulkAll parts + 1
  | .iface _ d => uptoBulk d + 1
  | .map entries => uptoBulkEntries entries + 1
  | .held _ => 1
def uptoBulkAll {H : Type} : List (DataW H) → Nat
  | [] => 0
  | d :: r => uptoBulk d + uptoBulkAll r
def uptoBulkEntries {H : Type} : List (Lit × DataW H) → Nat
  | [] => 0
  | x :: r => uptoBulkEntry x + uptoBulkEntries r
def uptoBulkEntry {H : Type} : Lit × DataW H → Nat
  | (.string bytes, d) => bytes.length + uptoBulk d + 1
  | (_, d) => uptoBulk d + 1
 end
def uptoSmall : (H : Type) → List (DataW H) → Bool := fun _ ds => decide (uptoBulkAll ds ≤ 1048576)
def OpenSpec.upto (s : _root_.Go.ChangeSpec) : _root_.Go.OpenSpec := { _root_.Go.OpenSpec.ofChange s with cond := some uptoSmall }

/-- 'horariumlaw10.MoveNumbers', WHERE WHAT IT READS IS OF BULK AT MOST 1048576: true; the input reads as it did. -/
def moveNumbersUptoRow : OpenClaim := { program := "ytabhoinefficpaa", sum := "ee9e354e445d7d3e1cc0503cedb362b49146ad5744c9b37cfcfcfb4252f24357", func := "horarium/horariumlaw10.MoveNumbers", spec := "moveNumbers", unfollowed := true, recurses := true, apart := false, narrowed := true }
def MoveNumbersUptoSaid : Prop := moveNumbersUptoRow.holds Try.pinned (OpenSpec.upto moveNumbersSpec)

/-- 'horariumlaw10.MoveTells', WHERE WHAT IT READS IS OF BULK AT MOST 1048576: true; the input reads as it did. -/
def moveTellsUptoRow : OpenClaim := { program := "ytabhoinefficpaa", sum := "ee9e354e445d7d3e1cc0503cedb362b49146ad5744c9b37cfcfcfb4252f24357", func := "horarium/horariumlaw10.MoveTells", spec := "moveTells", unfollowed := true, recurses := true, apart := false, narrowed := true }
def MoveTellsUptoSaid : Prop := moveTellsUptoRow.holds Try.pinned (OpenSpec.upto moveTellsSpec)

/-- 'horariumlaw10.MoveSame', WHERE WHAT IT READS IS OF BULK AT MOST 1048576: true; the input reads as it did. -/
def moveSameUptoRow : OpenClaim := { program := "ytabhoinefficpaa", sum := "ee9e354e445d7d3e1cc0503cedb362b49146ad5744c9b37cfcfcfb4252f24357", func := "horarium/horariumlaw10.MoveSame", spec := "moveSame", unfollowed := true, recurses := true, apart := false, narrowed := true }
def MoveSameUptoSaid : Prop := moveSameUptoRow.holds Try.pinned (OpenSpec.upto moveSameSpec)

/-- 'horariumlaw10.MoveAll', WHERE WHAT IT READS IS OF BULK AT MOST 1048576: true; the input reads as it did. -/
def moveAllUptoRow : OpenClaim := { program := "ytabhoinefficpaa", sum := "ee9e354e445d7d3e1cc0503cedb362b49146ad5744c9b37cfcfcfb4252f24357", func := "horarium/horariumlaw10.MoveAll", spec := "moveAll", unfollowed := true, recurses := true, apart := false, narrowed := true }
def MoveAllUptoSaid : Prop := moveAllUptoRow.holds Try.pinned (OpenSpec.upto moveAllSpec)

/-- 'horariumlaw10.MoveApart', WHERE WHAT IT READS IS OF BULK AT MOST 1048576: true; the input reads as it did. -/
def moveApartUptoRow : OpenClaim := { program := "ytabhoinefficpaa", sum := "ee9e354e445d7d3e1cc0503cedb362b49146ad5744c9b37cfcfcfb4252f24357", func := "horarium/horariumlaw10.MoveApart", spec := "moveApart", unfollowed := true, recurses := true, apart := false, narrowed := true }
def MoveApartUptoSaid : Prop := moveApartUptoRow.holds Try.pinned (OpenSpec.upto moveApartSpec)

end Rows
end Go.Proofs.Ytabhoinefficpaa
