/-
  No cell of these rows narrows 'for every input' (looked for: loops, veiled, ifaces, maps, wideKeys, modest, calm, conditions, laid).
  DERIVED. THE GIVEN ROWS OF THIS SEAT. 5 by the template 'for every input the law returns true; each argument reads behind the call as it read before'; 0 by the template 'total and deterministic' (their statements: YtbnhmpjcmgbabaaTotals.lean).
  GIVEN WITH THE SEED: the statements are not yours to turn. If you find one false, say at which input.
  Laid BY PROGRAM, IN A SANDBOX (cutbox-rows.mjs): the forced cells as the released guide's own fill.sh prints them over the translation 1f408df8a235d910… (all of the seat's roots in one cut). By AI agents, Wed Nov 11 2026. No macro, syntax, notation, axiom, sorry.
-/
import Derived.Test.YtbnhmpjcmgbabaaChecked
import GoSem.Claim
import GoSem.ClaimJoined
import GoSem.ClaimMapViews
import Derived.JoinedTies
import Derived.KernelRfl
namespace Go.Proofs.Ytbnhmpjcmgbabaa
/- THE CELL 'sum', in the pinned program and in every row, IS THE sha256 OF THE DUMP (.gsa) THAT YtbnhmpjcmgbabaaProg.lean LOADS. Nothing in Lean hashes anything: it is a label: what it is worth is what the hold of that sum in a sandbox is worth. -/
noncomputable def Try.pinned : Pinned := { name := "ytbnhmpjcmgbabaa", sum := "1f408df8a235d9106000d9952fa78aadb0f86cb495e7adb3deb06dd8ade03230", checked := Try.checked }
namespace Rows
def none {H : Type} : Left H := { results := [], args := [] }

/-- 'horariumlaw17.PortNumbers': WHATEVER THE INPUT: true; the input reads as it did. -/
def portNumbersSpec : ChangeSpec := { name := "portNumbers", fn := fun _ => fun
  | [] => { results := [.lit (.bool true)], args := [] }
  | _ => none }
def portNumbersRow : OpenClaim := { program := "ytbnhmpjcmgbabaa", sum := "1f408df8a235d9106000d9952fa78aadb0f86cb495e7adb3deb06dd8ade03230", func := "horarium/horariumlaw17.PortNumbers", spec := "portNumbers", unfollowed := true, recurses := true, apart := false }
def PortNumbersSaid : Prop := portNumbersRow.holds Try.pinned (OpenSpec.ofChange portNumbersSpec)

/-- ITS FALSE NEIGHBOUR: 'it returns false'. Refute it at one input. -/
def portNumbersWrong : ChangeSpec := { name := "portNumbers", fn := fun _ => fun
  | [] => { results := [.lit (.bool false)], args := [] }
  | _ => none }
def PortNumbersWrongFalsely : Prop := portNumbersRow.holds Try.pinned (OpenSpec.ofChange portNumbersWrong)

/-- 'horariumlaw17.PortPlays': WHATEVER THE INPUT: true; the input reads as it did. -/
def portPlaysSpec : ChangeSpec := { name := "portPlays", fn := fun _ => fun
  | [d1, d2] => { results := [.lit (.bool true)], args := [d1, d2] }
  | _ => none }
def portPlaysRow : OpenClaim := { program := "ytbnhmpjcmgbabaa", sum := "1f408df8a235d9106000d9952fa78aadb0f86cb495e7adb3deb06dd8ade03230", func := "horarium/horariumlaw17.PortPlays", spec := "portPlays", unfollowed := true, recurses := true, apart := false }
def PortPlaysSaid : Prop := portPlaysRow.holds Try.pinned (OpenSpec.ofChange portPlaysSpec)

/-- ITS FALSE NEIGHBOUR: 'it returns false'. Refute it at one input. -/
def portPlaysWrong : ChangeSpec := { name := "portPlays", fn := fun _ => fun
  | [d1, d2] => { results := [.lit (.bool false)], args := [d1, d2] }
  | _ => none }
def PortPlaysWrongFalsely : Prop := portPlaysRow.holds Try.pinned (OpenSpec.ofChange portPlaysWrong)

/-- 'horariumlaw17.PortOrder': WHATEVER THE INPUT: true; the input reads as it did. -/
def portOrderSpec : ChangeSpec := { name := "portOrder", fn := fun _ => fun
  | [d1, d2, d3] => { results := [.lit (.bool true)], args := [d1, d2, d3] }
  | _ => none }
def portOrderRow : OpenClaim := { program := "ytbnhmpjcmgbabaa", sum := "1f408df8a235d9106000d9952fa78aadb0f86cb495e7adb3deb06dd8ade03230", func := "horarium/horariumlaw17.PortOrder", spec := "portOrder", unfollowed := true, recurses := true, apart := false }
def PortOrderSaid : Prop := portOrderRow.holds Try.pinned (OpenSpec.ofChange portOrderSpec)

/-- ITS FALSE NEIGHBOUR: 'it returns false'. Refute it at one input. -/
def portOrderWrong : ChangeSpec := { name := "portOrder", fn := fun _ => fun
  | [d1, d2, d3] => { results := [.lit (.bool false)], args := [d1, d2, d3] }
  | _ => none }
def PortOrderWrongFalsely : Prop := portOrderRow.holds Try.pinned (OpenSpec.ofChange portOrderWrong)

/-- 'horariumlaw17.PortApart': WHATEVER THE INPUT: true; the input reads as it did. -/
def portApartSpec : ChangeSpec := { name := "portApart", fn := fun _ => fun
  | [d1, d2, d3] => { results := [.lit (.bool true)], args := [d1, d2, d3] }
  | _ => none }
def portApartRow : OpenClaim := { program := "ytbnhmpjcmgbabaa", sum := "1f408df8a235d9106000d9952fa78aadb0f86cb495e7adb3deb06dd8ade03230", func := "horarium/horariumlaw17.PortApart", spec := "portApart", unfollowed := true, recurses := true, apart := false }
def PortApartSaid : Prop := portApartRow.holds Try.pinned (OpenSpec.ofChange portApartSpec)

/-- ITS FALSE NEIGHBOUR: 'it returns false'. Refute it at one input. -/
def portApartWrong : ChangeSpec := { name := "portApart", fn := fun _ => fun
  | [d1, d2, d3] => { results := [.lit (.bool false)], args := [d1, d2, d3] }
  | _ => none }
def PortApartWrongFalsely : Prop := portApartRow.holds Try.pinned (OpenSpec.ofChange portApartWrong)

/-- 'horariumlaw17.PortCopies': WHATEVER THE INPUT: true; the input reads as it did. -/
def portCopiesSpec : ChangeSpec := { name := "portCopies", fn := fun _ => fun
  | [d1, d2, d3] => { results := [.lit (.bool true)], args := [d1, d2, d3] }
  | _ => none }
def portCopiesRow : OpenClaim := { program := "ytbnhmpjcmgbabaa", sum := "1f408df8a235d9106000d9952fa78aadb0f86cb495e7adb3deb06dd8ade03230", func := "horarium/horariumlaw17.PortCopies", spec := "portCopies", unfollowed := true, recurses := true, apart := false }
def PortCopiesSaid : Prop := portCopiesRow.holds Try.pinned (OpenSpec.ofChange portCopiesSpec)

/-- ITS FALSE NEIGHBOUR: 'it returns false'. Refute it at one input. -/
def portCopiesWrong : ChangeSpec := { name := "portCopies", fn := fun _ => fun
  | [d1, d2, d3] => { results := [.lit (.bool false)], args := [d1, d2, d3] }
  | _ => none }
def PortCopiesWrongFalsely : Prop := portCopiesRow.holds Try.pinned (OpenSpec.ofChange portCopiesWrong)

/- THE SECOND FORM. 'bulk': how many values and letters a reading holds, each counted each time it is reached (what is shared counts as often as it is met; a slice's spare places count too). A statement '..UptoSaid' is the law's where the arguments, and the package variables that the reading takes, are together of bulk at most 1048576: NARROWER than '..Said'. Prove '..Said' where nothing that the law and all that it calls make is longer than what came in: it says more and counts as full. Else prove '..UptoSaid'. A law counts once. -/
mutual
def uptoBulk {H : Type} : DataW H → Nat
  | .lit (.string bytes) => bytes.length + 1
  | .lit _ => 1
  | .nil => 1
  | .ptr d => uptoBulk d + 1
  | .slice elems spare => uptoBulkAll elems + uptoBulkAll spare + 1
  | .agg parts => uptoBulkAll parts + 1
  | .iface _ d => uptoBulk d + 1
  | .map entries => uptoBulkEntries entries + 1
  | .held _ => 1
def uptoBulkAll {H : Type} : List (DataW H) → Nat
  | [] => 0
  | d :: r => uptoBulk d + uptoBulkAll r
def uptoBulkEntries {H : Type} : List (Lit × DataW H) → Nat
  | [] => 0
  | x :: r => uptoBulkEntry x + uptoBulkEntries r
def uptoBulkEntry {H : Type} : Lit × DataW H → Nat
  | (.string bytes, d) => bytes.length + uptoBulk d + 1
  | (_, d) => uptoBulk d + 1
 end
def uptoSmall : (H : Type) → List (DataW H) → Bool := fun _ ds => decide (uptoBulkAll ds ≤ 1048576)
def OpenSpec.upto (s : _root_.Go.ChangeSpec) : _root_.Go.OpenSpec := { _root_.Go.OpenSpec.ofChange s with cond := some uptoSmall }

/-- 'horariumlaw17.PortNumbers', WHERE WHAT IT READS IS OF BULK AT MOST 1048576: true; the input reads as it did. -/
def portNumbersUptoRow : OpenClaim := { program := "ytbnhmpjcmgbabaa", sum := "1f408df8a235d9106000d9952fa78aadb0f86cb495e7adb3deb06dd8ade03230", func := "horarium/horariumlaw17.PortNumbers", spec := "portNumbers", unfollowed := true, recurses := true, apart := false, narrowed := true }
def PortNumbersUptoSaid : Prop := portNumbersUptoRow.holds Try.pinned (OpenSpec.upto portNumbersSpec)

/-- 'horariumlaw17.PortPlays', WHERE WHAT IT READS IS OF BULK AT MOST 1048576: true; the input reads as it did. -/
def portPlaysUptoRow : OpenClaim := { program := "ytbnhmpjcmgbabaa", sum := "1f408df8a235d9106000d9952fa78aadb0f86cb495e7adb3deb06dd8ade03230", func := "horarium/horariumlaw17.PortPlays", spec := "portPlays", unfollowed := true, recurses := true, apart := false, narrowed := true }
def PortPlaysUptoSaid : Prop := portPlaysUptoRow.holds Try.pinned (OpenSpec.upto portPlaysSpec)

/-- 'horariumlaw17.PortOrder', WHERE WHAT IT READS IS OF BULK AT MOST 1048576: true; the input reads as it did. -/
def portOrderUptoRow : OpenClaim := { program := "ytbnhmpjcmgbabaa", sum := "1f408df8a235d9106000d9952fa78aadb0f86cb495e7adb3deb06dd8ade03230", func := "horarium/horariumlaw17.PortOrder", spec := "portOrder", unfollowed := true, recurses := true, apart := false, narrowed := true }
def PortOrderUptoSaid : Prop := portOrderUptoRow.holds Try.pinned (OpenSpec.upto portOrderSpec)

/-- 'horariumlaw17.PortApart', WHERE WHAT IT READS IS OF BULK AT MOST 1048576: true; the input reads as it did. -/
def portApartUptoRow : OpenClaim := { program := "ytbnhmpjcmgbabaa", sum := "1f408df8a235d9106000d9952fa78aadb0f86cb495e7adb3deb06dd8ade03230", func := "horarium/horariumlaw17.PortApart", spec := "portApart", unfollowed := true, recurses := true, apart := false, narrowed := true }
def PortApartUptoSaid : Prop := portApartUptoRow.holds Try.pinned (OpenSpec.upto portApartSpec)

/-- 'horariumlaw17.PortCopies', WHERE WHAT IT READS IS OF BULK AT MOST 1048576: true; the input reads as it did. -/
def portCopiesUptoRow : OpenClaim := { program := "ytbnhmpjcmgbabaa", sum := "1f408df8a235d9106000d9952fa78aadb0f86cb495e7adb3deb06dd8ade03230", func := "horarium/horariumlaw17.PortCopies", spec := "portCopies", unfollowed := true, recurses := true, apart := false, narrowed := true }
def PortCopiesUptoSaid : Prop := portCopiesUptoRow.holds Try.pinned (OpenSpec.upto portCopiesSpec)

end Rows
end Go.Proofs.Ytbnhmpjcmgbabaa
