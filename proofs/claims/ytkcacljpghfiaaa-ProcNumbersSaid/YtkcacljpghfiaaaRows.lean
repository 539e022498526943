/-
  No cell of these rows narrows 'for every input' (looked for: loops, veiled, ifaces, maps, wideKeys, modest, calm, conditions, laid).
  DERIVED. THE GIVEN ROWS OF THIS SEAT. 4 by the template 'for every input the law returns true; each argument reads behind the call as it read before'; 0 by the template 'total and deterministic' (their statements: YtkcacljpghfiaaaTotals.lean).
  GIVEN WITH THE SEED: the statements are not yours to turn. If you find one false, say at which input.
  Laid BY PROGRAM, IN A SANDBOX (cutbox-rows.mjs): the forced cells as the released guide's own fill.sh prints them over the translation 3167dad9b95c22f6… (all of the seat's roots in one cut). By AI agents, Wed Nov 11 2026. No macro, syntax, notation, axiom, sorry.
-/
import Derived.Test.YtkcacljpghfiaaaChecked
import GoSem.Claim
import GoSem.ClaimJoined
import GoSem.ClaimMapViews
import Derived.JoinedTies
import Derived.KernelRfl
namespace Go.Proofs.Ytkcacljpghfiaaa
/- THE CELL 'sum', in the pinned program and in every row, IS THE sha256 OF THE DUMP (.gsa) THAT YtkcacljpghfiaaaProg.lean LOADS. Nothing in Lean hashes anything: it is a label: what it is worth is what the hold of that sum in a sandbox is worth. -/
noncomputable def Try.pinned : Pinned := { name := "ytkcacljpghfiaaa", sum := "3167dad9b95c22f65765b458ec59133e4c142622f3ab8f632072939574ba27f4", checked := Try.checked }
namespace Rows
def none {H : Type} : Left H := { results := [], args := [] }

/-- 'horariumlaw16.ProcOrder': WHATEVER THE INPUT: true; the input reads as it did. -/
def procOrderSpec : ChangeSpec := { name := "procOrder", fn := fun _ => fun
  | [d1, d2, d3] => { results := [.lit (.bool true)], args := [d1, d2, d3] }
  | _ => none }
def procOrderRow : OpenClaim := { program := "ytkcacljpghfiaaa", sum := "3167dad9b95c22f65765b458ec59133e4c142622f3ab8f632072939574ba27f4", func := "horarium/horariumlaw16.ProcOrder", spec := "procOrder", unfollowed := true, recurses := true, apart := false }
def ProcOrderSaid : Prop := procOrderRow.holds Try.pinned (OpenSpec.ofChange procOrderSpec)

/-- ITS FALSE NEIGHBOUR: 'it returns false'. Refute it at one input. -/
def procOrderWrong : ChangeSpec := { name := "procOrder", fn := fun _ => fun
  | [d1, d2, d3] => { results := [.lit (.bool false)], args := [d1, d2, d3] }
  | _ => none }
def ProcOrderWrongFalsely : Prop := procOrderRow.holds Try.pinned (OpenSpec.ofChange procOrderWrong)

/-- 'horariumlaw16.ProcTies': WHATEVER THE INPUT: true; the input reads as it did. -/
def procTiesSpec : ChangeSpec := { name := "procTies", fn := fun _ => fun
  | [d1, d2, d3] => { results := [.lit (.bool true)], args := [d1, d2, d3] }
  | _ => none }
def procTiesRow : OpenClaim := { program := "ytkcacljpghfiaaa", sum := "3167dad9b95c22f65765b458ec59133e4c142622f3ab8f632072939574ba27f4", func := "horarium/horariumlaw16.ProcTies", spec := "procTies", unfollowed := true, recurses := true, apart := false }
def ProcTiesSaid : Prop := procTiesRow.holds Try.pinned (OpenSpec.ofChange procTiesSpec)

/-- ITS FALSE NEIGHBOUR: 'it returns false'. Refute it at one input. -/
def procTiesWrong : ChangeSpec := { name := "procTies", fn := fun _ => fun
  | [d1, d2, d3] => { results := [.lit (.bool false)], args := [d1, d2, d3] }
  | _ => none }
def ProcTiesWrongFalsely : Prop := procTiesRow.holds Try.pinned (OpenSpec.ofChange procTiesWrong)

/-- 'horariumlaw16.ProcNumbers': WHATEVER THE INPUT: true; the input reads as it did. -/
def procNumbersSpec : ChangeSpec := { name := "procNumbers", fn := fun _ => fun
  | [] => { results := [.lit (.bool true)], args := [] }
  | _ => none }
def procNumbersRow : OpenClaim := { program := "ytkcacljpghfiaaa", sum := "3167dad9b95c22f65765b458ec59133e4c142622f3ab8f632072939574ba27f4", func := "horarium/horariumlaw16.ProcNumbers", spec := "procNumbers", unfollowed := true, recurses := true, apart := false }
def ProcNumbersSaid : Prop := procNumbersRow.holds Try.pinned (OpenSpec.ofChange procNumbersSpec)

/-- ITS FALSE NEIGHBOUR: 'it returns false'. Refute it at one input. -/
def procNumbersWrong : ChangeSpec := { name := "procNumbers", fn := fun _ => fun
  | [] => { results := [.lit (.bool false)], args := [] }
  | _ => none }
def ProcNumbersWrongFalsely : Prop := procNumbersRow.holds Try.pinned (OpenSpec.ofChange procNumbersWrong)

/-- 'horariumlaw16.ProcEnds': WHATEVER THE INPUT: true; the input reads as it did. -/
def procEndsSpec : ChangeSpec := { name := "procEnds", fn := fun _ => fun
  | [d1, d2, d3, d4] => { results := [.lit (.bool true)], args := [d1, d2, d3, d4] }
  | _ => none }
def procEndsRow : OpenClaim := { program := "ytkcacljpghfiaaa", sum := "3167dad9b95c22f65765b458ec59133e4c142622f3ab8f632072939574ba27f4", func := "horarium/horariumlaw16.ProcEnds", spec := "procEnds", unfollowed := true, recurses := true, apart := false }
def ProcEndsSaid : Prop := procEndsRow.holds Try.pinned (OpenSpec.ofChange procEndsSpec)

/-- ITS FALSE NEIGHBOUR: 'it returns false'. Refute it at one input. -/
def procEndsWrong : ChangeSpec := { name := "procEnds", fn := fun _ => fun
  | [d1, d2, d3, d4] => { results := [.lit (.bool false)], args := [d1, d2, d3, d4] }
  | _ => none }
def ProcEndsWrongFalsely : Prop := procEndsRow.holds Try.pinned (OpenSpec.ofChange procEndsWrong)

/- THE SECOND FORM. 'bulk': how many values and letters a reading holds, each counted each time it is reached (what is shared counts as often as it is met; a slice's spare places count too). A statement '..UptoSaid' is the law's where the arguments, and the package variables that the reading takes, are together of bulk at most 1048576: NARROWER than '..Said'. Prove '..Said' where nothing that the law and all that it calls make is longer than what came in: it says more and counts as full. Else prove '..UptoSaid'. A law counts once. -/
mutual
def uptoBulk {H : Type} : DataW H → Nat
  | .lit (.string bytes) => bytes.length + 1
  | .lit _ => 1
  | .nil => 1
  | .ptr d => uptoBulk d + 1
  | .slice elems spare => uptoBulkAll elems + uptoBulkAll spare + 1
  | .agg parts => uptoBulkAll parts + 1
  | .iface _ d => uptoBulk d + 1
  | .map entries => uptoBulkEntries entries + 1
  | .held _ => 1
def uptoBulkAll {H : Type} : List (DataW H) → Nat
  | [] => 0
  | d :: r => uptoBulk d + uptoBulkAll r
def uptoBulkEntries {H : Type} : List (Lit × DataW H) → Nat
  | [] => 0
  | x :: r => uptoBulkEntry x + uptoBulkEntries r
def uptoBulkEntry {H : Type} : Lit × DataW H → Nat
  | (.string bytes, d) => bytes.length + uptoBulk d + 1
  | (_, d) => uptoBulk d + 1
 end
def uptoSmall : (H : Type) → List (DataW H) → Bool := fun _ ds => decide (uptoBulkAll ds ≤ 1048576)
def OpenSpec.upto (s : _root_.Go.ChangeSpec) : _root_.Go.OpenSpec := { _root_.Go.OpenSpec.ofChange s with cond := some uptoSmall }

/-- 'horariumlaw16.ProcOrder', WHERE WHAT IT READS IS OF BULK AT MOST 1048576: true; the input reads as it did. -/
def procOrderUptoRow : OpenClaim := { program := "ytkcacljpghfiaaa", sum := "3167dad9b95c22f65765b458ec59133e4c142622f3ab8f632072939574ba27f4", func := "horarium/horariumlaw16.ProcOrder", spec := "procOrder", unfollowed := true, recurses := true, apart := false, narrowed := true }
def ProcOrderUptoSaid : Prop := procOrderUptoRow.holds Try.pinned (OpenSpec.upto procOrderSpec)

/-- 'horariumlaw16.ProcTies', WHERE WHAT IT READS IS OF BULK AT MOST 1048576: true; the input reads as it did. -/
def procTiesUptoRow : OpenClaim := { program := "ytkcacljpghfiaaa", sum := "3167dad9b95c22f65765b458ec59133e4c142622f3ab8f632072939574ba27f4", func := "horarium/horariumlaw16.ProcTies", spec := "procTies", unfollowed := true, recurses := true, apart := false, narrowed := true }
def ProcTiesUptoSaid : Prop := procTiesUptoRow.holds Try.pinned (OpenSpec.upto procTiesSpec)

/-- 'horariumlaw16.ProcNumbers', WHERE WHAT IT READS IS OF BULK AT MOST 1048576: true; the input reads as it did. -/
def procNumbersUptoRow : OpenClaim := { program := "ytkcacljpghfiaaa", sum := "3167dad9b95c22f65765b458ec59133e4c142622f3ab8f632072939574ba27f4", func := "horarium/horariumlaw16.ProcNumbers", spec := "procNumbers", unfollowed := true, recurses := true, apart := false, narrowed := true }
def ProcNumbersUptoSaid : Prop := procNumbersUptoRow.holds Try.pinned (OpenSpec.upto procNumbersSpec)

/-- 'horariumlaw16.ProcEnds', WHERE WHAT IT READS IS OF BULK AT MOST 1048576: true; the input reads as it did. -/
def procEndsUptoRow : OpenClaim := { program := "ytkcacljpghfiaaa", sum := "3167dad9b95c22f65765b458ec59133e4c142622f3ab8f632072939574ba27f4", func := "horarium/horariumlaw16.ProcEnds", spec := "procEnds", unfollowed := true, recurses := true, apart := false, narrowed := true }
def ProcEndsUptoSaid : Prop := procEndsUptoRow.holds Try.pinned (OpenSpec.upto procEndsSpec)

end Rows
end Go.Proofs.Ytkcacljpghfiaaa
