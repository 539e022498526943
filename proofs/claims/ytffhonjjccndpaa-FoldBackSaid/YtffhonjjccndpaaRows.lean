/-
  No cell of these rows narrows 'for every input' (looked for: loops, veiled, ifaces, maps, wideKeys, modest, calm, conditions, laid).
  DERIVED. THE GIVEN ROWS OF THIS SEAT. 3 by the template 'for every input the law returns true; each argument reads behind the call as it read before'; 0 by the template 'total and deterministic' (their statements: YtffhonjjccndpaaTotals.lean).
  GIVEN WITH THE SEED: the statements are not yours to turn. If you find one false, say at which input.
  Laid BY PROGRAM, IN A SANDBOX (cutbox-rows.mjs): the forced cells as the released guide's own fill.sh prints them over the translation 1429bbdb18dec18f… (all of the seat's roots in one cut). By AI agents, Wed Nov 11 2026. No macro, syntax, notation, axiom, sorry.
-/
import Derived.Test.YtffhonjjccndpaaChecked
import GoSem.Claim
import GoSem.ClaimJoined
import GoSem.ClaimMapViews
import Derived.JoinedTies
import Derived.KernelRfl
namespace Go.Proofs.Ytffhonjjccndpaa
/- THE CELL 'sum', in the pinned program and in every row, IS THE sha256 OF THE DUMP (.gsa) THAT YtffhonjjccndpaaProg.lean LOADS. Nothing in Lean hashes anything: it is a label: what it is worth is what the hold of that sum in a sandbox is worth. -/
noncomputable def Try.pinned : Pinned := { name := "ytffhonjjccndpaa", sum := "1429bbdb18dec18ff1b9eb52373b5337ff440842a5bbe5fb032f49daa7e7eb0c", checked := Try.checked }
namespace Rows
def none {H : Type} : Left H := { results := [], args := [] }

/-- 'horariumlaw6.FoldBack': WHATEVER THE INPUT: true; the input reads as it did. -/
def foldBackSpec : ChangeSpec := { name := "foldBack", fn := fun _ => fun
  | [d1, d2] => { results := [.lit (.bool true)], args := [d1, d2] }
  | _ => none }
def foldBackRow : OpenClaim := { program := "ytffhonjjccndpaa", sum := "1429bbdb18dec18ff1b9eb52373b5337ff440842a5bbe5fb032f49daa7e7eb0c", func := "horarium/horariumlaw6.FoldBack", spec := "foldBack", unfollowed := true, recurses := true, apart := false }
def FoldBackSaid : Prop := foldBackRow.holds Try.pinned (OpenSpec.ofChange foldBackSpec)

/-- ITS FALSE NEIGHBOUR: 'it returns false'. Refute it at one input. -/
def foldBackWrong : ChangeSpec := { name := "foldBack", fn := fun _ => fun
  | [d1, d2] => { results := [.lit (.bool false)], args := [d1, d2] }
  | _ => none }
def FoldBackWrongFalsely : Prop := foldBackRow.holds Try.pinned (OpenSpec.ofChange foldBackWrong)

/-- 'horariumlaw6.FoldPeriods': WHATEVER THE INPUT: true; the input reads as it did. -/
def foldPeriodsSpec : ChangeSpec := { name := "foldPeriods", fn := fun _ => fun
  | [d1, d2] => { results := [.lit (.bool true)], args := [d1, d2] }
  | _ => none }
def foldPeriodsRow : OpenClaim := { program := "ytffhonjjccndpaa", sum := "1429bbdb18dec18ff1b9eb52373b5337ff440842a5bbe5fb032f49daa7e7eb0c", func := "horarium/horariumlaw6.FoldPeriods", spec := "foldPeriods", unfollowed := true, recurses := true, apart := false }
def FoldPeriodsSaid : Prop := foldPeriodsRow.holds Try.pinned (OpenSpec.ofChange foldPeriodsSpec)

/-- ITS FALSE NEIGHBOUR: 'it returns false'. Refute it at one input. -/
def foldPeriodsWrong : ChangeSpec := { name := "foldPeriods", fn := fun _ => fun
  | [d1, d2] => { results := [.lit (.bool false)], args := [d1, d2] }
  | _ => none }
def FoldPeriodsWrongFalsely : Prop := foldPeriodsRow.holds Try.pinned (OpenSpec.ofChange foldPeriodsWrong)

/-- 'horariumlaw6.FoldSaves': WHATEVER THE INPUT: true; the input reads as it did. -/
def foldSavesSpec : ChangeSpec := { name := "foldSaves", fn := fun _ => fun
  | [d1, d2] => { results := [.lit (.bool true)], args := [d1, d2] }
  | _ => none }
def foldSavesRow : OpenClaim := { program := "ytffhonjjccndpaa", sum := "1429bbdb18dec18ff1b9eb52373b5337ff440842a5bbe5fb032f49daa7e7eb0c", func := "horarium/horariumlaw6.FoldSaves", spec := "foldSaves", unfollowed := true, recurses := true, apart := false }
def FoldSavesSaid : Prop := foldSavesRow.holds Try.pinned (OpenSpec.ofChange foldSavesSpec)

/-- ITS FALSE NEIGHBOUR: 'it returns false'. Refute it at one input. -/
def foldSavesWrong : ChangeSpec := { name := "foldSaves", fn := fun _ => fun
  | [d1, d2] => { results := [.lit (.bool false)], args := [d1, d2] }
  | _ => none }
def FoldSavesWrongFalsely : Prop := foldSavesRow.holds Try.pinned (OpenSpec.ofChange foldSavesWrong)

/- THE SECOND FORM. 'bulk': how many values and letters a reading holds, each counted each time it is reached (what is shared counts as often as it is met; a slice's spare places count too). A statement '..UptoSaid' is the law's where the arguments, and the package variables that the reading takes, are together of bulk at most 1048576: NARROWER than '..Said'. Prove '..Said' where nothing that the law and all that it calls make is longer than what came in: it says more and counts as full. Else prove '..UptoSaid'. A law counts once. -/
mutual
def uptoBulk {H : Type} : DataW H → Nat
  | .lit (.string bytes) => bytes.length + 1
  | .lit _ => 1
  | .nil => 1
  | .ptr d => uptoBulk d + 1
  | .slice elems spare => uptoBulkAll elems + uptoBulkAll spare + 1
  | .agg parts => uptoBulkAll parts + 1
  | .iface _ d => uptoBulk d + 1
  | .map entries => uptoBulkEntries entries + 1
  | .held _ => 1
def uptoBulkAll {H : Type} : List (DataW H) → Nat
  | [] => 0
  | d :: r => uptoBulk d + uptoBulkAll r
def uptoBulkEntries {H : Type} : List (Lit × DataW H) → Nat
  | [] => 0
  | x :: r => uptoBulkEntry x + uptoBulkEntries r
def uptoBulkEntry {H : Type} : Lit × DataW H → Nat
  | (.string bytes, d) => bytes.length + uptoBulk d + 1
  | (_, d) => uptoBulk d + 1
 end
def uptoSmall : (H : Type) → List (DataW H) → Bool := fun _ ds => decide (uptoBulkAll ds ≤ 1048576)
def OpenSpec.upto (s : _root_.Go.ChangeSpec) : _root_.Go.OpenSpec := { _root_.Go.OpenSpec.ofChange s with cond := some uptoSmall }

/-- 'horariumlaw6.FoldBack', WHERE WHAT IT READS IS OF BULK AT MOST 1048576: true; the input reads as it did. -/
def foldBackUptoRow : OpenClaim := { program := "ytffhonjjccndpaa", sum := "1429bbdb18dec18ff1b9eb52373b5337ff440842a5bbe5fb032f49daa7e7eb0c", func := "horarium/horariumlaw6.FoldBack", spec := "foldBack", unfollowed := true, recurses := true, apart := false, narrowed := true }
def FoldBackUptoSaid : Prop := foldBackUptoRow.holds Try.pinned (OpenSpec.upto foldBackSpec)

/-- 'horariumlaw6.FoldPeriods', WHERE WHAT IT READS IS OF BULK AT MOST 1048576: true; the input reads as it did. -/
def foldPeriodsUptoRow : OpenClaim := { program := "ytffhonjjccndpaa", sum := "1429bbdb18dec18ff1b9eb52373b5337ff440842a5bbe5fb032f49daa7e7eb0c", func := "horarium/horariumlaw6.FoldPeriods", spec := "foldPeriods", unfollowed := true, recurses := true, apart := false, narrowed := true }
def FoldPeriodsUptoSaid : Prop := foldPeriodsUptoRow.holds Try.pinned (OpenSpec.upto foldPeriodsSpec)

/-- 'horariumlaw6.FoldSaves', WHERE WHAT IT READS IS OF BULK AT MOST 1048576: true; the input reads as it did. -/
def foldSavesUptoRow : OpenClaim := { program := "ytffhonjjccndpaa", sum := "1429bbdb18dec18ff1b9eb52373b5337ff440842a5bbe5fb032f49daa7e7eb0c", func := "horarium/horariumlaw6.FoldSaves", spec := "foldSaves", unfollowed := true, recurses := true, apart := false, narrowed := true }
def FoldSavesUptoSaid : Prop := foldSavesUptoRow.holds Try.pinned (OpenSpec.upto foldSavesSpec)

end Rows
end Go.Proofs.Ytffhonjjccndpaa
