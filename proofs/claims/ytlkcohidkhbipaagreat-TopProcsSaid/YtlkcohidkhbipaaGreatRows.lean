/-
  No cell of these rows narrows 'for every input' (looked for: loops, veiled, ifaces, maps, wideKeys, modest, calm, conditions, laid).
  DERIVED. THE GIVEN ROWS OF THIS SEAT. 12 by the template 'for every input the law returns true; each argument reads behind the call as it read before'; 0 by the template 'total and deterministic' (their statements: YtlkcohidkhbipaaGreatTotals.lean).
  GIVEN WITH THE SEED: the statements are not yours to turn. If you find one false, say at which input.
  Laid BY PROGRAM, IN A SANDBOX (cutbox-rows.mjs): the forced cells as the released guide's own fill.sh prints them over the translation 7c5759878d461006… (all of the seat's roots in one cut). By AI agents, Wed Nov 11 2026. No macro, syntax, notation, axiom, sorry.
-/
import Derived.Test.YtlkcohidkhbipaaGreatChecked
import GoSem.Claim
import GoSem.ClaimJoined
import GoSem.ClaimMapViews
import Derived.JoinedTies
import Derived.KernelRfl
namespace Go.Proofs.YtlkcohidkhbipaaGreat
/- THE CELL 'sum', in the pinned program and in every row, IS THE sha256 OF THE DUMP (.gsa) THAT YtlkcohidkhbipaaGreatProg.lean LOADS. Nothing in Lean hashes anything: it is a label: what it is worth is what the hold of that sum in a sandbox is worth. -/
noncomputable def Tryz.pinned : Pinned := { name := "ytlkcohidkhbipaagreat", sum := "7c5759878d4610063b95d5031abce2f2945a6d8e04ef53965534276b103fc6f6", checked := Tryz.checked }
namespace Rows
def none {H : Type} : Left H := { results := [], args := [] }

/-- 'horariumtop.TopMerge': WHATEVER THE INPUT: true; the input reads as it did. -/
def topMergeSpec : ChangeSpec := { name := "topMerge", fn := fun _ => fun
  | [d1, d2, d3] => { results := [.lit (.bool true)], args := [d1, d2, d3] }
  | _ => none }
def topMergeRow : OpenClaim := { program := "ytlkcohidkhbipaagreat", sum := "7c5759878d4610063b95d5031abce2f2945a6d8e04ef53965534276b103fc6f6", func := "horarium/horariumtop.TopMerge", spec := "topMerge", unfollowed := true, recurses := true, apart := false }
def TopMergeSaid : Prop := topMergeRow.holds Tryz.pinned (OpenSpec.ofChange topMergeSpec)

/-- ITS FALSE NEIGHBOUR: 'it returns false'. Refute it at one input. -/
def topMergeWrong : ChangeSpec := { name := "topMerge", fn := fun _ => fun
  | [d1, d2, d3] => { results := [.lit (.bool false)], args := [d1, d2, d3] }
  | _ => none }
def TopMergeWrongFalsely : Prop := topMergeRow.holds Tryz.pinned (OpenSpec.ofChange topMergeWrong)

/-- 'horariumtop.TopKept': WHATEVER THE INPUT: true; the input reads as it did. -/
def topKeptSpec : ChangeSpec := { name := "topKept", fn := fun _ => fun
  | [d] => { results := [.lit (.bool true)], args := [d] }
  | _ => none }
def topKeptRow : OpenClaim := { program := "ytlkcohidkhbipaagreat", sum := "7c5759878d4610063b95d5031abce2f2945a6d8e04ef53965534276b103fc6f6", func := "horarium/horariumtop.TopKept", spec := "topKept", unfollowed := true, recurses := true, apart := false }
def TopKeptSaid : Prop := topKeptRow.holds Tryz.pinned (OpenSpec.ofChange topKeptSpec)

/-- ITS FALSE NEIGHBOUR: 'it returns false'. Refute it at one input. -/
def topKeptWrong : ChangeSpec := { name := "topKept", fn := fun _ => fun
  | [d] => { results := [.lit (.bool false)], args := [d] }
  | _ => none }
def TopKeptWrongFalsely : Prop := topKeptRow.holds Tryz.pinned (OpenSpec.ofChange topKeptWrong)

/-- 'horariumtop.TopLoops': WHATEVER THE INPUT: true; the input reads as it did. -/
def topLoopsSpec : ChangeSpec := { name := "topLoops", fn := fun _ => fun
  | [d1, d2, d3] => { results := [.lit (.bool true)], args := [d1, d2, d3] }
  | _ => none }
def topLoopsRow : OpenClaim := { program := "ytlkcohidkhbipaagreat", sum := "7c5759878d4610063b95d5031abce2f2945a6d8e04ef53965534276b103fc6f6", func := "horarium/horariumtop.TopLoops", spec := "topLoops", unfollowed := true, recurses := true, apart := false }
def TopLoopsSaid : Prop := topLoopsRow.holds Tryz.pinned (OpenSpec.ofChange topLoopsSpec)

/-- ITS FALSE NEIGHBOUR: 'it returns false'. Refute it at one input. -/
def topLoopsWrong : ChangeSpec := { name := "topLoops", fn := fun _ => fun
  | [d1, d2, d3] => { results := [.lit (.bool false)], args := [d1, d2, d3] }
  | _ => none }
def TopLoopsWrongFalsely : Prop := topLoopsRow.holds Tryz.pinned (OpenSpec.ofChange topLoopsWrong)

/-- 'horariumtop.TopBits': WHATEVER THE INPUT: true; the input reads as it did. -/
def topBitsSpec : ChangeSpec := { name := "topBits", fn := fun _ => fun
  | [d1, d2, d3] => { results := [.lit (.bool true)], args := [d1, d2, d3] }
  | _ => none }
def topBitsRow : OpenClaim := { program := "ytlkcohidkhbipaagreat", sum := "7c5759878d4610063b95d5031abce2f2945a6d8e04ef53965534276b103fc6f6", func := "horarium/horariumtop.TopBits", spec := "topBits", unfollowed := true, recurses := true, apart := false }
def TopBitsSaid : Prop := topBitsRow.holds Tryz.pinned (OpenSpec.ofChange topBitsSpec)

/-- ITS FALSE NEIGHBOUR: 'it returns false'. Refute it at one input. -/
def topBitsWrong : ChangeSpec := { name := "topBits", fn := fun _ => fun
  | [d1, d2, d3] => { results := [.lit (.bool false)], args := [d1, d2, d3] }
  | _ => none }
def TopBitsWrongFalsely : Prop := topBitsRow.holds Tryz.pinned (OpenSpec.ofChange topBitsWrong)

/-- 'horariumtop.TopStops': WHATEVER THE INPUT: true; the input reads as it did. -/
def topStopsSpec : ChangeSpec := { name := "topStops", fn := fun _ => fun
  | [d1, d2, d3, d4] => { results := [.lit (.bool true)], args := [d1, d2, d3, d4] }
  | _ => none }
def topStopsRow : OpenClaim := { program := "ytlkcohidkhbipaagreat", sum := "7c5759878d4610063b95d5031abce2f2945a6d8e04ef53965534276b103fc6f6", func := "horarium/horariumtop.TopStops", spec := "topStops", unfollowed := true, recurses := true, apart := false }
def TopStopsSaid : Prop := topStopsRow.holds Tryz.pinned (OpenSpec.ofChange topStopsSpec)

/-- ITS FALSE NEIGHBOUR: 'it returns false'. Refute it at one input. -/
def topStopsWrong : ChangeSpec := { name := "topStops", fn := fun _ => fun
  | [d1, d2, d3, d4] => { results := [.lit (.bool false)], args := [d1, d2, d3, d4] }
  | _ => none }
def TopStopsWrongFalsely : Prop := topStopsRow.holds Tryz.pinned (OpenSpec.ofChange topStopsWrong)

/-- 'horariumtop.TopFull': WHATEVER THE INPUT: true; the input reads as it did. -/
def topFullSpec : ChangeSpec := { name := "topFull", fn := fun _ => fun
  | [d1, d2, d3] => { results := [.lit (.bool true)], args := [d1, d2, d3] }
  | _ => none }
def topFullRow : OpenClaim := { program := "ytlkcohidkhbipaagreat", sum := "7c5759878d4610063b95d5031abce2f2945a6d8e04ef53965534276b103fc6f6", func := "horarium/horariumtop.TopFull", spec := "topFull", unfollowed := true, recurses := true, apart := false }
def TopFullSaid : Prop := topFullRow.holds Tryz.pinned (OpenSpec.ofChange topFullSpec)

/-- ITS FALSE NEIGHBOUR: 'it returns false'. Refute it at one input. -/
def topFullWrong : ChangeSpec := { name := "topFull", fn := fun _ => fun
  | [d1, d2, d3] => { results := [.lit (.bool false)], args := [d1, d2, d3] }
  | _ => none }
def TopFullWrongFalsely : Prop := topFullRow.holds Tryz.pinned (OpenSpec.ofChange topFullWrong)

/-- 'horariumtop.TopLast': WHATEVER THE INPUT: true; the input reads as it did. -/
def topLastSpec : ChangeSpec := { name := "topLast", fn := fun _ => fun
  | [d1, d2, d3] => { results := [.lit (.bool true)], args := [d1, d2, d3] }
  | _ => none }
def topLastRow : OpenClaim := { program := "ytlkcohidkhbipaagreat", sum := "7c5759878d4610063b95d5031abce2f2945a6d8e04ef53965534276b103fc6f6", func := "horarium/horariumtop.TopLast", spec := "topLast", unfollowed := true, recurses := true, apart := false }
def TopLastSaid : Prop := topLastRow.holds Tryz.pinned (OpenSpec.ofChange topLastSpec)

/-- ITS FALSE NEIGHBOUR: 'it returns false'. Refute it at one input. -/
def topLastWrong : ChangeSpec := { name := "topLast", fn := fun _ => fun
  | [d1, d2, d3] => { results := [.lit (.bool false)], args := [d1, d2, d3] }
  | _ => none }
def TopLastWrongFalsely : Prop := topLastRow.holds Tryz.pinned (OpenSpec.ofChange topLastWrong)

/-- 'horariumtop.TopClock': WHATEVER THE INPUT: true; the input reads as it did. -/
def topClockSpec : ChangeSpec := { name := "topClock", fn := fun _ => fun
  | [d1, d2] => { results := [.lit (.bool true)], args := [d1, d2] }
  | _ => none }
def topClockRow : OpenClaim := { program := "ytlkcohidkhbipaagreat", sum := "7c5759878d4610063b95d5031abce2f2945a6d8e04ef53965534276b103fc6f6", func := "horarium/horariumtop.TopClock", spec := "topClock", unfollowed := true, recurses := true, apart := false }
def TopClockSaid : Prop := topClockRow.holds Tryz.pinned (OpenSpec.ofChange topClockSpec)

/-- ITS FALSE NEIGHBOUR: 'it returns false'. Refute it at one input. -/
def topClockWrong : ChangeSpec := { name := "topClock", fn := fun _ => fun
  | [d1, d2] => { results := [.lit (.bool false)], args := [d1, d2] }
  | _ => none }
def TopClockWrongFalsely : Prop := topClockRow.holds Tryz.pinned (OpenSpec.ofChange topClockWrong)

/-- 'horariumtop.TopInputs': WHATEVER THE INPUT: true; the input reads as it did. -/
def topInputsSpec : ChangeSpec := { name := "topInputs", fn := fun _ => fun
  | [d1, d2, d3, d4] => { results := [.lit (.bool true)], args := [d1, d2, d3, d4] }
  | _ => none }
def topInputsRow : OpenClaim := { program := "ytlkcohidkhbipaagreat", sum := "7c5759878d4610063b95d5031abce2f2945a6d8e04ef53965534276b103fc6f6", func := "horarium/horariumtop.TopInputs", spec := "topInputs", unfollowed := true, recurses := true, apart := false }
def TopInputsSaid : Prop := topInputsRow.holds Tryz.pinned (OpenSpec.ofChange topInputsSpec)

/-- ITS FALSE NEIGHBOUR: 'it returns false'. Refute it at one input. -/
def topInputsWrong : ChangeSpec := { name := "topInputs", fn := fun _ => fun
  | [d1, d2, d3, d4] => { results := [.lit (.bool false)], args := [d1, d2, d3, d4] }
  | _ => none }
def TopInputsWrongFalsely : Prop := topInputsRow.holds Tryz.pinned (OpenSpec.ofChange topInputsWrong)

/-- 'horariumtop.TopCount': WHATEVER THE INPUT: true; the input reads as it did. -/
def topCountSpec : ChangeSpec := { name := "topCount", fn := fun _ => fun
  | [d1, d2, d3] => { results := [.lit (.bool true)], args := [d1, d2, d3] }
  | _ => none }
def topCountRow : OpenClaim := { program := "ytlkcohidkhbipaagreat", sum := "7c5759878d4610063b95d5031abce2f2945a6d8e04ef53965534276b103fc6f6", func := "horarium/horariumtop.TopCount", spec := "topCount", unfollowed := true, recurses := true, apart := false }
def TopCountSaid : Prop := topCountRow.holds Tryz.pinned (OpenSpec.ofChange topCountSpec)

/-- ITS FALSE NEIGHBOUR: 'it returns false'. Refute it at one input. -/
def topCountWrong : ChangeSpec := { name := "topCount", fn := fun _ => fun
  | [d1, d2, d3] => { results := [.lit (.bool false)], args := [d1, d2, d3] }
  | _ => none }
def TopCountWrongFalsely : Prop := topCountRow.holds Tryz.pinned (OpenSpec.ofChange topCountWrong)

/-- 'horariumtop.TopProcs': WHATEVER THE INPUT: true; the input reads as it did. -/
def topProcsSpec : ChangeSpec := { name := "topProcs", fn := fun _ => fun
  | [d1, d2] => { results := [.lit (.bool true)], args := [d1, d2] }
  | _ => none }
def topProcsRow : OpenClaim := { program := "ytlkcohidkhbipaagreat", sum := "7c5759878d4610063b95d5031abce2f2945a6d8e04ef53965534276b103fc6f6", func := "horarium/horariumtop.TopProcs", spec := "topProcs", unfollowed := true, recurses := true, apart := false }
def TopProcsSaid : Prop := topProcsRow.holds Tryz.pinned (OpenSpec.ofChange topProcsSpec)

/-- ITS FALSE NEIGHBOUR: 'it returns false'. Refute it at one input. -/
def topProcsWrong : ChangeSpec := { name := "topProcs", fn := fun _ => fun
  | [d1, d2] => { results := [.lit (.bool false)], args := [d1, d2] }
  | _ => none }
def TopProcsWrongFalsely : Prop := topProcsRow.holds Tryz.pinned (OpenSpec.ofChange topProcsWrong)

/-- 'horariumtop.TopRestart': WHATEVER THE INPUT: true; the input reads as it did. -/
def topRestartSpec : ChangeSpec := { name := "topRestart", fn := fun _ => fun
  | [d1, d2] => { results := [.lit (.bool true)], args := [d1, d2] }
  | _ => none }
def topRestartRow : OpenClaim := { program := "ytlkcohidkhbipaagreat", sum := "7c5759878d4610063b95d5031abce2f2945a6d8e04ef53965534276b103fc6f6", func := "horarium/horariumtop.TopRestart", spec := "topRestart", unfollowed := true, recurses := true, apart := false }
def TopRestartSaid : Prop := topRestartRow.holds Tryz.pinned (OpenSpec.ofChange topRestartSpec)

/-- ITS FALSE NEIGHBOUR: 'it returns false'. Refute it at one input. -/
def topRestartWrong : ChangeSpec := { name := "topRestart", fn := fun _ => fun
  | [d1, d2] => { results := [.lit (.bool false)], args := [d1, d2] }
  | _ => none }
def TopRestartWrongFalsely : Prop := topRestartRow.holds Tryz.pinned (OpenSpec.ofChange topRestartWrong)

/- THE SECOND FORM. 'bulk': how many values and letters a reading holds, each counted each time it is reached (what is shared counts as often as it is met; a slice's spare places count too). A statement '..UptoSaid' is the law's where the arguments, and the package variables that the reading takes, are together of bulk at most 1048576: NARROWER than '..Said'. Prove '..Said' where nothing that the law and all that it calls make is longer than what came in: it says more and counts as full. Else prove '..UptoSaid'. A law counts once. -/
mutual
def uptoBulk {H : Type} : DataW H → Nat
  | .lit (.string bytes) => bytes.length + 1
  | .lit _ => 1
  | .nil => 1
  | .ptr d => uptoBulk d + 1
  | .slice elems spare => uptoBulkAll elems + uptoBulkAll spare + 1
  | .agg parts => uptoBulkAll parts + 1
  | .iface _ d => uptoBulk d + 1
  | .map entries => uptoBulkEntries entries + 1
  | .held _ => 1
def uptoBulkAll {H : Type} : List (DataW H) → Nat
  | [] => 0
  | d :: r => uptoBulk d + uptoBulkAll r
def uptoBulkEntries {H : Type} : List (Lit × DataW H) → Nat
  | [] => 0
  | x :: r => uptoBulkEntry x + uptoBulkEntries r
def uptoBulkEntry {H : Type} : Lit × DataW H → Nat
  | (.string bytes, d) => bytes.length + uptoBulk d + 1
  | (_, d) => uptoBulk d + 1
 end
def uptoSmall : (H : Type) → List (DataW H) → Bool := fun _ ds => decide (uptoBulkAll ds ≤ 1048576)
def OpenSpec.upto (s : _root_.Go.ChangeSpec) : _root_.Go.OpenSpec := { _root_.Go.OpenSpec.ofChange s with cond := some uptoSmall }

/-- 'horariumtop.TopMerge', WHERE WHAT IT READS IS OF BULK AT MOST 1048576: true; the input reads as it did. -/
def topMergeUptoRow : OpenClaim := { program := "ytlkcohidkhbipaagreat", sum := "7c5759878d4610063b95d5031abce2f2945a6d8e04ef53965534276b103fc6f6", func := "horarium/horariumtop.TopMerge", spec := "topMerge", unfollowed := true, recurses := true, apart := false, narrowed := true }
def TopMergeUptoSaid : Prop := topMergeUptoRow.holds Tryz.pinned (OpenSpec.upto topMergeSpec)

/-- 'horariumtop.TopKept', WHERE WHAT IT READS IS OF BULK AT MOST 1048576: true; the input reads as it did. -/
def topKeptUptoRow : OpenClaim := { program := "ytlkcohidkhbipaagreat", sum := "7c5759878d4610063b95d5031abce2f2945a6d8e04ef53965534276b103fc6f6", func := "horarium/horariumtop.TopKept", spec := "topKept", unfollowed := true, recurses := true, apart := false, narrowed := true }
def TopKeptUptoSaid : Prop := topKeptUptoRow.holds Tryz.pinned (OpenSpec.upto topKeptSpec)

/-- 'horariumtop.TopLoops', WHERE WHAT IT READS IS OF BULK AT MOST 1048576: true; the input reads as it did. -/
def topLoopsUptoRow : OpenClaim := { program := "ytlkcohidkhbipaagreat", sum := "7c5759878d4610063b95d5031abce2f2945a6d8e04ef53965534276b103fc6f6", func := "horarium/horariumtop.TopLoops", spec := "topLoops", unfollowed := true, recurses := true, apart := false, narrowed := true }
def TopLoopsUptoSaid : Prop := topLoopsUptoRow.holds Tryz.pinned (OpenSpec.upto topLoopsSpec)

/-- 'horariumtop.TopBits', WHERE WHAT IT READS IS OF BULK AT MOST 1048576: true; the input reads as it did. -/
def topBitsUptoRow : OpenClaim := { program := "ytlkcohidkhbipaagreat", sum := "7c5759878d4610063b95d5031abce2f2945a6d8e04ef53965534276b103fc6f6", func := "horarium/horariumtop.TopBits", spec := "topBits", unfollowed := true, recurses := true, apart := false, narrowed := true }
def TopBitsUptoSaid : Prop := topBitsUptoRow.holds Tryz.pinned (OpenSpec.upto topBitsSpec)

/-- 'horariumtop.TopStops', WHERE WHAT IT READS IS OF BULK AT MOST 1048576: true; the input reads as it did. -/
def topStopsUptoRow : OpenClaim := { program := "ytlkcohidkhbipaagreat", sum := "7c5759878d4610063b95d5031abce2f2945a6d8e04ef53965534276b103fc6f6", func := "horarium/horariumtop.TopStops", spec := "topStops", unfollowed := true, recurses := true, apart := false, narrowed := true }
def TopStopsUptoSaid : Prop := topStopsUptoRow.holds Tryz.pinned (OpenSpec.upto topStopsSpec)

/-- 'horariumtop.TopFull', WHERE WHAT IT READS IS OF BULK AT MOST 1048576: true; the input reads as it did. -/
def topFullUptoRow : OpenClaim := { program := "ytlkcohidkhbipaagreat", sum := "7c5759878d4610063b95d5031abce2f2945a6d8e04ef53965534276b103fc6f6", func := "horarium/horariumtop.TopFull", spec := "topFull", unfollowed := true, recurses := true, apart := false, narrowed := true }
def TopFullUptoSaid : Prop := topFullUptoRow.holds Tryz.pinned (OpenSpec.upto topFullSpec)

/-- 'horariumtop.TopLast', WHERE WHAT IT READS IS OF BULK AT MOST 1048576: true; the input reads as it did. -/
def topLastUptoRow : OpenClaim := { program := "ytlkcohidkhbipaagreat", sum := "7c5759878d4610063b95d5031abce2f2945a6d8e04ef53965534276b103fc6f6", func := "horarium/horariumtop.TopLast", spec := "topLast", unfollowed := true, recurses := true, apart := false, narrowed := true }
def TopLastUptoSaid : Prop := topLastUptoRow.holds Tryz.pinned (OpenSpec.upto topLastSpec)

/-- 'horariumtop.TopClock', WHERE WHAT IT READS IS OF BULK AT MOST 1048576: true; the input reads as it did. -/
def topClockUptoRow : OpenClaim := { program := "ytlkcohidkhbipaagreat", sum := "7c5759878d4610063b95d5031abce2f2945a6d8e04ef53965534276b103fc6f6", func := "horarium/horariumtop.TopClock", spec := "topClock", unfollowed := true, recurses := true, apart := false, narrowed := true }
def TopClockUptoSaid : Prop := topClockUptoRow.holds Tryz.pinned (OpenSpec.upto topClockSpec)

/-- 'horariumtop.TopInputs', WHERE WHAT IT READS IS OF BULK AT MOST 1048576: true; the input reads as it did. -/
def topInputsUptoRow : OpenClaim := { program := "ytlkcohidkhbipaagreat", sum := "7c5759878d4610063b95d5031abce2f2945a6d8e04ef53965534276b103fc6f6", func := "horarium/horariumtop.TopInputs", spec := "topInputs", unfollowed := true, recurses := true, apart := false, narrowed := true }
def TopInputsUptoSaid : Prop := topInputsUptoRow.holds Tryz.pinned (OpenSpec.upto topInputsSpec)

/-- 'horariumtop.TopCount', WHERE WHAT IT READS IS OF BULK AT MOST 1048576: true; the input reads as it did. -/
def topCountUptoRow : OpenClaim := { program := "ytlkcohidkhbipaagreat", sum := "7c5759878d4610063b95d5031abce2f2945a6d8e04ef53965534276b103fc6f6", func := "horarium/horariumtop.TopCount", spec := "topCount", unfollowed := true, recurses := true, apart := false, narrowed := true }
def TopCountUptoSaid : Prop := topCountUptoRow.holds Tryz.pinned (OpenSpec.upto topCountSpec)

/-- 'horariumtop.TopProcs', WHERE WHAT IT READS IS OF BULK AT MOST 1048576: true; the input reads as it did. -/
def topProcsUptoRow : OpenClaim := { program := "ytlkcohidkhbipaagreat", sum := "7c5759878d4610063b95d5031abce2f2945a6d8e04ef53965534276b103fc6f6", func := "horarium/horariumtop.TopProcs", spec := "topProcs", unfollowed := true, recurses := true, apart := false, narrowed := true }
def TopProcsUptoSaid : Prop := topProcsUptoRow.holds Tryz.pinned (OpenSpec.upto topProcsSpec)

/-- 'horariumtop.TopRestart', WHERE WHAT IT READS IS OF BULK AT MOST 1048576: true; the input reads as it did. -/
def topRestartUptoRow : OpenClaim := { program := "ytlkcohidkhbipaagreat", sum := "7c5759878d4610063b95d5031abce2f2945a6d8e04ef53965534276b103fc6f6", func := "horarium/horariumtop.TopRestart", spec := "topRestart", unfollowed := true, recurses := true, apart := false, narrowed := true }
def TopRestartUptoSaid : Prop := topRestartUptoRow.holds Tryz.pinned (OpenSpec.upto topRestartSpec)

end Rows
end Go.Proofs.YtlkcohidkhbipaaGreat
