/-
  No cell of these rows narrows 'for every input' (looked for: loops, veiled, ifaces, maps, wideKeys, modest, calm, conditions, laid).
  DERIVED. THE GIVEN ROWS OF THIS SEAT. 6 by the template 'for every input the law returns true; each argument reads behind the call as it read before'; 0 by the template 'total and deterministic' (their statements: YtmgeangfplgcbaaTotals.lean).
  GIVEN WITH THE SEED: the statements are not yours to turn. If you find one false, say at which input.
  Laid BY PROGRAM, IN A SANDBOX (cutbox-rows.mjs): the forced cells as the released guide's own fill.sh prints them over the translation 961064d7685d9c2e… (all of the seat's roots in one cut). By AI agents, Wed Nov 11 2026. No macro, syntax, notation, axiom, sorry.
-/
import Derived.Test.YtmgeangfplgcbaaChecked
import GoSem.Claim
import GoSem.ClaimJoined
import GoSem.ClaimMapViews
import Derived.JoinedTies
import Derived.KernelRfl
namespace Go.Proofs.Ytmgeangfplgcbaa
/- THE CELL 'sum', in the pinned program and in every row, IS THE sha256 OF THE DUMP (.gsa) THAT YtmgeangfplgcbaaProg.lean LOADS. Nothing in Lean hashes anything: it is a label: what it is worth is what the hold of that sum in a sandbox is worth. -/
noncomputable def Try.pinned : Pinned := { name := "ytmgeangfplgcbaa", sum := "961064d7685d9c2e80391c25d0d7a1c23a90673ed42bd9dff27968107b3999c5", checked := Try.checked }
namespace Rows
def none {H : Type} : Left H := { results := [], args := [] }

/-- 'horariumlaw8.WordNumbers': WHATEVER THE INPUT: true; the input reads as it did. -/
def wordNumbersSpec : ChangeSpec := { name := "wordNumbers", fn := fun _ => fun
  | [] => { results := [.lit (.bool true)], args := [] }
  | _ => none }
def wordNumbersRow : OpenClaim := { program := "ytmgeangfplgcbaa", sum := "961064d7685d9c2e80391c25d0d7a1c23a90673ed42bd9dff27968107b3999c5", func := "horarium/horariumlaw8.WordNumbers", spec := "wordNumbers", apart := false }
def WordNumbersSaid : Prop := wordNumbersRow.holds Try.pinned (OpenSpec.ofChange wordNumbersSpec)

/-- ITS FALSE NEIGHBOUR: 'it returns false'. Refute it at one input. -/
def wordNumbersWrong : ChangeSpec := { name := "wordNumbers", fn := fun _ => fun
  | [] => { results := [.lit (.bool false)], args := [] }
  | _ => none }
def WordNumbersWrongFalsely : Prop := wordNumbersRow.holds Try.pinned (OpenSpec.ofChange wordNumbersWrong)

/-- 'horariumlaw8.WordTells': WHATEVER THE INPUT: true; the input reads as it did. -/
def wordTellsSpec : ChangeSpec := { name := "wordTells", fn := fun _ => fun
  | [d1, d2, d3, d4, d5, d6] => { results := [.lit (.bool true)], args := [d1, d2, d3, d4, d5, d6] }
  | _ => none }
def wordTellsRow : OpenClaim := { program := "ytmgeangfplgcbaa", sum := "961064d7685d9c2e80391c25d0d7a1c23a90673ed42bd9dff27968107b3999c5", func := "horarium/horariumlaw8.WordTells", spec := "wordTells", apart := false }
def WordTellsSaid : Prop := wordTellsRow.holds Try.pinned (OpenSpec.ofChange wordTellsSpec)

/-- ITS FALSE NEIGHBOUR: 'it returns false'. Refute it at one input. -/
def wordTellsWrong : ChangeSpec := { name := "wordTells", fn := fun _ => fun
  | [d1, d2, d3, d4, d5, d6] => { results := [.lit (.bool false)], args := [d1, d2, d3, d4, d5, d6] }
  | _ => none }
def WordTellsWrongFalsely : Prop := wordTellsRow.holds Try.pinned (OpenSpec.ofChange wordTellsWrong)

/-- 'horariumlaw8.WordTurns': WHATEVER THE INPUT: true; the input reads as it did. -/
def wordTurnsSpec : ChangeSpec := { name := "wordTurns", fn := fun _ => fun
  | [d1, d2, d3] => { results := [.lit (.bool true)], args := [d1, d2, d3] }
  | _ => none }
def wordTurnsRow : OpenClaim := { program := "ytmgeangfplgcbaa", sum := "961064d7685d9c2e80391c25d0d7a1c23a90673ed42bd9dff27968107b3999c5", func := "horarium/horariumlaw8.WordTurns", spec := "wordTurns", apart := false }
def WordTurnsSaid : Prop := wordTurnsRow.holds Try.pinned (OpenSpec.ofChange wordTurnsSpec)

/-- ITS FALSE NEIGHBOUR: 'it returns false'. Refute it at one input. -/
def wordTurnsWrong : ChangeSpec := { name := "wordTurns", fn := fun _ => fun
  | [d1, d2, d3] => { results := [.lit (.bool false)], args := [d1, d2, d3] }
  | _ => none }
def WordTurnsWrongFalsely : Prop := wordTurnsRow.holds Try.pinned (OpenSpec.ofChange wordTurnsWrong)

/-- 'horariumlaw8.WordOrder': WHATEVER THE INPUT: true; the input reads as it did. -/
def wordOrderSpec : ChangeSpec := { name := "wordOrder", fn := fun _ => fun
  | [d1, d2, d3, d4, d5] => { results := [.lit (.bool true)], args := [d1, d2, d3, d4, d5] }
  | _ => none }
def wordOrderRow : OpenClaim := { program := "ytmgeangfplgcbaa", sum := "961064d7685d9c2e80391c25d0d7a1c23a90673ed42bd9dff27968107b3999c5", func := "horarium/horariumlaw8.WordOrder", spec := "wordOrder", apart := false }
def WordOrderSaid : Prop := wordOrderRow.holds Try.pinned (OpenSpec.ofChange wordOrderSpec)

/-- ITS FALSE NEIGHBOUR: 'it returns false'. Refute it at one input. -/
def wordOrderWrong : ChangeSpec := { name := "wordOrder", fn := fun _ => fun
  | [d1, d2, d3, d4, d5] => { results := [.lit (.bool false)], args := [d1, d2, d3, d4, d5] }
  | _ => none }
def WordOrderWrongFalsely : Prop := wordOrderRow.holds Try.pinned (OpenSpec.ofChange wordOrderWrong)

/-- 'horariumlaw8.WordMoved': WHATEVER THE INPUT: true; the input reads as it did. -/
def wordMovedSpec : ChangeSpec := { name := "wordMoved", fn := fun _ => fun
  | [d1, d2, d3] => { results := [.lit (.bool true)], args := [d1, d2, d3] }
  | _ => none }
def wordMovedRow : OpenClaim := { program := "ytmgeangfplgcbaa", sum := "961064d7685d9c2e80391c25d0d7a1c23a90673ed42bd9dff27968107b3999c5", func := "horarium/horariumlaw8.WordMoved", spec := "wordMoved", apart := false }
def WordMovedSaid : Prop := wordMovedRow.holds Try.pinned (OpenSpec.ofChange wordMovedSpec)

/-- ITS FALSE NEIGHBOUR: 'it returns false'. Refute it at one input. -/
def wordMovedWrong : ChangeSpec := { name := "wordMoved", fn := fun _ => fun
  | [d1, d2, d3] => { results := [.lit (.bool false)], args := [d1, d2, d3] }
  | _ => none }
def WordMovedWrongFalsely : Prop := wordMovedRow.holds Try.pinned (OpenSpec.ofChange wordMovedWrong)

/-- 'horariumlaw8.WordParts': WHATEVER THE INPUT: true; the input reads as it did. -/
def wordPartsSpec : ChangeSpec := { name := "wordParts", fn := fun _ => fun
  | [d1, d2, d3, d4] => { results := [.lit (.bool true)], args := [d1, d2, d3, d4] }
  | _ => none }
def wordPartsRow : OpenClaim := { program := "ytmgeangfplgcbaa", sum := "961064d7685d9c2e80391c25d0d7a1c23a90673ed42bd9dff27968107b3999c5", func := "horarium/horariumlaw8.WordParts", spec := "wordParts", apart := false }
def WordPartsSaid : Prop := wordPartsRow.holds Try.pinned (OpenSpec.ofChange wordPartsSpec)

/-- ITS FALSE NEIGHBOUR: 'it returns false'. Refute it at one input. -/
def wordPartsWrong : ChangeSpec := { name := "wordParts", fn := fun _ => fun
  | [d1, d2, d3, d4] => { results := [.lit (.bool false)], args := [d1, d2, d3, d4] }
  | _ => none }
def WordPartsWrongFalsely : Prop := wordPartsRow.holds Try.pinned (OpenSpec.ofChange wordPartsWrong)

/- THE SECOND FORM. 'bulk': how many values and letters a reading holds, each counted each time it is reached (what is shared counts as often as it is met; a slice's spare places count too). A statement '..UptoSaid' is the law's where the arguments, and the package variables that the reading takes, are together of bulk at most 1048576: NARROWER than '..Said'. Prove '..Said' where nothing that the law and all that it calls make is longer than what came in: it says more and counts as full. Else prove '..UptoSaid'. A law counts once. -/
mutual
def uptoBulk {H : Type} : DataW H → Nat
  | .lit (.string bytes) => bytes.length + 1
  | .lit _ => 1
  | .nil => 1
  | .ptr d => uptoBulk d + 1
  | .slice elems spare => uptoBulkAll elems + uptoBulkAll spare + 1
  | .agg parts => uptoBulkAll parts + 1
  | .iface _ d => uptoBulk d + 1
  | .map entries => uptoBulkEntries entries + 1
  | .held _ => 1
def uptoBulkAll {H : Type} : List (DataW H) → Nat
  | [] => 0
  | d :: r => uptoBulk d + uptoBulkAll r
def uptoBulkEntries {H : Type} : List (Lit × DataW H) → Nat
  | [] => 0
  | x :: r => uptoBulkEntry x + uptoBulkEntries r
def uptoBulkEntry {H : Type} : Lit × DataW H → Nat
  | (.string bytes, d) => bytes.length + uptoBulk d + 1
  | (_, d) => uptoBulk d + 1
 end
def uptoSmall : (H : Type) → List (DataW H) → Bool := fun _ ds => decide (uptoBulkAll ds ≤ 1048576)
def OpenSpec.upto (s : _root_.Go.ChangeSpec) : _root_.Go.OpenSpec := { _root_.Go.OpenSpec.ofChange s with cond := some uptoSmall }

/-- 'horariumlaw8.WordNumbers', WHERE WHAT IT READS IS OF BULK AT MOST 1048576: true; the input reads as it did. -/
def wordNumbersUptoRow : OpenClaim := { program := "ytmgeangfplgcbaa", sum := "961064d7685d9c2e80391c25d0d7a1c23a90673ed42bd9dff27968107b3999c5", func := "horarium/horariumlaw8.WordNumbers", spec := "wordNumbers", apart := false, narrowed := true }
def WordNumbersUptoSaid : Prop := wordNumbersUptoRow.holds Try.pinned (OpenSpec.upto wordNumbersSpec)

/-- 'horariumlaw8.WordTells', WHERE WHAT IT READS IS OF BULK AT MOST 1048576: true; the input reads as it did. -/
def wordTellsUptoRow : OpenClaim := { program := "ytmgeangfplgcbaa", sum := "961064d7685d9c2e80391c25d0d7a1c23a90673ed42bd9dff27968107b3999c5", func := "horarium/horariumlaw8.WordTells", spec := "wordTells", apart := false, narrowed := true }
def WordTellsUptoSaid : Prop := wordTellsUptoRow.holds Try.pinned (OpenSpec.upto wordTellsSpec)

/-- 'horariumlaw8.WordTurns', WHERE WHAT IT READS IS OF BULK AT MOST 1048576: true; the input reads as it did. -/
def wordTurnsUptoRow : OpenClaim := { program := "ytmgeangfplgcbaa", sum := "961064d7685d9c2e80391c25d0d7a1c23a90673ed42bd9dff27968107b3999c5", func := "horarium/horariumlaw8.WordTurns", spec := "wordTurns", apart := false, narrowed := true }
def WordTurnsUptoSaid : Prop := wordTurnsUptoRow.holds Try.pinned (OpenSpec.upto wordTurnsSpec)

/-- 'horariumlaw8.WordOrder', WHERE WHAT IT READS IS OF BULK AT MOST 1048576: true; the input reads as it did. -/
def wordOrderUptoRow : OpenClaim := { program := "ytmgeangfplgcbaa", sum := "961064d7685d9c2e80391c25d0d7a1c23a90673ed42bd9dff27968107b3999c5", func := "horarium/horariumlaw8.WordOrder", spec := "wordOrder", apart := false, narrowed := true }
def WordOrderUptoSaid : Prop := wordOrderUptoRow.holds Try.pinned (OpenSpec.upto wordOrderSpec)

/-- 'horariumlaw8.WordMoved', WHERE WHAT IT READS IS OF BULK AT MOST 1048576: true; the input reads as it did. -/
def wordMovedUptoRow : OpenClaim := { program := "ytmgeangfplgcbaa", sum := "961064d7685d9c2e80391c25d0d7a1c23a90673ed42bd9dff27968107b3999c5", func := "horarium/horariumlaw8.WordMoved", spec := "wordMoved", apart := false, narrowed := true }
def WordMovedUptoSaid : Prop := wordMovedUptoRow.holds Try.pinned (OpenSpec.upto wordMovedSpec)

/-- 'horariumlaw8.WordParts', WHERE WHAT IT READS IS OF BULK AT MOST 1048576: true; the input reads as it did. -/
def wordPartsUptoRow : OpenClaim := { program := "ytmgeangfplgcbaa", sum := "961064d7685d9c2e80391c25d0d7a1c23a90673ed42bd9dff27968107b3999c5", func := "horarium/horariumlaw8.WordParts", spec := "wordParts", apart := false, narrowed := true }
def WordPartsUptoSaid : Prop := wordPartsUptoRow.holds Try.pinned (OpenSpec.upto wordPartsSpec)

end Rows
end Go.Proofs.Ytmgeangfplgcbaa
