/-
  No cell of these rows narrows 'for every input' (looked for: loops, veiled, ifaces, maps, wideKeys, modest, calm, conditions, laid).
  DERIVED. THE GIVEN ROWS OF THIS SEAT. 5 by the template 'for every input the law returns true; each argument reads behind the call as it read before'; 0 by the template 'total and deterministic' (their statements: YtldhombnpjcgoaaTotals.lean).
  GIVEN WITH THE SEED: the statements are not yours to turn. If you find one false, say at which input.
  Laid BY PROGRAM, IN A SANDBOX (cutbox-rows.mjs): the forced cells as the released guide's own fill.sh prints them over the translation 3c7ff6a118faca1e… (all of the seat's roots in one cut). By AI agents, Wed Nov 11 2026. No macro, syntax, notation, axiom, sorry.
-/
import Derived.Test.YtldhombnpjcgoaaChecked
import GoSem.Claim
import GoSem.ClaimJoined
import GoSem.ClaimMapViews
import Derived.JoinedTies
import Derived.KernelRfl
namespace Go.Proofs.Ytldhombnpjcgoaa
/- THE CELL 'sum', in the pinned program and in every row, IS THE sha256 OF THE DUMP (.gsa) THAT YtldhombnpjcgoaaProg.lean LOADS. Nothing in Lean hashes anything: it is a label: what it is worth is what the hold of that sum in a sandbox is worth. -/
noncomputable def Try.pinned : Pinned := { name := "ytldhombnpjcgoaa", sum := "3c7ff6a118faca1ee702d63f4a01e5f8ec3090b57721ca9e73e7632858d3ae1b", checked := Try.checked }
namespace Rows
def none {H : Type} : Left H := { results := [], args := [] }

/-- 'horariumlaw15.IsaNumbers': WHATEVER THE INPUT: true; the input reads as it did. -/
def isaNumbersSpec : ChangeSpec := { name := "isaNumbers", fn := fun _ => fun
  | [] => { results := [.lit (.bool true)], args := [] }
  | _ => none }
def isaNumbersRow : OpenClaim := { program := "ytldhombnpjcgoaa", sum := "3c7ff6a118faca1ee702d63f4a01e5f8ec3090b57721ca9e73e7632858d3ae1b", func := "horarium/horariumlaw15.IsaNumbers", spec := "isaNumbers", apart := false }
def IsaNumbersSaid : Prop := isaNumbersRow.holds Try.pinned (OpenSpec.ofChange isaNumbersSpec)

/-- ITS FALSE NEIGHBOUR: 'it returns false'. Refute it at one input. -/
def isaNumbersWrong : ChangeSpec := { name := "isaNumbers", fn := fun _ => fun
  | [] => { results := [.lit (.bool false)], args := [] }
  | _ => none }
def IsaNumbersWrongFalsely : Prop := isaNumbersRow.holds Try.pinned (OpenSpec.ofChange isaNumbersWrong)

/-- 'horariumlaw15.IsaTells': WHATEVER THE INPUT: true; the input reads as it did. -/
def isaTellsSpec : ChangeSpec := { name := "isaTells", fn := fun _ => fun
  | [d1, d2, d3] => { results := [.lit (.bool true)], args := [d1, d2, d3] }
  | _ => none }
def isaTellsRow : OpenClaim := { program := "ytldhombnpjcgoaa", sum := "3c7ff6a118faca1ee702d63f4a01e5f8ec3090b57721ca9e73e7632858d3ae1b", func := "horarium/horariumlaw15.IsaTells", spec := "isaTells", apart := false }
def IsaTellsSaid : Prop := isaTellsRow.holds Try.pinned (OpenSpec.ofChange isaTellsSpec)

/-- ITS FALSE NEIGHBOUR: 'it returns false'. Refute it at one input. -/
def isaTellsWrong : ChangeSpec := { name := "isaTells", fn := fun _ => fun
  | [d1, d2, d3] => { results := [.lit (.bool false)], args := [d1, d2, d3] }
  | _ => none }
def IsaTellsWrongFalsely : Prop := isaTellsRow.holds Try.pinned (OpenSpec.ofChange isaTellsWrong)

/-- 'horariumlaw15.IsaBack': WHATEVER THE INPUT: true; the input reads as it did. -/
def isaBackSpec : ChangeSpec := { name := "isaBack", fn := fun _ => fun
  | [d1, d2] => { results := [.lit (.bool true)], args := [d1, d2] }
  | _ => none }
def isaBackRow : OpenClaim := { program := "ytldhombnpjcgoaa", sum := "3c7ff6a118faca1ee702d63f4a01e5f8ec3090b57721ca9e73e7632858d3ae1b", func := "horarium/horariumlaw15.IsaBack", spec := "isaBack", apart := false }
def IsaBackSaid : Prop := isaBackRow.holds Try.pinned (OpenSpec.ofChange isaBackSpec)

/-- ITS FALSE NEIGHBOUR: 'it returns false'. Refute it at one input. -/
def isaBackWrong : ChangeSpec := { name := "isaBack", fn := fun _ => fun
  | [d1, d2] => { results := [.lit (.bool false)], args := [d1, d2] }
  | _ => none }
def IsaBackWrongFalsely : Prop := isaBackRow.holds Try.pinned (OpenSpec.ofChange isaBackWrong)

/-- 'horariumlaw15.IsaRegs': WHATEVER THE INPUT: true; the input reads as it did. -/
def isaRegsSpec : ChangeSpec := { name := "isaRegs", fn := fun _ => fun
  | [d1, d2, d3, d4] => { results := [.lit (.bool true)], args := [d1, d2, d3, d4] }
  | _ => none }
def isaRegsRow : OpenClaim := { program := "ytldhombnpjcgoaa", sum := "3c7ff6a118faca1ee702d63f4a01e5f8ec3090b57721ca9e73e7632858d3ae1b", func := "horarium/horariumlaw15.IsaRegs", spec := "isaRegs", apart := false }
def IsaRegsSaid : Prop := isaRegsRow.holds Try.pinned (OpenSpec.ofChange isaRegsSpec)

/-- ITS FALSE NEIGHBOUR: 'it returns false'. Refute it at one input. -/
def isaRegsWrong : ChangeSpec := { name := "isaRegs", fn := fun _ => fun
  | [d1, d2, d3, d4] => { results := [.lit (.bool false)], args := [d1, d2, d3, d4] }
  | _ => none }
def IsaRegsWrongFalsely : Prop := isaRegsRow.holds Try.pinned (OpenSpec.ofChange isaRegsWrong)

/-- 'horariumlaw15.IsaImms': WHATEVER THE INPUT: true; the input reads as it did. -/
def isaImmsSpec : ChangeSpec := { name := "isaImms", fn := fun _ => fun
  | [d1, d2] => { results := [.lit (.bool true)], args := [d1, d2] }
  | _ => none }
def isaImmsRow : OpenClaim := { program := "ytldhombnpjcgoaa", sum := "3c7ff6a118faca1ee702d63f4a01e5f8ec3090b57721ca9e73e7632858d3ae1b", func := "horarium/horariumlaw15.IsaImms", spec := "isaImms", apart := false }
def IsaImmsSaid : Prop := isaImmsRow.holds Try.pinned (OpenSpec.ofChange isaImmsSpec)

/-- ITS FALSE NEIGHBOUR: 'it returns false'. Refute it at one input. -/
def isaImmsWrong : ChangeSpec := { name := "isaImms", fn := fun _ => fun
  | [d1, d2] => { results := [.lit (.bool false)], args := [d1, d2] }
  | _ => none }
def IsaImmsWrongFalsely : Prop := isaImmsRow.holds Try.pinned (OpenSpec.ofChange isaImmsWrong)

/- THE SECOND FORM. 'bulk': how many values and letters a reading holds, each counted each time it is reached (what is shared counts as often as it is met; a slice's spare places count too). A statement '..UptoSaid' is the law's where the arguments, and the package variables that the reading takes, are together of bulk at most 1048576: NARROWER than '..Said'. Prove '..Said' where nothing that the law and all that it calls make is longer than what came in: it says more and counts as full. Else prove '..UptoSaid'. A law counts once. -/
mutual
def uptoBulk {H : Type} : DataW H → Nat
  | .lit (.string bytes) => bytes.length + 1
  | .lit _ => 1
  | .nil => 1
  | .ptr d => uptoBulk d + 1
  | .slice elems spare => uptoBulkAll elems + uptoBulkAll spare + 1
  | .agg parts => uptoBulkAll parts + 1
  | .iface _ d => uptoBulk d + 1
  | .map entries => uptoBulkEntries entries + 1
  | .held _ => 1
def uptoBulkAll {H : Type} : List (DataW H) → Nat
  | [] => 0
  | d :: r => uptoBulk d + uptoBulkAll r
def uptoBulkEntries {H : Type} : List (Lit × DataW H) → Nat
  | [] => 0
  | x :: r => uptoBulkEntry x + uptoBulkEntries r
def uptoBulkEntry {H : Type} : Lit × DataW H → Nat
  | (.string bytes, d) => bytes.length + uptoBulk d + 1
  | (_, d) => uptoBulk d + 1
 end
def uptoSmall : (H : Type) → List (DataW H) → Bool := fun _ ds => decide (uptoBulkAll ds ≤ 1048576)
def OpenSpec.upto (s : _root_.Go.ChangeSpec) : _root_.Go.OpenSpec := { _root_.Go.OpenSpec.ofChange s with cond := some uptoSmall }

/-- 'horariumlaw15.IsaNumbers', WHERE WHAT IT READS IS OF BULK AT MOST 1048576: true; the input reads as it did. -/
def isaNumbersUptoRow : OpenClaim := { program := "ytldhombnpjcgoaa", sum := "3c7ff6a118faca1ee702d63f4a01e5f8ec3090b57721ca9e73e7632858d3ae1b", func := "horarium/horariumlaw15.IsaNumbers", spec := "isaNumbers", apart := false, narrowed := true }
def IsaNumbersUptoSaid : Prop := isaNumbersUptoRow.holds Try.pinned (OpenSpec.upto isaNumbersSpec)

/-- 'horariumlaw15.IsaTells', WHERE WHAT IT READS IS OF BULK AT MOST 1048576: true; the input reads as it did. -/
def isaTellsUptoRow : OpenClaim := { program := "ytldhombnpjcgoaa", sum := "3c7ff6a118faca1ee702d63f4a01e5f8ec3090b57721ca9e73e7632858d3ae1b", func := "horarium/horariumlaw15.IsaTells", spec := "isaTells", apart := false, narrowed := true }
def IsaTellsUptoSaid : Prop := isaTellsUptoRow.holds Try.pinned (OpenSpec.upto isaTellsSpec)

/-- 'horariumlaw15.IsaBack', WHERE WHAT IT READS IS OF BULK AT MOST 1048576: true; the input reads as it did. -/
def isaBackUptoRow : OpenClaim := { program := "ytldhombnpjcgoaa", sum := "3c7ff6a118faca1ee702d63f4a01e5f8ec3090b57721ca9e73e7632858d3ae1b", func := "horarium/horariumlaw15.IsaBack", spec := "isaBack", apart := false, narrowed := true }
def IsaBackUptoSaid : Prop := isaBackUptoRow.holds Try.pinned (OpenSpec.upto isaBackSpec)

/-- 'horariumlaw15.IsaRegs', WHERE WHAT IT READS IS OF BULK AT MOST 1048576: true; the input reads as it did. -/
def isaRegsUptoRow : OpenClaim := { program := "ytldhombnpjcgoaa", sum := "3c7ff6a118faca1ee702d63f4a01e5f8ec3090b57721ca9e73e7632858d3ae1b", func := "horarium/horariumlaw15.IsaRegs", spec := "isaRegs", apart := false, narrowed := true }
def IsaRegsUptoSaid : Prop := isaRegsUptoRow.holds Try.pinned (OpenSpec.upto isaRegsSpec)

/-- 'horariumlaw15.IsaImms', WHERE WHAT IT READS IS OF BULK AT MOST 1048576: true; the input reads as it did. -/
def isaImmsUptoRow : OpenClaim := { program := "ytldhombnpjcgoaa", sum := "3c7ff6a118faca1ee702d63f4a01e5f8ec3090b57721ca9e73e7632858d3ae1b", func := "horarium/horariumlaw15.IsaImms", spec := "isaImms", apart := false, narrowed := true }
def IsaImmsUptoSaid : Prop := isaImmsUptoRow.holds Try.pinned (OpenSpec.upto isaImmsSpec)

end Rows
end Go.Proofs.Ytldhombnpjcgoaa
