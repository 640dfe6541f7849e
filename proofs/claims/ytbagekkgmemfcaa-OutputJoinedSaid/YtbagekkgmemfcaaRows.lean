/-
  No cell of these rows narrows 'for every input' (looked for: loops, veiled, ifaces, maps, wideKeys, modest, calm, conditions, laid).
  DERIVED. THE GIVEN ROWS OF THIS SEAT. 4 by the template 'for every input the law returns true; each argument reads behind the call as it read before'; 0 by the template 'total and deterministic' (their statements: YtbagekkgmemfcaaTotals.lean).
  GIVEN WITH THE SEED: the statements are not yours to turn. If you find one false, say at which input.
  Laid BY PROGRAM, IN A SANDBOX (cutbox-rows.mjs): the forced cells as the released guide's own fill.sh prints them over the translation ad16a2f031558034… (all of the seat's roots in one cut). By AI agents, Wed Nov 11 2026. No macro, syntax, notation, axiom, sorry.
-/
import Derived.Test.YtbagekkgmemfcaaChecked
import GoSem.Claim
import GoSem.ClaimJoined
import GoSem.ClaimMapViews
import Derived.JoinedTies
import Derived.KernelRfl
namespace Go.Proofs.Ytbagekkgmemfcaa
/- THE CELL 'sum', in the pinned program and in every row, IS THE sha256 OF THE DUMP (.gsa) THAT YtbagekkgmemfcaaProg.lean LOADS. Nothing in Lean hashes anything: it is a label: what it is worth is what the hold of that sum in a sandbox is worth. -/
noncomputable def Try.pinned : Pinned := { name := "ytbagekkgmemfcaa", sum := "ad16a2f03155803440e51d9f1df7feb1a7b06c309907a8fdf719f332aac06239", checked := Try.checked }
namespace Rows
def none {H : Type} : Left H := { results := [], args := [] }

/-- 'cnclaw38.OutputSwitch': WHATEVER THE INPUT: true; the input reads as it did. -/
def outputSwitchSpec : ChangeSpec := { name := "outputSwitch", fn := fun _ => fun
  | [d1, d2] => { results := [.lit (.bool true)], args := [d1, d2] }
  | _ => none }
def outputSwitchRow : OpenClaim := { program := "ytbagekkgmemfcaa", sum := "ad16a2f03155803440e51d9f1df7feb1a7b06c309907a8fdf719f332aac06239", func := "cnc/cnclaw38.OutputSwitch", spec := "outputSwitch", apart := false }
def OutputSwitchSaid : Prop := outputSwitchRow.holds Try.pinned (OpenSpec.ofChange outputSwitchSpec)

/-- ITS FALSE NEIGHBOUR: 'it returns false'. Refute it at one input. -/
def outputSwitchWrong : ChangeSpec := { name := "outputSwitch", fn := fun _ => fun
  | [d1, d2] => { results := [.lit (.bool false)], args := [d1, d2] }
  | _ => none }
def OutputSwitchWrongFalsely : Prop := outputSwitchRow.holds Try.pinned (OpenSpec.ofChange outputSwitchWrong)

/-- 'cnclaw38.OutputLast': WHATEVER THE INPUT: true; the input reads as it did. -/
def outputLastSpec : ChangeSpec := { name := "outputLast", fn := fun _ => fun
  | [d1, d2] => { results := [.lit (.bool true)], args := [d1, d2] }
  | _ => none }
def outputLastRow : OpenClaim := { program := "ytbagekkgmemfcaa", sum := "ad16a2f03155803440e51d9f1df7feb1a7b06c309907a8fdf719f332aac06239", func := "cnc/cnclaw38.OutputLast", spec := "outputLast", apart := false }
def OutputLastSaid : Prop := outputLastRow.holds Try.pinned (OpenSpec.ofChange outputLastSpec)

/-- ITS FALSE NEIGHBOUR: 'it returns false'. Refute it at one input. -/
def outputLastWrong : ChangeSpec := { name := "outputLast", fn := fun _ => fun
  | [d1, d2] => { results := [.lit (.bool false)], args := [d1, d2] }
  | _ => none }
def OutputLastWrongFalsely : Prop := outputLastRow.holds Try.pinned (OpenSpec.ofChange outputLastWrong)

/-- 'cnclaw38.OutputFired': WHATEVER THE INPUT: true; the input reads as it did. -/
def outputFiredSpec : ChangeSpec := { name := "outputFired", fn := fun _ => fun
  | [d1, d2, d3] => { results := [.lit (.bool true)], args := [d1, d2, d3] }
  | _ => none }
def outputFiredRow : OpenClaim := { program := "ytbagekkgmemfcaa", sum := "ad16a2f03155803440e51d9f1df7feb1a7b06c309907a8fdf719f332aac06239", func := "cnc/cnclaw38.OutputFired", spec := "outputFired", apart := false }
def OutputFiredSaid : Prop := outputFiredRow.holds Try.pinned (OpenSpec.ofChange outputFiredSpec)

/-- ITS FALSE NEIGHBOUR: 'it returns false'. Refute it at one input. -/
def outputFiredWrong : ChangeSpec := { name := "outputFired", fn := fun _ => fun
  | [d1, d2, d3] => { results := [.lit (.bool false)], args := [d1, d2, d3] }
  | _ => none }
def OutputFiredWrongFalsely : Prop := outputFiredRow.holds Try.pinned (OpenSpec.ofChange outputFiredWrong)

/-- 'cnclaw38.OutputJoined': WHATEVER THE INPUT: true; the input reads as it did. -/
def outputJoinedSpec : ChangeSpec := { name := "outputJoined", fn := fun _ => fun
  | [d1, d2] => { results := [.lit (.bool true)], args := [d1, d2] }
  | _ => none }
def outputJoinedRow : OpenClaim := { program := "ytbagekkgmemfcaa", sum := "ad16a2f03155803440e51d9f1df7feb1a7b06c309907a8fdf719f332aac06239", func := "cnc/cnclaw38.OutputJoined", spec := "outputJoined", apart := false }
def OutputJoinedSaid : Prop := outputJoinedRow.holds Try.pinned (OpenSpec.ofChange outputJoinedSpec)

/-- ITS FALSE NEIGHBOUR: 'it returns false'. Refute it at one input. -/
def outputJoinedWrong : ChangeSpec := { name := "outputJoined", fn := fun _ => fun
  | [d1, d2] => { results := [.lit (.bool false)], args := [d1, d2] }
  | _ => none }
def OutputJoinedWrongFalsely : Prop := outputJoinedRow.holds Try.pinned (OpenSpec.ofChange outputJoinedWrong)

/- THE SECOND FORM. 'bulk': how many values and letters a reading holds, each counted each time it is reached (what is shared counts as often as it is met; a slice's spare places count too). A statement '..UptoSaid' is the law's where the arguments, and the package variables that the reading takes, are together of bulk at most 1048576: NARROWER than '..Said'. Prove '..Said' where nothing that the law and all that it calls make is longer than what came in: it says more and counts as full. Else prove '..UptoSaid'. A law counts once. -/
mutual
def uptoBulk {H : Type} : DataW H → Nat
  | .lit (.string bytes) => bytes.length + 1
  | .lit _ => 1
  | .nil => 1
  | .ptr d => uptoBulk d + 1
  | .slice elems spare => uptoBulkAll elems + uptoBulkAll spare + 1
  | .agg parts => uptoBulkAll parts + 1
  | .iface _ d => uptoBulk d + 1
  | .map entries => uptoBulkEntries entries + 1
  | .held _ => 1
def uptoBulkAll {H : Type} : List (DataW H) → Nat
  | [] => 0
  | d :: r => uptoBulk d + uptoBulkAll r
def uptoBulkEntries {H : Type} : List (Lit × DataW H) → Nat
  | [] => 0
  | x :: r => uptoBulkEntry x + uptoBulkEntries r
def uptoBulkEntry {H : Type} : Lit × DataW H → Nat
  | (.string bytes, d) => bytes.length + uptoBulk d + 1
  | (_, d) => uptoBulk d + 1
 end
def uptoSmall : (H : Type) → List (DataW H) → Bool := fun _ ds => decide (uptoBulkAll ds ≤ 1048576)
def OpenSpec.upto (s : _root_.Go.ChangeSpec) : _root_.Go.OpenSpec := { _root_.Go.OpenSpec.ofChange s with cond := some uptoSmall }

/-- 'cnclaw38.OutputSwitch', WHERE WHAT IT READS IS OF BULK AT MOST 1048576: true; the input reads as it did. -/
def outputSwitchUptoRow : OpenClaim := { program := "ytbagekkgmemfcaa", sum := "ad16a2f03155803440e51d9f1df7feb1a7b06c309907a8fdf719f332aac06239", func := "cnc/cnclaw38.OutputSwitch", spec := "outputSwitch", apart := false, narrowed := true }
def OutputSwitchUptoSaid : Prop := outputSwitchUptoRow.holds Try.pinned (OpenSpec.upto outputSwitchSpec)

/-- 'cnclaw38.OutputLast', WHERE WHAT IT READS IS OF BULK AT MOST 1048576: true; the input reads as it did. -/
def outputLastUptoRow : OpenClaim := { program := "ytbagekkgmemfcaa", sum := "ad16a2f03155803440e51d9f1df7feb1a7b06c309907a8fdf719f332aac06239", func := "cnc/cnclaw38.OutputLast", spec := "outputLast", apart := false, narrowed := true }
def OutputLastUptoSaid : Prop := outputLastUptoRow.holds Try.pinned (OpenSpec.upto outputLastSpec)

/-- 'cnclaw38.OutputFired', WHERE WHAT IT READS IS OF BULK AT MOST 1048576: true; the input reads as it did. -/
def outputFiredUptoRow : OpenClaim := { program := "ytbagekkgmemfcaa", sum := "ad16a2f03155803440e51d9f1df7feb1a7b06c309907a8fdf719f332aac06239", func := "cnc/cnclaw38.OutputFired", spec := "outputFired", apart := false, narrowed := true }
def OutputFiredUptoSaid : Prop := outputFiredUptoRow.holds Try.pinned (OpenSpec.upto outputFiredSpec)

/-- 'cnclaw38.OutputJoined', WHERE WHAT IT READS IS OF BULK AT MOST 1048576: true; the input reads as it did. -/
def outputJoinedUptoRow : OpenClaim := { program := "ytbagekkgmemfcaa", sum := "ad16a2f03155803440e51d9f1df7feb1a7b06c309907a8fdf719f332aac06239", func := "cnc/cnclaw38.OutputJoined", spec := "outputJoined", apart := false, narrowed := true }
def OutputJoinedUptoSaid : Prop := outputJoinedUptoRow.holds Try.pinned (OpenSpec.upto outputJoinedSpec)

end Rows
end Go.Proofs.Ytbagekkgmemfcaa
