/-
  No cell of these rows narrows 'for every input' (looked for: loops, veiled, ifaces, maps, wideKeys, modest, calm, conditions, laid).
  DERIVED. THE GIVEN ROWS OF THIS SEAT. 5 by the template 'for every input the law returns true; each argument reads behind the call as it read before'; 0 by the template 'total and deterministic' (their statements: YtdopbdcfompodaaTotals.lean).
  GIVEN WITH THE SEED: the statements are not yours to turn. If you find one false, say at which input.
  Laid BY PROGRAM, IN A SANDBOX (cutbox-rows.mjs): the forced cells as the released guide's own fill.sh prints them over the translation d90c39552d4cc25c… (all of the seat's roots in one cut). By AI agents, Wed Nov 11 2026. No macro, syntax, notation, axiom, sorry.
-/
import Derived.Test.YtdopbdcfompodaaChecked
import GoSem.Claim
import GoSem.ClaimJoined
import GoSem.ClaimMapViews
import Derived.JoinedTies
import Derived.KernelRfl
namespace Go.Proofs.Ytdopbdcfompodaa
/- THE CELL 'sum', in the pinned program and in every row, IS THE sha256 OF THE DUMP (.gsa) THAT YtdopbdcfompodaaProg.lean LOADS. Nothing in Lean hashes anything: it is a label: what it is worth is what the hold of that sum in a sandbox is worth. -/
noncomputable def Try.pinned : Pinned := { name := "ytdopbdcfompodaa", sum := "d90c39552d4cc25ceec03252f8cde9c64db5c7fb2e4fb63abeab4485887b0855", checked := Try.checked }
namespace Rows
def none {H : Type} : Left H := { results := [], args := [] }

/-- 'cnclaw26.AxisSteps': WHATEVER THE INPUT: true; the input reads as it did. -/
def axisStepsSpec : ChangeSpec := { name := "axisSteps", fn := fun _ => fun
  | [d1, d2] => { results := [.lit (.bool true)], args := [d1, d2] }
  | _ => none }
def axisStepsRow : OpenClaim := { program := "ytdopbdcfompodaa", sum := "d90c39552d4cc25ceec03252f8cde9c64db5c7fb2e4fb63abeab4485887b0855", func := "cnc/cnclaw26.AxisSteps", spec := "axisSteps", apart := false }
def AxisStepsSaid : Prop := axisStepsRow.holds Try.pinned (OpenSpec.ofChange axisStepsSpec)

/-- ITS FALSE NEIGHBOUR: 'it returns false'. Refute it at one input. -/
def axisStepsWrong : ChangeSpec := { name := "axisSteps", fn := fun _ => fun
  | [d1, d2] => { results := [.lit (.bool false)], args := [d1, d2] }
  | _ => none }
def AxisStepsWrongFalsely : Prop := axisStepsRow.holds Try.pinned (OpenSpec.ofChange axisStepsWrong)

/-- 'cnclaw26.AxisNearest': WHATEVER THE INPUT: true; the input reads as it did. -/
def axisNearestSpec : ChangeSpec := { name := "axisNearest", fn := fun _ => fun
  | [d1, d2] => { results := [.lit (.bool true)], args := [d1, d2] }
  | _ => none }
def axisNearestRow : OpenClaim := { program := "ytdopbdcfompodaa", sum := "d90c39552d4cc25ceec03252f8cde9c64db5c7fb2e4fb63abeab4485887b0855", func := "cnc/cnclaw26.AxisNearest", spec := "axisNearest", apart := false }
def AxisNearestSaid : Prop := axisNearestRow.holds Try.pinned (OpenSpec.ofChange axisNearestSpec)

/-- ITS FALSE NEIGHBOUR: 'it returns false'. Refute it at one input. -/
def axisNearestWrong : ChangeSpec := { name := "axisNearest", fn := fun _ => fun
  | [d1, d2] => { results := [.lit (.bool false)], args := [d1, d2] }
  | _ => none }
def AxisNearestWrongFalsely : Prop := axisNearestRow.holds Try.pinned (OpenSpec.ofChange axisNearestWrong)

/-- 'cnclaw26.AxisMonotone': WHATEVER THE INPUT: true; the input reads as it did. -/
def axisMonotoneSpec : ChangeSpec := { name := "axisMonotone", fn := fun _ => fun
  | [d1, d2, d3] => { results := [.lit (.bool true)], args := [d1, d2, d3] }
  | _ => none }
def axisMonotoneRow : OpenClaim := { program := "ytdopbdcfompodaa", sum := "d90c39552d4cc25ceec03252f8cde9c64db5c7fb2e4fb63abeab4485887b0855", func := "cnc/cnclaw26.AxisMonotone", spec := "axisMonotone", apart := false }
def AxisMonotoneSaid : Prop := axisMonotoneRow.holds Try.pinned (OpenSpec.ofChange axisMonotoneSpec)

/-- ITS FALSE NEIGHBOUR: 'it returns false'. Refute it at one input. -/
def axisMonotoneWrong : ChangeSpec := { name := "axisMonotone", fn := fun _ => fun
  | [d1, d2, d3] => { results := [.lit (.bool false)], args := [d1, d2, d3] }
  | _ => none }
def AxisMonotoneWrongFalsely : Prop := axisMonotoneRow.holds Try.pinned (OpenSpec.ofChange axisMonotoneWrong)

/-- 'cnclaw26.AxisInside': WHATEVER THE INPUT: true; the input reads as it did. -/
def axisInsideSpec : ChangeSpec := { name := "axisInside", fn := fun _ => fun
  | [d1, d2] => { results := [.lit (.bool true)], args := [d1, d2] }
  | _ => none }
def axisInsideRow : OpenClaim := { program := "ytdopbdcfompodaa", sum := "d90c39552d4cc25ceec03252f8cde9c64db5c7fb2e4fb63abeab4485887b0855", func := "cnc/cnclaw26.AxisInside", spec := "axisInside", apart := false }
def AxisInsideSaid : Prop := axisInsideRow.holds Try.pinned (OpenSpec.ofChange axisInsideSpec)

/-- ITS FALSE NEIGHBOUR: 'it returns false'. Refute it at one input. -/
def axisInsideWrong : ChangeSpec := { name := "axisInside", fn := fun _ => fun
  | [d1, d2] => { results := [.lit (.bool false)], args := [d1, d2] }
  | _ => none }
def AxisInsideWrongFalsely : Prop := axisInsideRow.holds Try.pinned (OpenSpec.ofChange axisInsideWrong)

/-- 'cnclaw26.AxisValid': WHATEVER THE INPUT: true; the input reads as it did. -/
def axisValidSpec : ChangeSpec := { name := "axisValid", fn := fun _ => fun
  | [d1, d2, d3, d4] => { results := [.lit (.bool true)], args := [d1, d2, d3, d4] }
  | _ => none }
def axisValidRow : OpenClaim := { program := "ytdopbdcfompodaa", sum := "d90c39552d4cc25ceec03252f8cde9c64db5c7fb2e4fb63abeab4485887b0855", func := "cnc/cnclaw26.AxisValid", spec := "axisValid", apart := false }
def AxisValidSaid : Prop := axisValidRow.holds Try.pinned (OpenSpec.ofChange axisValidSpec)

/-- ITS FALSE NEIGHBOUR: 'it returns false'. Refute it at one input. -/
def axisValidWrong : ChangeSpec := { name := "axisValid", fn := fun _ => fun
  | [d1, d2, d3, d4] => { results := [.lit (.bool false)], args := [d1, d2, d3, d4] }
  | _ => none }
def AxisValidWrongFalsely : Prop := axisValidRow.holds Try.pinned (OpenSpec.ofChange axisValidWrong)

/- THE SECOND FORM. 'bulk': how many values and letters a reading holds, each counted each time it is reached (what is shared counts as often as it is met; a slice's spare places count too). A statement '..UptoSaid' is the law's where the arguments, and the package variables that the reading takes, are together of bulk at most 1048576: NARROWER than '..Said'. Prove '..Said' where nothing that the law and all that it calls make is longer than what came in: it says more and counts as full. Else prove '..UptoSaid'. A law counts once. -/
mutual
def uptoBulk {H : Type} : DataW H → Nat
  | .lit (.string bytes) => bytes.length + 1
  | .lit _ => 1
  | .nil => 1
  | .ptr d => uptoBulk d + 1
  | .slice elems spare => uptoBulkAll elems + uptoBulkAll spare + 1
  | .agg parts => uptoBulkAll parts + 1
  | .iface _ d => uptoBulk d + 1
  | .map entries => uptoBulkEntries entries + 1
  | .held _ => 1
def uptoBulkAll {H : Type} : List (DataW H) → Nat
  | [] => 0
  | d :: r => uptoBulk d + uptoBulkAll r
def uptoBulkEntries {H : Type} : List (Lit × DataW H) → Nat
  | [] => 0
  | x :: r => uptoBulkEntry x + uptoBulkEntries r
def uptoBulkEntry {H : Type} : Lit × DataW H → Nat
  | (.string bytes, d) => bytes.length + uptoBulk d + 1
  | (_, d) => uptoBulk d + 1
 end
def uptoSmall : (H : Type) → List (DataW H) → Bool := fun _ ds => decide (uptoBulkAll ds ≤ 1048576)
def OpenSpec.upto (s : _root_.Go.ChangeSpec) : _root_.Go.OpenSpec := { _root_.Go.OpenSpec.ofChange s with cond := some uptoSmall }

/-- 'cnclaw26.AxisSteps', WHERE WHAT IT READS IS OF BULK AT MOST 1048576: true; the input reads as it did. -/
def axisStepsUptoRow : OpenClaim := { program := "ytdopbdcfompodaa", sum := "d90c39552d4cc25ceec03252f8cde9c64db5c7fb2e4fb63abeab4485887b0855", func := "cnc/cnclaw26.AxisSteps", spec := "axisSteps", apart := false, narrowed := true }
def AxisStepsUptoSaid : Prop := axisStepsUptoRow.holds Try.pinned (OpenSpec.upto axisStepsSpec)

/-- 'cnclaw26.AxisNearest', WHERE WHAT IT READS IS OF BULK AT MOST 1048576: true; the input reads as it did. -/
def axisNearestUptoRow : OpenClaim := { program := "ytdopbdcfompodaa", sum := "d90c39552d4cc25ceec03252f8cde9c64db5c7fb2e4fb63abeab4485887b0855", func := "cnc/cnclaw26.AxisNearest", spec := "axisNearest", apart := false, narrowed := true }
def AxisNearestUptoSaid : Prop := axisNearestUptoRow.holds Try.pinned (OpenSpec.upto axisNearestSpec)

/-- 'cnclaw26.AxisMonotone', WHERE WHAT IT READS IS OF BULK AT MOST 1048576: true; the input reads as it did. -/
def axisMonotoneUptoRow : OpenClaim := { program := "ytdopbdcfompodaa", sum := "d90c39552d4cc25ceec03252f8cde9c64db5c7fb2e4fb63abeab4485887b0855", func := "cnc/cnclaw26.AxisMonotone", spec := "axisMonotone", apart := false, narrowed := true }
def AxisMonotoneUptoSaid : Prop := axisMonotoneUptoRow.holds Try.pinned (OpenSpec.upto axisMonotoneSpec)

/-- 'cnclaw26.AxisInside', WHERE WHAT IT READS IS OF BULK AT MOST 1048576: true; the input reads as it did. -/
def axisInsideUptoRow : OpenClaim := { program := "ytdopbdcfompodaa", sum := "d90c39552d4cc25ceec03252f8cde9c64db5c7fb2e4fb63abeab4485887b0855", func := "cnc/cnclaw26.AxisInside", spec := "axisInside", apart := false, narrowed := true }
def AxisInsideUptoSaid : Prop := axisInsideUptoRow.holds Try.pinned (OpenSpec.upto axisInsideSpec)

/-- 'cnclaw26.AxisValid', WHERE WHAT IT READS IS OF BULK AT MOST 1048576: true; the input reads as it did. -/
def axisValidUptoRow : OpenClaim := { program := "ytdopbdcfompodaa", sum := "d90c39552d4cc25ceec03252f8cde9c64db5c7fb2e4fb63abeab4485887b0855", func := "cnc/cnclaw26.AxisValid", spec := "axisValid", apart := false, narrowed := true }
def AxisValidUptoSaid : Prop := axisValidUptoRow.holds Try.pinned (OpenSpec.upto axisValidSpec)

end Rows
end Go.Proofs.Ytdopbdcfompodaa
