/-
  No cell of these rows narrows 'for every input' (looked for: loops, veiled, ifaces, maps, wideKeys, modest, calm, conditions, laid).
  DERIVED. THE GIVEN ROWS OF THIS SEAT. 7 by the template 'for every input the law returns true; each argument reads behind the call as it read before'; 0 by the template 'total and deterministic' (their statements: YtnbfhdapdlpgiaaTotals.lean).
  GIVEN WITH THE SEED: the statements are not yours to turn. If you find one false, say at which input.
  Laid BY PROGRAM, IN A SANDBOX (cutbox-rows.mjs): the forced cells as the released guide's own fill.sh prints them over the translation 6570abc3d4b6bc22… (all of the seat's roots in one cut). By AI agents, Wed Nov 11 2026. No macro, syntax, notation, axiom, sorry.
-/
import Derived.Test.YtnbfhdapdlpgiaaChecked
import GoSem.Claim
import GoSem.ClaimJoined
import GoSem.ClaimMapViews
import Derived.JoinedTies
import Derived.KernelRfl
namespace Go.Proofs.Ytnbfhdapdlpgiaa
/- THE CELL 'sum', in the pinned program and in every row, IS THE sha256 OF THE DUMP (.gsa) THAT YtnbfhdapdlpgiaaProg.lean LOADS. Nothing in Lean hashes anything: it is a label: what it is worth is what the hold of that sum in a sandbox is worth. -/
noncomputable def Try.pinned : Pinned := { name := "ytnbfhdapdlpgiaa", sum := "6570abc3d4b6bc22c085d8a548334652b95457babc6c8f2d128d61beb7da8364", checked := Try.checked }
namespace Rows
def none {H : Type} : Left H := { results := [], args := [] }

/-- 'cnclaw15.PocketRings': WHATEVER THE INPUT: true; the input reads as it did. -/
def pocketRingsSpec : ChangeSpec := { name := "pocketRings", fn := fun _ => fun
  | [d1, d2] => { results := [.lit (.bool true)], args := [d1, d2] }
  | _ => none }
def pocketRingsRow : OpenClaim := { program := "ytnbfhdapdlpgiaa", sum := "6570abc3d4b6bc22c085d8a548334652b95457babc6c8f2d128d61beb7da8364", func := "cnc/cnclaw15.PocketRings", spec := "pocketRings", unfollowed := true, recurses := true, apart := false }
def PocketRingsSaid : Prop := pocketRingsRow.holds Try.pinned (OpenSpec.ofChange pocketRingsSpec)

/-- ITS FALSE NEIGHBOUR: 'it returns false'. Refute it at one input. -/
def pocketRingsWrong : ChangeSpec := { name := "pocketRings", fn := fun _ => fun
  | [d1, d2] => { results := [.lit (.bool false)], args := [d1, d2] }
  | _ => none }
def PocketRingsWrongFalsely : Prop := pocketRingsRow.holds Try.pinned (OpenSpec.ofChange pocketRingsWrong)

/-- 'cnclaw15.PocketCircle': WHATEVER THE INPUT: true; the input reads as it did. -/
def pocketCircleSpec : ChangeSpec := { name := "pocketCircle", fn := fun _ => fun
  | [d1, d2, d3] => { results := [.lit (.bool true)], args := [d1, d2, d3] }
  | _ => none }
def pocketCircleRow : OpenClaim := { program := "ytnbfhdapdlpgiaa", sum := "6570abc3d4b6bc22c085d8a548334652b95457babc6c8f2d128d61beb7da8364", func := "cnc/cnclaw15.PocketCircle", spec := "pocketCircle", unfollowed := true, recurses := true, apart := false }
def PocketCircleSaid : Prop := pocketCircleRow.holds Try.pinned (OpenSpec.ofChange pocketCircleSpec)

/-- ITS FALSE NEIGHBOUR: 'it returns false'. Refute it at one input. -/
def pocketCircleWrong : ChangeSpec := { name := "pocketCircle", fn := fun _ => fun
  | [d1, d2, d3] => { results := [.lit (.bool false)], args := [d1, d2, d3] }
  | _ => none }
def PocketCircleWrongFalsely : Prop := pocketCircleRow.holds Try.pinned (OpenSpec.ofChange pocketCircleWrong)

/-- 'cnclaw15.PocketSteps': WHATEVER THE INPUT: true; the input reads as it did. -/
def pocketStepsSpec : ChangeSpec := { name := "pocketSteps", fn := fun _ => fun
  | [d1, d2] => { results := [.lit (.bool true)], args := [d1, d2] }
  | _ => none }
def pocketStepsRow : OpenClaim := { program := "ytnbfhdapdlpgiaa", sum := "6570abc3d4b6bc22c085d8a548334652b95457babc6c8f2d128d61beb7da8364", func := "cnc/cnclaw15.PocketSteps", spec := "pocketSteps", unfollowed := true, recurses := true, apart := false }
def PocketStepsSaid : Prop := pocketStepsRow.holds Try.pinned (OpenSpec.ofChange pocketStepsSpec)

/-- ITS FALSE NEIGHBOUR: 'it returns false'. Refute it at one input. -/
def pocketStepsWrong : ChangeSpec := { name := "pocketSteps", fn := fun _ => fun
  | [d1, d2] => { results := [.lit (.bool false)], args := [d1, d2] }
  | _ => none }
def PocketStepsWrongFalsely : Prop := pocketStepsRow.holds Try.pinned (OpenSpec.ofChange pocketStepsWrong)

/-- 'cnclaw15.PocketRounds': WHATEVER THE INPUT: true; the input reads as it did. -/
def pocketRoundsSpec : ChangeSpec := { name := "pocketRounds", fn := fun _ => fun
  | [d1, d2, d3] => { results := [.lit (.bool true)], args := [d1, d2, d3] }
  | _ => none }
def pocketRoundsRow : OpenClaim := { program := "ytnbfhdapdlpgiaa", sum := "6570abc3d4b6bc22c085d8a548334652b95457babc6c8f2d128d61beb7da8364", func := "cnc/cnclaw15.PocketRounds", spec := "pocketRounds", unfollowed := true, recurses := true, apart := false }
def PocketRoundsSaid : Prop := pocketRoundsRow.holds Try.pinned (OpenSpec.ofChange pocketRoundsSpec)

/-- ITS FALSE NEIGHBOUR: 'it returns false'. Refute it at one input. -/
def pocketRoundsWrong : ChangeSpec := { name := "pocketRounds", fn := fun _ => fun
  | [d1, d2, d3] => { results := [.lit (.bool false)], args := [d1, d2, d3] }
  | _ => none }
def PocketRoundsWrongFalsely : Prop := pocketRoundsRow.holds Try.pinned (OpenSpec.ofChange pocketRoundsWrong)

/-- 'cnclaw15.PocketRectangle': WHATEVER THE INPUT: true; the input reads as it did. -/
def pocketRectangleSpec : ChangeSpec := { name := "pocketRectangle", fn := fun _ => fun
  | [d1, d2, d3, d4] => { results := [.lit (.bool true)], args := [d1, d2, d3, d4] }
  | _ => none }
def pocketRectangleRow : OpenClaim := { program := "ytnbfhdapdlpgiaa", sum := "6570abc3d4b6bc22c085d8a548334652b95457babc6c8f2d128d61beb7da8364", func := "cnc/cnclaw15.PocketRectangle", spec := "pocketRectangle", unfollowed := true, recurses := true, apart := false }
def PocketRectangleSaid : Prop := pocketRectangleRow.holds Try.pinned (OpenSpec.ofChange pocketRectangleSpec)

/-- ITS FALSE NEIGHBOUR: 'it returns false'. Refute it at one input. -/
def pocketRectangleWrong : ChangeSpec := { name := "pocketRectangle", fn := fun _ => fun
  | [d1, d2, d3, d4] => { results := [.lit (.bool false)], args := [d1, d2, d3, d4] }
  | _ => none }
def PocketRectangleWrongFalsely : Prop := pocketRectangleRow.holds Try.pinned (OpenSpec.ofChange pocketRectangleWrong)

/-- 'cnclaw15.PocketWalls': WHATEVER THE INPUT: true; the input reads as it did. -/
def pocketWallsSpec : ChangeSpec := { name := "pocketWalls", fn := fun _ => fun
  | [d1, d2, d3, d4] => { results := [.lit (.bool true)], args := [d1, d2, d3, d4] }
  | _ => none }
def pocketWallsRow : OpenClaim := { program := "ytnbfhdapdlpgiaa", sum := "6570abc3d4b6bc22c085d8a548334652b95457babc6c8f2d128d61beb7da8364", func := "cnc/cnclaw15.PocketWalls", spec := "pocketWalls", unfollowed := true, recurses := true, apart := false }
def PocketWallsSaid : Prop := pocketWallsRow.holds Try.pinned (OpenSpec.ofChange pocketWallsSpec)

/-- ITS FALSE NEIGHBOUR: 'it returns false'. Refute it at one input. -/
def pocketWallsWrong : ChangeSpec := { name := "pocketWalls", fn := fun _ => fun
  | [d1, d2, d3, d4] => { results := [.lit (.bool false)], args := [d1, d2, d3, d4] }
  | _ => none }
def PocketWallsWrongFalsely : Prop := pocketWallsRow.holds Try.pinned (OpenSpec.ofChange pocketWallsWrong)

/-- 'cnclaw15.PocketMoves': WHATEVER THE INPUT: true; the input reads as it did. -/
def pocketMovesSpec : ChangeSpec := { name := "pocketMoves", fn := fun _ => fun
  | [d1, d2, d3, d4, d5, d6] => { results := [.lit (.bool true)], args := [d1, d2, d3, d4, d5, d6] }
  | _ => none }
def pocketMovesRow : OpenClaim := { program := "ytnbfhdapdlpgiaa", sum := "6570abc3d4b6bc22c085d8a548334652b95457babc6c8f2d128d61beb7da8364", func := "cnc/cnclaw15.PocketMoves", spec := "pocketMoves", unfollowed := true, recurses := true, apart := false }
def PocketMovesSaid : Prop := pocketMovesRow.holds Try.pinned (OpenSpec.ofChange pocketMovesSpec)

/-- ITS FALSE NEIGHBOUR: 'it returns false'. Refute it at one input. -/
def pocketMovesWrong : ChangeSpec := { name := "pocketMoves", fn := fun _ => fun
  | [d1, d2, d3, d4, d5, d6] => { results := [.lit (.bool false)], args := [d1, d2, d3, d4, d5, d6] }
  | _ => none }
def PocketMovesWrongFalsely : Prop := pocketMovesRow.holds Try.pinned (OpenSpec.ofChange pocketMovesWrong)

/- THE SECOND FORM. 'bulk': how many values and letters a reading holds, each counted each time it is reached (what is shared counts as often as it is met; a slice's spare places count too). A statement '..UptoSaid' is the law's where the arguments, and the package variables that the reading takes, are together of bulk at most 1048576: NARROWER than '..Said'. Prove '..Said' where nothing that the law and all that it calls make is longer than what came in: it says more and counts as full. Else prove '..UptoSaid'. A law counts once. -/
mutual
def uptoBulk {H : Type} : DataW H → Nat
  | .lit (.string bytes) => bytes.length + 1
  | .lit _ => 1
  | .nil => 1
  | .ptr d => uptoBulk d + 1
  | .slice elems spare => uptoBulkAll elems + uptoBulkAll spare + 1
  | .agg parts => uptoBulkAll parts + 1
  | .iface _ d => uptoBulk d + 1
  | .map entries => uptoBulkEntries entries + 1
  | .held _ => 1
def uptoBulkAll {H : Type} : List (DataW H) → Nat
  | [] => 0
  | d :: r => uptoBulk d + uptoBulkAll r
def uptoBulkEntries {H : Type} : List (Lit × DataW H) → Nat
  | [] => 0
  | x :: r => uptoBulkEntry x + uptoBulkEntries r
def uptoBulkEntry {H : Type} : Lit × DataW H → Nat
  | (.string bytes, d) => bytes.length + uptoBulk d + 1
  | (_, d) => uptoBulk d + 1
 end
def uptoSmall : (H : Type) → List (DataW H) → Bool := fun _ ds => decide (uptoBulkAll ds ≤ 1048576)
def OpenSpec.upto (s : _root_.Go.ChangeSpec) : _root_.Go.OpenSpec := { _root_.Go.OpenSpec.ofChange s with cond := some uptoSmall }

/-- 'cnclaw15.PocketRings', WHERE WHAT IT READS IS OF BULK AT MOST 1048576: true; the input reads as it did. -/
def pocketRingsUptoRow : OpenClaim := { program := "ytnbfhdapdlpgiaa", sum := "6570abc3d4b6bc22c085d8a548334652b95457babc6c8f2d128d61beb7da8364", func := "cnc/cnclaw15.PocketRings", spec := "pocketRings", unfollowed := true, recurses := true, apart := false, narrowed := true }
def PocketRingsUptoSaid : Prop := pocketRingsUptoRow.holds Try.pinned (OpenSpec.upto pocketRingsSpec)

/-- 'cnclaw15.PocketCircle', WHERE WHAT IT READS IS OF BULK AT MOST 1048576: true; the input reads as it did. -/
def pocketCircleUptoRow : OpenClaim := { program := "ytnbfhdapdlpgiaa", sum := "6570abc3d4b6bc22c085d8a548334652b95457babc6c8f2d128d61beb7da8364", func := "cnc/cnclaw15.PocketCircle", spec := "pocketCircle", unfollowed := true, recurses := true, apart := false, narrowed := true }
def PocketCircleUptoSaid : Prop := pocketCircleUptoRow.holds Try.pinned (OpenSpec.upto pocketCircleSpec)

/-- 'cnclaw15.PocketSteps', WHERE WHAT IT READS IS OF BULK AT MOST 1048576: true; the input reads as it did. -/
def pocketStepsUptoRow : OpenClaim := { program := "ytnbfhdapdlpgiaa", sum := "6570abc3d4b6bc22c085d8a548334652b95457babc6c8f2d128d61beb7da8364", func := "cnc/cnclaw15.PocketSteps", spec := "pocketSteps", unfollowed := true, recurses := true, apart := false, narrowed := true }
def PocketStepsUptoSaid : Prop := pocketStepsUptoRow.holds Try.pinned (OpenSpec.upto pocketStepsSpec)

/-- 'cnclaw15.PocketRounds', WHERE WHAT IT READS IS OF BULK AT MOST 1048576: true; the input reads as it did. -/
def pocketRoundsUptoRow : OpenClaim := { program := "ytnbfhdapdlpgiaa", sum := "6570abc3d4b6bc22c085d8a548334652b95457babc6c8f2d128d61beb7da8364", func := "cnc/cnclaw15.PocketRounds", spec := "pocketRounds", unfollowed := true, recurses := true, apart := false, narrowed := true }
def PocketRoundsUptoSaid : Prop := pocketRoundsUptoRow.holds Try.pinned (OpenSpec.upto pocketRoundsSpec)

/-- 'cnclaw15.PocketRectangle', WHERE WHAT IT READS IS OF BULK AT MOST 1048576: true; the input reads as it did. -/
def pocketRectangleUptoRow : OpenClaim := { program := "ytnbfhdapdlpgiaa", sum := "6570abc3d4b6bc22c085d8a548334652b95457babc6c8f2d128d61beb7da8364", func := "cnc/cnclaw15.PocketRectangle", spec := "pocketRectangle", unfollowed := true, recurses := true, apart := false, narrowed := true }
def PocketRectangleUptoSaid : Prop := pocketRectangleUptoRow.holds Try.pinned (OpenSpec.upto pocketRectangleSpec)

/-- 'cnclaw15.PocketWalls', WHERE WHAT IT READS IS OF BULK AT MOST 1048576: true; the input reads as it did. -/
def pocketWallsUptoRow : OpenClaim := { program := "ytnbfhdapdlpgiaa", sum := "6570abc3d4b6bc22c085d8a548334652b95457babc6c8f2d128d61beb7da8364", func := "cnc/cnclaw15.PocketWalls", spec := "pocketWalls", unfollowed := true, recurses := true, apart := false, narrowed := true }
def PocketWallsUptoSaid : Prop := pocketWallsUptoRow.holds Try.pinned (OpenSpec.upto pocketWallsSpec)

/-- 'cnclaw15.PocketMoves', WHERE WHAT IT READS IS OF BULK AT MOST 1048576: true; the input reads as it did. -/
def pocketMovesUptoRow : OpenClaim := { program := "ytnbfhdapdlpgiaa", sum := "6570abc3d4b6bc22c085d8a548334652b95457babc6c8f2d128d61beb7da8364", func := "cnc/cnclaw15.PocketMoves", spec := "pocketMoves", unfollowed := true, recurses := true, apart := false, narrowed := true }
def PocketMovesUptoSaid : Prop := pocketMovesUptoRow.holds Try.pinned (OpenSpec.upto pocketMovesSpec)

end Rows
end Go.Proofs.Ytnbfhdapdlpgiaa
