/-
  No cell of these rows narrows 'for every input' (looked for: loops, veiled, ifaces, maps, wideKeys, modest, calm, conditions, laid).
  DERIVED. THE GIVEN ROWS OF THIS SEAT. 5 by the template 'for every input the law returns true; each argument reads behind the call as it read before'; 0 by the template 'total and deterministic' (their statements: YtmfnclkidjfedaaTotals.lean).
  GIVEN WITH THE SEED: the statements are not yours to turn. If you find one false, say at which input.
  Laid BY PROGRAM, IN A SANDBOX (cutbox-rows.mjs): the forced cells as the released guide's own fill.sh prints them over the translation de94a77a2612de71… (all of the seat's roots in one cut). By AI agents, Wed Nov 11 2026. No macro, syntax, notation, axiom, sorry.
-/
import Derived.Test.YtmfnclkidjfedaaChecked
import GoSem.Claim
import GoSem.ClaimJoined
import GoSem.ClaimMapViews
import Derived.JoinedTies
import Derived.KernelRfl
namespace Go.Proofs.Ytmfnclkidjfedaa
/- THE CELL 'sum', in the pinned program and in every row, IS THE sha256 OF THE DUMP (.gsa) THAT YtmfnclkidjfedaaProg.lean LOADS. Nothing in Lean hashes anything: it is a label: what it is worth is what the hold of that sum in a sandbox is worth. -/
noncomputable def Try.pinned : Pinned := { name := "ytmfnclkidjfedaa", sum := "de94a77a2612de719b609fc9eae428ff9da55bad7b847999d2145f4197b20a41", checked := Try.checked }
namespace Rows
def none {H : Type} : Left H := { results := [], args := [] }

/-- 'cnclaw28.BacklashTable': WHATEVER THE INPUT: true; the input reads as it did. -/
def backlashTableSpec : ChangeSpec := { name := "backlashTable", fn := fun _ => fun
  | [d1, d2, d3, d4] => { results := [.lit (.bool true)], args := [d1, d2, d3, d4] }
  | _ => none }
def backlashTableRow : OpenClaim := { program := "ytmfnclkidjfedaa", sum := "de94a77a2612de719b609fc9eae428ff9da55bad7b847999d2145f4197b20a41", func := "cnc/cnclaw28.BacklashTable", spec := "backlashTable", apart := false }
def BacklashTableSaid : Prop := backlashTableRow.holds Try.pinned (OpenSpec.ofChange backlashTableSpec)

/-- ITS FALSE NEIGHBOUR: 'it returns false'. Refute it at one input. -/
def backlashTableWrong : ChangeSpec := { name := "backlashTable", fn := fun _ => fun
  | [d1, d2, d3, d4] => { results := [.lit (.bool false)], args := [d1, d2, d3, d4] }
  | _ => none }
def BacklashTableWrongFalsely : Prop := backlashTableRow.holds Try.pinned (OpenSpec.ofChange backlashTableWrong)

/-- 'cnclaw28.BacklashStays': WHATEVER THE INPUT: true; the input reads as it did. -/
def backlashStaysSpec : ChangeSpec := { name := "backlashStays", fn := fun _ => fun
  | [d1, d2, d3] => { results := [.lit (.bool true)], args := [d1, d2, d3] }
  | _ => none }
def backlashStaysRow : OpenClaim := { program := "ytmfnclkidjfedaa", sum := "de94a77a2612de719b609fc9eae428ff9da55bad7b847999d2145f4197b20a41", func := "cnc/cnclaw28.BacklashStays", spec := "backlashStays", apart := false }
def BacklashStaysSaid : Prop := backlashStaysRow.holds Try.pinned (OpenSpec.ofChange backlashStaysSpec)

/-- ITS FALSE NEIGHBOUR: 'it returns false'. Refute it at one input. -/
def backlashStaysWrong : ChangeSpec := { name := "backlashStays", fn := fun _ => fun
  | [d1, d2, d3] => { results := [.lit (.bool false)], args := [d1, d2, d3] }
  | _ => none }
def BacklashStaysWrongFalsely : Prop := backlashStaysRow.holds Try.pinned (OpenSpec.ofChange backlashStaysWrong)

/-- 'cnclaw28.BacklashGap': WHATEVER THE INPUT: true; the input reads as it did. -/
def backlashGapSpec : ChangeSpec := { name := "backlashGap", fn := fun _ => fun
  | [d1, d2, d3, d4] => { results := [.lit (.bool true)], args := [d1, d2, d3, d4] }
  | _ => none }
def backlashGapRow : OpenClaim := { program := "ytmfnclkidjfedaa", sum := "de94a77a2612de719b609fc9eae428ff9da55bad7b847999d2145f4197b20a41", func := "cnc/cnclaw28.BacklashGap", spec := "backlashGap", apart := false }
def BacklashGapSaid : Prop := backlashGapRow.holds Try.pinned (OpenSpec.ofChange backlashGapSpec)

/-- ITS FALSE NEIGHBOUR: 'it returns false'. Refute it at one input. -/
def backlashGapWrong : ChangeSpec := { name := "backlashGap", fn := fun _ => fun
  | [d1, d2, d3, d4] => { results := [.lit (.bool false)], args := [d1, d2, d3, d4] }
  | _ => none }
def BacklashGapWrongFalsely : Prop := backlashGapRow.holds Try.pinned (OpenSpec.ofChange backlashGapWrong)

/-- 'cnclaw28.BacklashPlay': WHATEVER THE INPUT: true; the input reads as it did. -/
def backlashPlaySpec : ChangeSpec := { name := "backlashPlay", fn := fun _ => fun
  | [d1, d2, d3] => { results := [.lit (.bool true)], args := [d1, d2, d3] }
  | _ => none }
def backlashPlayRow : OpenClaim := { program := "ytmfnclkidjfedaa", sum := "de94a77a2612de719b609fc9eae428ff9da55bad7b847999d2145f4197b20a41", func := "cnc/cnclaw28.BacklashPlay", spec := "backlashPlay", apart := false }
def BacklashPlaySaid : Prop := backlashPlayRow.holds Try.pinned (OpenSpec.ofChange backlashPlaySpec)

/-- ITS FALSE NEIGHBOUR: 'it returns false'. Refute it at one input. -/
def backlashPlayWrong : ChangeSpec := { name := "backlashPlay", fn := fun _ => fun
  | [d1, d2, d3] => { results := [.lit (.bool false)], args := [d1, d2, d3] }
  | _ => none }
def BacklashPlayWrongFalsely : Prop := backlashPlayRow.holds Try.pinned (OpenSpec.ofChange backlashPlayWrong)

/-- 'cnclaw28.BacklashFollows': WHATEVER THE INPUT: true; the input reads as it did. -/
def backlashFollowsSpec : ChangeSpec := { name := "backlashFollows", fn := fun _ => fun
  | [d1, d2, d3] => { results := [.lit (.bool true)], args := [d1, d2, d3] }
  | _ => none }
def backlashFollowsRow : OpenClaim := { program := "ytmfnclkidjfedaa", sum := "de94a77a2612de719b609fc9eae428ff9da55bad7b847999d2145f4197b20a41", func := "cnc/cnclaw28.BacklashFollows", spec := "backlashFollows", apart := false }
def BacklashFollowsSaid : Prop := backlashFollowsRow.holds Try.pinned (OpenSpec.ofChange backlashFollowsSpec)

/-- ITS FALSE NEIGHBOUR: 'it returns false'. Refute it at one input. -/
def backlashFollowsWrong : ChangeSpec := { name := "backlashFollows", fn := fun _ => fun
  | [d1, d2, d3] => { results := [.lit (.bool false)], args := [d1, d2, d3] }
  | _ => none }
def BacklashFollowsWrongFalsely : Prop := backlashFollowsRow.holds Try.pinned (OpenSpec.ofChange backlashFollowsWrong)

/- THE SECOND FORM. 'bulk': how many values and letters a reading holds, each counted each time it is reached (what is shared counts as often as it is met; a slice's spare places count too). A statement '..UptoSaid' is the law's where the arguments, and the package variables that the reading takes, are together of bulk at most 1048576: NARROWER than '..Said'. Prove '..Said' where nothing that the law and all that it calls make is longer than what came in: it says more and counts as full. Else prove '..UptoSaid'. A law counts once. -/
mutual
def uptoBulk {H : Type} : DataW H → Nat
  | .lit (.string bytes) => bytes.length + 1
  | .lit _ => 1
  | .nil => 1
  | .ptr d => uptoBulk d + 1
  | .slice elems spare => uptoBulkAll elems + uptoBulkAll spare + 1
  | .agg parts => uptoBulkAll parts + 1
  | .iface _ d => uptoBulk d + 1
  | .map entries => uptoBulkEntries entries + 1
  | .held _ => 1
def uptoBulkAll {H : Type} : List (DataW H) → Nat
  | [] => 0
  | d :: r => uptoBulk d + uptoBulkAll r
def uptoBulkEntries {H : Type} : List (Lit × DataW H) → Nat
  | [] => 0
  | x :: r => uptoBulkEntry x + uptoBulkEntries r
def uptoBulkEntry {H : Type} : Lit × DataW H → Nat
  | (.string bytes, d) => bytes.length + uptoBulk d + 1
  | (_, d) => uptoBulk d + 1
 end
def uptoSmall : (H : Type) → List (DataW H) → Bool := fun _ ds => decide (uptoBulkAll ds ≤ 1048576)
def OpenSpec.upto (s : _root_.Go.ChangeSpec) : _root_.Go.OpenSpec := { _root_.Go.OpenSpec.ofChange s with cond := some uptoSmall }

/-- 'cnclaw28.BacklashTable', WHERE WHAT IT READS IS OF BULK AT MOST 1048576: true; the input reads as it did. -/
def backlashTableUptoRow : OpenClaim := { program := "ytmfnclkidjfedaa", sum := "de94a77a2612de719b609fc9eae428ff9da55bad7b847999d2145f4197b20a41", func := "cnc/cnclaw28.BacklashTable", spec := "backlashTable", apart := false, narrowed := true }
def BacklashTableUptoSaid : Prop := backlashTableUptoRow.holds Try.pinned (OpenSpec.upto backlashTableSpec)

/-- 'cnclaw28.BacklashStays', WHERE WHAT IT READS IS OF BULK AT MOST 1048576: true; the input reads as it did. -/
def backlashStaysUptoRow : OpenClaim := { program := "ytmfnclkidjfedaa", sum := "de94a77a2612de719b609fc9eae428ff9da55bad7b847999d2145f4197b20a41", func := "cnc/cnclaw28.BacklashStays", spec := "backlashStays", apart := false, narrowed := true }
def BacklashStaysUptoSaid : Prop := backlashStaysUptoRow.holds Try.pinned (OpenSpec.upto backlashStaysSpec)

/-- 'cnclaw28.BacklashGap', WHERE WHAT IT READS IS OF BULK AT MOST 1048576: true; the input reads as it did. -/
def backlashGapUptoRow : OpenClaim := { program := "ytmfnclkidjfedaa", sum := "de94a77a2612de719b609fc9eae428ff9da55bad7b847999d2145f4197b20a41", func := "cnc/cnclaw28.BacklashGap", spec := "backlashGap", apart := false, narrowed := true }
def BacklashGapUptoSaid : Prop := backlashGapUptoRow.holds Try.pinned (OpenSpec.upto backlashGapSpec)

/-- 'cnclaw28.BacklashPlay', WHERE WHAT IT READS IS OF BULK AT MOST 1048576: true; the input reads as it did. -/
def backlashPlayUptoRow : OpenClaim := { program := "ytmfnclkidjfedaa", sum := "de94a77a2612de719b609fc9eae428ff9da55bad7b847999d2145f4197b20a41", func := "cnc/cnclaw28.BacklashPlay", spec := "backlashPlay", apart := false, narrowed := true }
def BacklashPlayUptoSaid : Prop := backlashPlayUptoRow.holds Try.pinned (OpenSpec.upto backlashPlaySpec)

/-- 'cnclaw28.BacklashFollows', WHERE WHAT IT READS IS OF BULK AT MOST 1048576: true; the input reads as it did. -/
def backlashFollowsUptoRow : OpenClaim := { program := "ytmfnclkidjfedaa", sum := "de94a77a2612de719b609fc9eae428ff9da55bad7b847999d2145f4197b20a41", func := "cnc/cnclaw28.BacklashFollows", spec := "backlashFollows", apart := false, narrowed := true }
def BacklashFollowsUptoSaid : Prop := backlashFollowsUptoRow.holds Try.pinned (OpenSpec.upto backlashFollowsSpec)

end Rows
end Go.Proofs.Ytmfnclkidjfedaa
