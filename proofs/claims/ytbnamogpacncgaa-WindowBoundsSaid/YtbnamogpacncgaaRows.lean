/-
  No cell of these rows narrows 'for every input' (looked for: loops, veiled, ifaces, maps, wideKeys, modest, calm, conditions, laid).
  DERIVED. THE GIVEN ROWS OF THIS SEAT. 4 by the template 'for every input the law returns true; each argument reads behind the call as it read before'; 0 by the template 'total and deterministic' (their statements: YtbnamogpacncgaaTotals.lean).
  GIVEN WITH THE SEED: the statements are not yours to turn. If you find one false, say at which input.
  Laid BY PROGRAM, IN A SANDBOX (cutbox-rows.mjs): the forced cells as the released guide's own fill.sh prints them over the translation a1a1457394a7a98a… (all of the seat's roots in one cut). By AI agents, Wed Nov 11 2026. No macro, syntax, notation, axiom, sorry.
-/
import Derived.Test.YtbnamogpacncgaaChecked
import GoSem.Claim
import GoSem.ClaimJoined
import GoSem.ClaimMapViews
import Derived.JoinedTies
import Derived.KernelRfl
namespace Go.Proofs.Ytbnamogpacncgaa
/- THE CELL 'sum', in the pinned program and in every row, IS THE sha256 OF THE DUMP (.gsa) THAT YtbnamogpacncgaaProg.lean LOADS. Nothing in Lean hashes anything: it is a label: what it is worth is what the hold of that sum in a sandbox is worth. -/
noncomputable def Try.pinned : Pinned := { name := "ytbnamogpacncgaa", sum := "a1a1457394a7a98ad430f2bd8332828216ff6f3eb999bfe520f3fc3a86d78ca2", checked := Try.checked }
namespace Rows
def none {H : Type} : Left H := { results := [], args := [] }

/-- 'cnclaw34.WindowActive': WHATEVER THE INPUT: true; the input reads as it did. -/
def windowActiveSpec : ChangeSpec := { name := "windowActive", fn := fun _ => fun
  | [d1, d2] => { results := [.lit (.bool true)], args := [d1, d2] }
  | _ => none }
def windowActiveRow : OpenClaim := { program := "ytbnamogpacncgaa", sum := "a1a1457394a7a98ad430f2bd8332828216ff6f3eb999bfe520f3fc3a86d78ca2", func := "cnc/cnclaw34.WindowActive", spec := "windowActive", apart := false }
def WindowActiveSaid : Prop := windowActiveRow.holds Try.pinned (OpenSpec.ofChange windowActiveSpec)

/-- ITS FALSE NEIGHBOUR: 'it returns false'. Refute it at one input. -/
def windowActiveWrong : ChangeSpec := { name := "windowActive", fn := fun _ => fun
  | [d1, d2] => { results := [.lit (.bool false)], args := [d1, d2] }
  | _ => none }
def WindowActiveWrongFalsely : Prop := windowActiveRow.holds Try.pinned (OpenSpec.ofChange windowActiveWrong)

/-- 'cnclaw34.WindowNext': WHATEVER THE INPUT: true; the input reads as it did. -/
def windowNextSpec : ChangeSpec := { name := "windowNext", fn := fun _ => fun
  | [d1, d2, d3, d4, d5] => { results := [.lit (.bool true)], args := [d1, d2, d3, d4, d5] }
  | _ => none }
def windowNextRow : OpenClaim := { program := "ytbnamogpacncgaa", sum := "a1a1457394a7a98ad430f2bd8332828216ff6f3eb999bfe520f3fc3a86d78ca2", func := "cnc/cnclaw34.WindowNext", spec := "windowNext", apart := false }
def WindowNextSaid : Prop := windowNextRow.holds Try.pinned (OpenSpec.ofChange windowNextSpec)

/-- ITS FALSE NEIGHBOUR: 'it returns false'. Refute it at one input. -/
def windowNextWrong : ChangeSpec := { name := "windowNext", fn := fun _ => fun
  | [d1, d2, d3, d4, d5] => { results := [.lit (.bool false)], args := [d1, d2, d3, d4, d5] }
  | _ => none }
def WindowNextWrongFalsely : Prop := windowNextRow.holds Try.pinned (OpenSpec.ofChange windowNextWrong)

/-- 'cnclaw34.WindowBounds': WHATEVER THE INPUT: true; the input reads as it did. -/
def windowBoundsSpec : ChangeSpec := { name := "windowBounds", fn := fun _ => fun
  | [d1, d2, d3, d4, d5] => { results := [.lit (.bool true)], args := [d1, d2, d3, d4, d5] }
  | _ => none }
def windowBoundsRow : OpenClaim := { program := "ytbnamogpacncgaa", sum := "a1a1457394a7a98ad430f2bd8332828216ff6f3eb999bfe520f3fc3a86d78ca2", func := "cnc/cnclaw34.WindowBounds", spec := "windowBounds", apart := false }
def WindowBoundsSaid : Prop := windowBoundsRow.holds Try.pinned (OpenSpec.ofChange windowBoundsSpec)

/-- ITS FALSE NEIGHBOUR: 'it returns false'. Refute it at one input. -/
def windowBoundsWrong : ChangeSpec := { name := "windowBounds", fn := fun _ => fun
  | [d1, d2, d3, d4, d5] => { results := [.lit (.bool false)], args := [d1, d2, d3, d4, d5] }
  | _ => none }
def WindowBoundsWrongFalsely : Prop := windowBoundsRow.holds Try.pinned (OpenSpec.ofChange windowBoundsWrong)

/-- 'cnclaw34.WindowMore': WHATEVER THE INPUT: true; the input reads as it did. -/
def windowMoreSpec : ChangeSpec := { name := "windowMore", fn := fun _ => fun
  | [d1, d2, d3, d4, d5, d6] => { results := [.lit (.bool true)], args := [d1, d2, d3, d4, d5, d6] }
  | _ => none }
def windowMoreRow : OpenClaim := { program := "ytbnamogpacncgaa", sum := "a1a1457394a7a98ad430f2bd8332828216ff6f3eb999bfe520f3fc3a86d78ca2", func := "cnc/cnclaw34.WindowMore", spec := "windowMore", apart := false }
def WindowMoreSaid : Prop := windowMoreRow.holds Try.pinned (OpenSpec.ofChange windowMoreSpec)

/-- ITS FALSE NEIGHBOUR: 'it returns false'. Refute it at one input. -/
def windowMoreWrong : ChangeSpec := { name := "windowMore", fn := fun _ => fun
  | [d1, d2, d3, d4, d5, d6] => { results := [.lit (.bool false)], args := [d1, d2, d3, d4, d5, d6] }
  | _ => none }
def WindowMoreWrongFalsely : Prop := windowMoreRow.holds Try.pinned (OpenSpec.ofChange windowMoreWrong)

/- THE SECOND FORM. 'bulk': how many values and letters a reading holds, each counted each time it is reached (what is shared counts as often as it is met; a slice's spare places count too). A statement '..UptoSaid' is the law's where the arguments, and the package variables that the reading takes, are together of bulk at most 1048576: NARROWER than '..Said'. Prove '..Said' where nothing that the law and all that it calls make is longer than what came in: it says more and counts as full. Else prove '..UptoSaid'. A law counts once. -/
mutual
def uptoBulk {H : Type} : DataW H → Nat
  | .lit (.string bytes) => bytes.length + 1
  | .lit _ => 1
  | .nil => 1
  | .ptr d => uptoBulk d + 1
  | .slice elems spare => uptoBulkAll elems + uptoBulkAll spare + 1
  | .agg parts => uptoBulkAll parts + 1
  | .iface _ d => uptoBulk d + 1
  | .map entries => uptoBulkEntries entries + 1
  | .held _ => 1
def uptoBulkAll {H : Type} : List (DataW H) → Nat
  | [] => 0
  | d :: r => uptoBulk d + uptoBulkAll r
def uptoBulkEntries {H : Type} : List (Lit × DataW H) → Nat
  | [] => 0
  | x :: r => uptoBulkEntry x + uptoBulkEntries r
def uptoBulkEntry {H : Type} : Lit × DataW H → Nat
  | (.string bytes, d) => bytes.length + uptoBulk d + 1
  | (_, d) => uptoBulk d + 1
 end
def uptoSmall : (H : Type) → List (DataW H) → Bool := fun _ ds => decide (uptoBulkAll ds ≤ 1048576)
def OpenSpec.upto (s : _root_.Go.ChangeSpec) : _root_.Go.OpenSpec := { _root_.Go.OpenSpec.ofChange s with cond := some uptoSmall }

/-- 'cnclaw34.WindowActive', WHERE WHAT IT READS IS OF BULK AT MOST 1048576: true; the input reads as it did. -/
def windowActiveUptoRow : OpenClaim := { program := "ytbnamogpacncgaa", sum := "a1a1457394a7a98ad430f2bd8332828216ff6f3eb999bfe520f3fc3a86d78ca2", func := "cnc/cnclaw34.WindowActive", spec := "windowActive", apart := false, narrowed := true }
def WindowActiveUptoSaid : Prop := windowActiveUptoRow.holds Try.pinned (OpenSpec.upto windowActiveSpec)

/-- 'cnclaw34.WindowNext', WHERE WHAT IT READS IS OF BULK AT MOST 1048576: true; the input reads as it did. -/
def windowNextUptoRow : OpenClaim := { program := "ytbnamogpacncgaa", sum := "a1a1457394a7a98ad430f2bd8332828216ff6f3eb999bfe520f3fc3a86d78ca2", func := "cnc/cnclaw34.WindowNext", spec := "windowNext", apart := false, narrowed := true }
def WindowNextUptoSaid : Prop := windowNextUptoRow.holds Try.pinned (OpenSpec.upto windowNextSpec)

/-- 'cnclaw34.WindowBounds', WHERE WHAT IT READS IS OF BULK AT MOST 1048576: true; the input reads as it did. -/
def windowBoundsUptoRow : OpenClaim := { program := "ytbnamogpacncgaa", sum := "a1a1457394a7a98ad430f2bd8332828216ff6f3eb999bfe520f3fc3a86d78ca2", func := "cnc/cnclaw34.WindowBounds", spec := "windowBounds", apart := false, narrowed := true }
def WindowBoundsUptoSaid : Prop := windowBoundsUptoRow.holds Try.pinned (OpenSpec.upto windowBoundsSpec)

/-- 'cnclaw34.WindowMore', WHERE WHAT IT READS IS OF BULK AT MOST 1048576: true; the input reads as it did. -/
def windowMoreUptoRow : OpenClaim := { program := "ytbnamogpacncgaa", sum := "a1a1457394a7a98ad430f2bd8332828216ff6f3eb999bfe520f3fc3a86d78ca2", func := "cnc/cnclaw34.WindowMore", spec := "windowMore", apart := false, narrowed := true }
def WindowMoreUptoSaid : Prop := windowMoreUptoRow.holds Try.pinned (OpenSpec.upto windowMoreSpec)

end Rows
end Go.Proofs.Ytbnamogpacncgaa
