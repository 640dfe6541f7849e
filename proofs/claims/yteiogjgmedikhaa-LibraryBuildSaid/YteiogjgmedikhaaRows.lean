/-
  NARROWER THAN 'FOR EVERY INPUT', by the rows' own cells (each row's printed sentence says how): LibraryBuild: loops.
  DERIVED. THE GIVEN ROWS OF THIS SEAT. 9 by the template 'for every input the law returns true; each argument reads behind the call as it read before'; 0 by the template 'total and deterministic' (their statements: YteiogjgmedikhaaTotals.lean).
  GIVEN WITH THE SEED: the statements are not yours to turn. If you find one false, say at which input.
  Laid BY PROGRAM, IN A SANDBOX (cutbox-rows.mjs): the forced cells as the released guide's own fill.sh prints them over the translation 9ef4f5f5a1cf2113… (all of the seat's roots in one cut). By AI agents, Wed Nov 11 2026. No macro, syntax, notation, axiom, sorry.
-/
import Derived.Test.YteiogjgmedikhaaChecked
import GoSem.Claim
import GoSem.ClaimJoined
import GoSem.ClaimMapViews
import Derived.JoinedTies
import Derived.KernelRfl
namespace Go.Proofs.Yteiogjgmedikhaa
/- THE CELL 'sum', in the pinned program and in every row, IS THE sha256 OF THE DUMP (.gsa) THAT YteiogjgmedikhaaProg.lean LOADS. Nothing in Lean hashes anything: it is a label: what it is worth is what the hold of that sum in a sandbox is worth. -/
noncomputable def Try.pinned : Pinned := { name := "yteiogjgmedikhaa", sum := "9ef4f5f5a1cf2113a0f9e0fa0c343898f1708de386442f76abc85d14084947a3", checked := Try.checked }
namespace Rows
def none {H : Type} : Left H := { results := [], args := [] }

/-- 'cnclaw09.LibraryBuild': WHATEVER THE INPUT: true; the input reads as it did. -/
def libraryBuildSpec : ChangeSpec := { name := "libraryBuild", fn := fun _ => fun
  | [d1, d2] => { results := [.lit (.bool true)], args := [d1, d2] }
  | _ => none }
def libraryBuildRow : OpenClaim := { program := "yteiogjgmedikhaa", sum := "9ef4f5f5a1cf2113a0f9e0fa0c343898f1708de386442f76abc85d14084947a3", func := "cnc/cnclaw09.LibraryBuild", spec := "libraryBuild", recurses := true, loops := true, apart := false }
def LibraryBuildSaid : Prop := libraryBuildRow.holds Try.pinned (OpenSpec.ofChange libraryBuildSpec)

/-- ITS FALSE NEIGHBOUR: 'it returns false'. Refute it at one input. -/
def libraryBuildWrong : ChangeSpec := { name := "libraryBuild", fn := fun _ => fun
  | [d1, d2] => { results := [.lit (.bool false)], args := [d1, d2] }
  | _ => none }
def LibraryBuildWrongFalsely : Prop := libraryBuildRow.holds Try.pinned (OpenSpec.ofChange libraryBuildWrong)

/-- 'cnclaw09.LibrarySpoilt': WHATEVER THE INPUT: true; the input reads as it did. -/
def librarySpoiltSpec : ChangeSpec := { name := "librarySpoilt", fn := fun _ => fun
  | [d1, d2, d3, d4] => { results := [.lit (.bool true)], args := [d1, d2, d3, d4] }
  | _ => none }
def librarySpoiltRow : OpenClaim := { program := "yteiogjgmedikhaa", sum := "9ef4f5f5a1cf2113a0f9e0fa0c343898f1708de386442f76abc85d14084947a3", func := "cnc/cnclaw09.LibrarySpoilt", spec := "librarySpoilt", recurses := true, apart := false }
def LibrarySpoiltSaid : Prop := librarySpoiltRow.holds Try.pinned (OpenSpec.ofChange librarySpoiltSpec)

/-- ITS FALSE NEIGHBOUR: 'it returns false'. Refute it at one input. -/
def librarySpoiltWrong : ChangeSpec := { name := "librarySpoilt", fn := fun _ => fun
  | [d1, d2, d3, d4] => { results := [.lit (.bool false)], args := [d1, d2, d3, d4] }
  | _ => none }
def LibrarySpoiltWrongFalsely : Prop := librarySpoiltRow.holds Try.pinned (OpenSpec.ofChange librarySpoiltWrong)

/-- 'cnclaw09.LibraryMates': WHATEVER THE INPUT: true; the input reads as it did. -/
def libraryMatesSpec : ChangeSpec := { name := "libraryMates", fn := fun _ => fun
  | [d] => { results := [.lit (.bool true)], args := [d] }
  | _ => none }
def libraryMatesRow : OpenClaim := { program := "yteiogjgmedikhaa", sum := "9ef4f5f5a1cf2113a0f9e0fa0c343898f1708de386442f76abc85d14084947a3", func := "cnc/cnclaw09.LibraryMates", spec := "libraryMates", recurses := true, apart := false }
def LibraryMatesSaid : Prop := libraryMatesRow.holds Try.pinned (OpenSpec.ofChange libraryMatesSpec)

/-- ITS FALSE NEIGHBOUR: 'it returns false'. Refute it at one input. -/
def libraryMatesWrong : ChangeSpec := { name := "libraryMates", fn := fun _ => fun
  | [d] => { results := [.lit (.bool false)], args := [d] }
  | _ => none }
def LibraryMatesWrongFalsely : Prop := libraryMatesRow.holds Try.pinned (OpenSpec.ofChange libraryMatesWrong)

/-- 'cnclaw09.LibraryCopies': WHATEVER THE INPUT: true; the input reads as it did. -/
def libraryCopiesSpec : ChangeSpec := { name := "libraryCopies", fn := fun _ => fun
  | [d] => { results := [.lit (.bool true)], args := [d] }
  | _ => none }
def libraryCopiesRow : OpenClaim := { program := "yteiogjgmedikhaa", sum := "9ef4f5f5a1cf2113a0f9e0fa0c343898f1708de386442f76abc85d14084947a3", func := "cnc/cnclaw09.LibraryCopies", spec := "libraryCopies", recurses := true, apart := false }
def LibraryCopiesSaid : Prop := libraryCopiesRow.holds Try.pinned (OpenSpec.ofChange libraryCopiesSpec)

/-- ITS FALSE NEIGHBOUR: 'it returns false'. Refute it at one input. -/
def libraryCopiesWrong : ChangeSpec := { name := "libraryCopies", fn := fun _ => fun
  | [d] => { results := [.lit (.bool false)], args := [d] }
  | _ => none }
def LibraryCopiesWrongFalsely : Prop := libraryCopiesRow.holds Try.pinned (OpenSpec.ofChange libraryCopiesWrong)

/-- 'cnclaw09.LibraryNests': WHATEVER THE INPUT: true; the input reads as it did. -/
def libraryNestsSpec : ChangeSpec := { name := "libraryNests", fn := fun _ => fun
  | [d1, d2, d3] => { results := [.lit (.bool true)], args := [d1, d2, d3] }
  | _ => none }
def libraryNestsRow : OpenClaim := { program := "yteiogjgmedikhaa", sum := "9ef4f5f5a1cf2113a0f9e0fa0c343898f1708de386442f76abc85d14084947a3", func := "cnc/cnclaw09.LibraryNests", spec := "libraryNests", recurses := true, apart := false }
def LibraryNestsSaid : Prop := libraryNestsRow.holds Try.pinned (OpenSpec.ofChange libraryNestsSpec)

/-- ITS FALSE NEIGHBOUR: 'it returns false'. Refute it at one input. -/
def libraryNestsWrong : ChangeSpec := { name := "libraryNests", fn := fun _ => fun
  | [d1, d2, d3] => { results := [.lit (.bool false)], args := [d1, d2, d3] }
  | _ => none }
def LibraryNestsWrongFalsely : Prop := libraryNestsRow.holds Try.pinned (OpenSpec.ofChange libraryNestsWrong)

/-- 'cnclaw09.LibraryInside': WHATEVER THE INPUT: true; the input reads as it did. -/
def libraryInsideSpec : ChangeSpec := { name := "libraryInside", fn := fun _ => fun
  | [d1, d2] => { results := [.lit (.bool true)], args := [d1, d2] }
  | _ => none }
def libraryInsideRow : OpenClaim := { program := "yteiogjgmedikhaa", sum := "9ef4f5f5a1cf2113a0f9e0fa0c343898f1708de386442f76abc85d14084947a3", func := "cnc/cnclaw09.LibraryInside", spec := "libraryInside", recurses := true, apart := false }
def LibraryInsideSaid : Prop := libraryInsideRow.holds Try.pinned (OpenSpec.ofChange libraryInsideSpec)

/-- ITS FALSE NEIGHBOUR: 'it returns false'. Refute it at one input. -/
def libraryInsideWrong : ChangeSpec := { name := "libraryInside", fn := fun _ => fun
  | [d1, d2] => { results := [.lit (.bool false)], args := [d1, d2] }
  | _ => none }
def LibraryInsideWrongFalsely : Prop := libraryInsideRow.holds Try.pinned (OpenSpec.ofChange libraryInsideWrong)

/-- 'cnclaw09.LibraryPrograms': WHATEVER THE INPUT: true; the input reads as it did. -/
def libraryProgramsSpec : ChangeSpec := { name := "libraryPrograms", fn := fun _ => fun
  | [d] => { results := [.lit (.bool true)], args := [d] }
  | _ => none }
def libraryProgramsRow : OpenClaim := { program := "yteiogjgmedikhaa", sum := "9ef4f5f5a1cf2113a0f9e0fa0c343898f1708de386442f76abc85d14084947a3", func := "cnc/cnclaw09.LibraryPrograms", spec := "libraryPrograms", recurses := true, apart := false }
def LibraryProgramsSaid : Prop := libraryProgramsRow.holds Try.pinned (OpenSpec.ofChange libraryProgramsSpec)

/-- ITS FALSE NEIGHBOUR: 'it returns false'. Refute it at one input. -/
def libraryProgramsWrong : ChangeSpec := { name := "libraryPrograms", fn := fun _ => fun
  | [d] => { results := [.lit (.bool false)], args := [d] }
  | _ => none }
def LibraryProgramsWrongFalsely : Prop := libraryProgramsRow.holds Try.pinned (OpenSpec.ofChange libraryProgramsWrong)

/-- 'cnclaw09.LibraryLabels': WHATEVER THE INPUT: true; the input reads as it did. -/
def libraryLabelsSpec : ChangeSpec := { name := "libraryLabels", fn := fun _ => fun
  | [d] => { results := [.lit (.bool true)], args := [d] }
  | _ => none }
def libraryLabelsRow : OpenClaim := { program := "yteiogjgmedikhaa", sum := "9ef4f5f5a1cf2113a0f9e0fa0c343898f1708de386442f76abc85d14084947a3", func := "cnc/cnclaw09.LibraryLabels", spec := "libraryLabels", recurses := true, apart := false }
def LibraryLabelsSaid : Prop := libraryLabelsRow.holds Try.pinned (OpenSpec.ofChange libraryLabelsSpec)

/-- ITS FALSE NEIGHBOUR: 'it returns false'. Refute it at one input. -/
def libraryLabelsWrong : ChangeSpec := { name := "libraryLabels", fn := fun _ => fun
  | [d] => { results := [.lit (.bool false)], args := [d] }
  | _ => none }
def LibraryLabelsWrongFalsely : Prop := libraryLabelsRow.holds Try.pinned (OpenSpec.ofChange libraryLabelsWrong)

/-- 'cnclaw09.LibraryFinds': WHATEVER THE INPUT: true; the input reads as it did. -/
def libraryFindsSpec : ChangeSpec := { name := "libraryFinds", fn := fun _ => fun
  | [d1, d2, d3, d4] => { results := [.lit (.bool true)], args := [d1, d2, d3, d4] }
  | _ => none }
def libraryFindsRow : OpenClaim := { program := "yteiogjgmedikhaa", sum := "9ef4f5f5a1cf2113a0f9e0fa0c343898f1708de386442f76abc85d14084947a3", func := "cnc/cnclaw09.LibraryFinds", spec := "libraryFinds", recurses := true, apart := false }
def LibraryFindsSaid : Prop := libraryFindsRow.holds Try.pinned (OpenSpec.ofChange libraryFindsSpec)

/-- ITS FALSE NEIGHBOUR: 'it returns false'. Refute it at one input. -/
def libraryFindsWrong : ChangeSpec := { name := "libraryFinds", fn := fun _ => fun
  | [d1, d2, d3, d4] => { results := [.lit (.bool false)], args := [d1, d2, d3, d4] }
  | _ => none }
def LibraryFindsWrongFalsely : Prop := libraryFindsRow.holds Try.pinned (OpenSpec.ofChange libraryFindsWrong)

/- THE SECOND FORM. 'bulk': how many values and letters a reading holds, each counted each time it is reached (what is shared counts as often as it is met; a slice's spare places count too). A statement '..UptoSaid' is the law's where the arguments, and the package variables that the reading takes, are together of bulk at most 1048576: NARROWER than '..Said'. Prove '..Said' where nothing that the law and all that it calls make is longer than what came in: it says more and counts as full. Else prove '..UptoSaid'. A law counts once. -/
mutual
def uptoBulk {H : Type} : DataW H → Nat
  | .lit (.string bytes) => bytes.length + 1
  | .lit _ => 1
  | .nil => 1
  | .ptr d => uptoBulk d + 1
  | .slice elems spare => uptoBulkAll elems + uptoBulkAll spare + 1
  | .agg parts => uptoBulkAll parts + 1
  | .iface _ d => uptoBulk d + 1
  | .map entries => uptoBulkEntries entries + 1
  | .held _ => 1
def uptoBulkAll {H : Type} : List (DataW H) → Nat
  | [] => 0
  | d :: r => uptoBulk d + uptoBulkAll r
def uptoBulkEntries {H : Type} : List (Lit × DataW H) → Nat
  | [] => 0
  | x :: r => uptoBulkEntry x + uptoBulkEntries r
def uptoBulkEntry {H : Type} : Lit × DataW H → Nat
  | (.string bytes, d) => bytes.length + uptoBulk d + 1
  | (_, d) => uptoBulk d + 1
 end
def uptoSmall : (H : Type) → List (DataW H) → Bool := fun _ ds => decide (uptoBulkAll ds ≤ 1048576)
def OpenSpec.upto (s : _root_.Go.ChangeSpec) : _root_.Go.OpenSpec := { _root_.Go.OpenSpec.ofChange s with cond := some uptoSmall }

/-- 'cnclaw09.LibraryBuild', WHERE WHAT IT READS IS OF BULK AT MOST 1048576: true; the input reads as it did. -/
def libraryBuildUptoRow : OpenClaim := { program := "yteiogjgmedikhaa", sum := "9ef4f5f5a1cf2113a0f9e0fa0c343898f1708de386442f76abc85d14084947a3", func := "cnc/cnclaw09.LibraryBuild", spec := "libraryBuild", recurses := true, loops := true, apart := false, narrowed := true }
def LibraryBuildUptoSaid : Prop := libraryBuildUptoRow.holds Try.pinned (OpenSpec.upto libraryBuildSpec)

/-- 'cnclaw09.LibrarySpoilt', WHERE WHAT IT READS IS OF BULK AT MOST 1048576: true; the input reads as it did. -/
def librarySpoiltUptoRow : OpenClaim := { program := "yteiogjgmedikhaa", sum := "9ef4f5f5a1cf2113a0f9e0fa0c343898f1708de386442f76abc85d14084947a3", func := "cnc/cnclaw09.LibrarySpoilt", spec := "librarySpoilt", recurses := true, apart := false, narrowed := true }
def LibrarySpoiltUptoSaid : Prop := librarySpoiltUptoRow.holds Try.pinned (OpenSpec.upto librarySpoiltSpec)

/-- 'cnclaw09.LibraryMates', WHERE WHAT IT READS IS OF BULK AT MOST 1048576: true; the input reads as it did. -/
def libraryMatesUptoRow : OpenClaim := { program := "yteiogjgmedikhaa", sum := "9ef4f5f5a1cf2113a0f9e0fa0c343898f1708de386442f76abc85d14084947a3", func := "cnc/cnclaw09.LibraryMates", spec := "libraryMates", recurses := true, apart := false, narrowed := true }
def LibraryMatesUptoSaid : Prop := libraryMatesUptoRow.holds Try.pinned (OpenSpec.upto libraryMatesSpec)

/-- 'cnclaw09.LibraryCopies', WHERE WHAT IT READS IS OF BULK AT MOST 1048576: true; the input reads as it did. -/
def libraryCopiesUptoRow : OpenClaim := { program := "yteiogjgmedikhaa", sum := "9ef4f5f5a1cf2113a0f9e0fa0c343898f1708de386442f76abc85d14084947a3", func := "cnc/cnclaw09.LibraryCopies", spec := "libraryCopies", recurses := true, apart := false, narrowed := true }
def LibraryCopiesUptoSaid : Prop := libraryCopiesUptoRow.holds Try.pinned (OpenSpec.upto libraryCopiesSpec)

/-- 'cnclaw09.LibraryNests', WHERE WHAT IT READS IS OF BULK AT MOST 1048576: true; the input reads as it did. -/
def libraryNestsUptoRow : OpenClaim := { program := "yteiogjgmedikhaa", sum := "9ef4f5f5a1cf2113a0f9e0fa0c343898f1708de386442f76abc85d14084947a3", func := "cnc/cnclaw09.LibraryNests", spec := "libraryNests", recurses := true, apart := false, narrowed := true }
def LibraryNestsUptoSaid : Prop := libraryNestsUptoRow.holds Try.pinned (OpenSpec.upto libraryNestsSpec)

/-- 'cnclaw09.LibraryInside', WHERE WHAT IT READS IS OF BULK AT MOST 1048576: true; the input reads as it did. -/
def libraryInsideUptoRow : OpenClaim := { program := "yteiogjgmedikhaa", sum := "9ef4f5f5a1cf2113a0f9e0fa0c343898f1708de386442f76abc85d14084947a3", func := "cnc/cnclaw09.LibraryInside", spec := "libraryInside", recurses := true, apart := false, narrowed := true }
def LibraryInsideUptoSaid : Prop := libraryInsideUptoRow.holds Try.pinned (OpenSpec.upto libraryInsideSpec)

/-- 'cnclaw09.LibraryPrograms', WHERE WHAT IT READS IS OF BULK AT MOST 1048576: true; the input reads as it did. -/
def libraryProgramsUptoRow : OpenClaim := { program := "yteiogjgmedikhaa", sum := "9ef4f5f5a1cf2113a0f9e0fa0c343898f1708de386442f76abc85d14084947a3", func := "cnc/cnclaw09.LibraryPrograms", spec := "libraryPrograms", recurses := true, apart := false, narrowed := true }
def LibraryProgramsUptoSaid : Prop := libraryProgramsUptoRow.holds Try.pinned (OpenSpec.upto libraryProgramsSpec)

/-- 'cnclaw09.LibraryLabels', WHERE WHAT IT READS IS OF BULK AT MOST 1048576: true; the input reads as it did. -/
def libraryLabelsUptoRow : OpenClaim := { program := "yteiogjgmedikhaa", sum := "9ef4f5f5a1cf2113a0f9e0fa0c343898f1708de386442f76abc85d14084947a3", func := "cnc/cnclaw09.LibraryLabels", spec := "libraryLabels", recurses := true, apart := false, narrowed := true }
def LibraryLabelsUptoSaid : Prop := libraryLabelsUptoRow.holds Try.pinned (OpenSpec.upto libraryLabelsSpec)

/-- 'cnclaw09.LibraryFinds', WHERE WHAT IT READS IS OF BULK AT MOST 1048576: true; the input reads as it did. -/
def libraryFindsUptoRow : OpenClaim := { program := "yteiogjgmedikhaa", sum := "9ef4f5f5a1cf2113a0f9e0fa0c343898f1708de386442f76abc85d14084947a3", func := "cnc/cnclaw09.LibraryFinds", spec := "libraryFinds", recurses := true, apart := false, narrowed := true }
def LibraryFindsUptoSaid : Prop := libraryFindsUptoRow.holds Try.pinned (OpenSpec.upto libraryFindsSpec)

end Rows
end Go.Proofs.Yteiogjgmedikhaa
