/-
  NARROWER THAN 'FOR EVERY INPUT', by the rows' own cells (each row's printed sentence says how): LexTokens: laid · LexNames: laid · LexSpaces: laid · LexOffsets: laid · LexJoins: laid · LexNumbers: laid · LexStrange: laid.
  DERIVED. THE GIVEN ROWS OF THIS SEAT. 7 by the template 'for every input the law returns true; each argument reads behind the call as it read before'; 0 by the template 'total and deterministic' (their statements: YtiphekdahmiaeaaDoorTotals.lean).
  GIVEN WITH THE SEED: the statements are not yours to turn. If you find one false, say at which input.
  Laid BY PROGRAM, IN A SANDBOX (cutbox-rows.mjs): the forced cells as the released guide's own fill.sh prints them over the translation d2b765c3ff3f0dc4… (all of the seat's roots in one cut). By AI agents, Wed Nov 11 2026. No macro, syntax, notation, axiom, sorry.
-/
import Derived.Test.YtiphekdahmiaeaaDoorChecked
import GoSem.Claim
import GoSem.ClaimJoined
import GoSem.ClaimMapViews
import Derived.JoinedTies
import Derived.KernelRfl
namespace Go.Proofs.YtiphekdahmiaeaaDoor
/- THE CELL 'sum', in the pinned program and in every row, IS THE sha256 OF THE DUMP (.gsa) THAT YtiphekdahmiaeaaDoorProg.lean LOADS. Nothing in Lean hashes anything: it is a label: what it is worth is what the hold of that sum in a sandbox is worth. -/
noncomputable def Tryd.pinned : Pinned := { name := "ytiphekdahmiaeaadoor", sum := "d2b765c3ff3f0dc45e888eba8943253d8c81a76933d964d77ed48dd365d8c4ce", checked := Tryd.checked }
namespace Rows
def none {H : Type} : Left H := { results := [], args := [] }

/- WHAT THE LISTED PACKAGE-LEVEL VARIABLES READ AS WHEN THE CALL BEGINS. Each datum BY PROGRAM (the guide's laid-datum.mjs) off the statement by which the dump's own 'gosem.cut.vars' lays the variable. In a bare row this is a premise. The card (YtiphekdahmiaeaaDoorCards.lean) ties it to the program's text. -/
def laid_cnc_lex_names {H : Type} : DataW H := .agg [.lit (.string [73, 70]), .lit (.string [71, 79, 84, 79]), .lit (.string [87, 72, 73, 76, 69]), .lit (.string [68, 79]), .lit (.string [69, 78, 68]), .lit (.string [69, 81]), .lit (.string [78, 69]), .lit (.string [71, 84]), .lit (.string [71, 69]), .lit (.string [76, 84]), .lit (.string [76, 69]), .lit (.string [65, 78, 68]), .lit (.string [79, 82]), .lit (.string [88, 79, 82]), .lit (.string [77, 79, 68]), .lit (.string [83, 73, 78]), .lit (.string [67, 79, 83]), .lit (.string [84, 65, 78]), .lit (.string [65, 84, 65, 78]), .lit (.string [83, 81, 82, 84]), .lit (.string [65, 66, 83]), .lit (.string [82, 79, 85, 78, 68]), .lit (.string [70, 73, 88]), .lit (.string [70, 85, 80])]

/-- 'cnclaw05.LexTokens': WHATEVER THE INPUT: true; the input reads as it did. -/
def lexTokensSpec : ChangeSpec := { name := "lexTokens", fn := fun _ => fun
  | [d1, d2] => { results := [.lit (.bool true)], args := [d1, d2] }
  | _ => none }
def lexTokensRow : OpenClaim := { program := "ytiphekdahmiaeaadoor", sum := "d2b765c3ff3f0dc45e888eba8943253d8c81a76933d964d77ed48dd365d8c4ce", func := "cnc/cnclaw05.LexTokens", spec := "lexTokens", inPlace := ["internal/bytealg.IndexByteString"], named := ["cnc/lex.names"], apart := false, laid := [("cnc/lex.names", laid_cnc_lex_names)] }
def LexTokensSaid : Prop := lexTokensRow.holds Tryd.pinned (OpenSpec.ofChange lexTokensSpec)

/-- ITS FALSE NEIGHBOUR: 'it returns false'. Refute it at one input. -/
def lexTokensWrong : ChangeSpec := { name := "lexTokens", fn := fun _ => fun
  | [d1, d2] => { results := [.lit (.bool false)], args := [d1, d2] }
  | _ => none }
def LexTokensWrongFalsely : Prop := lexTokensRow.holds Tryd.pinned (OpenSpec.ofChange lexTokensWrong)

/-- 'cnclaw05.LexNames': WHATEVER THE INPUT: true; the input reads as it did. -/
def lexNamesSpec : ChangeSpec := { name := "lexNames", fn := fun _ => fun
  | [d1, d2] => { results := [.lit (.bool true)], args := [d1, d2] }
  | _ => none }
def lexNamesRow : OpenClaim := { program := "ytiphekdahmiaeaadoor", sum := "d2b765c3ff3f0dc45e888eba8943253d8c81a76933d964d77ed48dd365d8c4ce", func := "cnc/cnclaw05.LexNames", spec := "lexNames", inPlace := ["internal/bytealg.IndexByteString"], named := ["cnc/lex.names"], apart := false, laid := [("cnc/lex.names", laid_cnc_lex_names)] }
def LexNamesSaid : Prop := lexNamesRow.holds Tryd.pinned (OpenSpec.ofChange lexNamesSpec)

/-- ITS FALSE NEIGHBOUR: 'it returns false'. Refute it at one input. -/
def lexNamesWrong : ChangeSpec := { name := "lexNames", fn := fun _ => fun
  | [d1, d2] => { results := [.lit (.bool false)], args := [d1, d2] }
  | _ => none }
def LexNamesWrongFalsely : Prop := lexNamesRow.holds Tryd.pinned (OpenSpec.ofChange lexNamesWrong)

/-- 'cnclaw05.LexSpaces': WHATEVER THE INPUT: true; the input reads as it did. -/
def lexSpacesSpec : ChangeSpec := { name := "lexSpaces", fn := fun _ => fun
  | [d] => { results := [.lit (.bool true)], args := [d] }
  | _ => none }
def lexSpacesRow : OpenClaim := { program := "ytiphekdahmiaeaadoor", sum := "d2b765c3ff3f0dc45e888eba8943253d8c81a76933d964d77ed48dd365d8c4ce", func := "cnc/cnclaw05.LexSpaces", spec := "lexSpaces", inPlace := ["internal/bytealg.IndexByteString"], named := ["cnc/lex.names"], apart := false, laid := [("cnc/lex.names", laid_cnc_lex_names)] }
def LexSpacesSaid : Prop := lexSpacesRow.holds Tryd.pinned (OpenSpec.ofChange lexSpacesSpec)

/-- ITS FALSE NEIGHBOUR: 'it returns false'. Refute it at one input. -/
def lexSpacesWrong : ChangeSpec := { name := "lexSpaces", fn := fun _ => fun
  | [d] => { results := [.lit (.bool false)], args := [d] }
  | _ => none }
def LexSpacesWrongFalsely : Prop := lexSpacesRow.holds Tryd.pinned (OpenSpec.ofChange lexSpacesWrong)

/-- 'cnclaw05.LexOffsets': WHATEVER THE INPUT: true; the input reads as it did. -/
def lexOffsetsSpec : ChangeSpec := { name := "lexOffsets", fn := fun _ => fun
  | [d1, d2] => { results := [.lit (.bool true)], args := [d1, d2] }
  | _ => none }
def lexOffsetsRow : OpenClaim := { program := "ytiphekdahmiaeaadoor", sum := "d2b765c3ff3f0dc45e888eba8943253d8c81a76933d964d77ed48dd365d8c4ce", func := "cnc/cnclaw05.LexOffsets", spec := "lexOffsets", inPlace := ["internal/bytealg.IndexByteString"], named := ["cnc/lex.names"], apart := false, laid := [("cnc/lex.names", laid_cnc_lex_names)] }
def LexOffsetsSaid : Prop := lexOffsetsRow.holds Tryd.pinned (OpenSpec.ofChange lexOffsetsSpec)

/-- ITS FALSE NEIGHBOUR: 'it returns false'. Refute it at one input. -/
def lexOffsetsWrong : ChangeSpec := { name := "lexOffsets", fn := fun _ => fun
  | [d1, d2] => { results := [.lit (.bool false)], args := [d1, d2] }
  | _ => none }
def LexOffsetsWrongFalsely : Prop := lexOffsetsRow.holds Tryd.pinned (OpenSpec.ofChange lexOffsetsWrong)

/-- 'cnclaw05.LexJoins': WHATEVER THE INPUT: true; the input reads as it did. -/
def lexJoinsSpec : ChangeSpec := { name := "lexJoins", fn := fun _ => fun
  | [d1, d2] => { results := [.lit (.bool true)], args := [d1, d2] }
  | _ => none }
def lexJoinsRow : OpenClaim := { program := "ytiphekdahmiaeaadoor", sum := "d2b765c3ff3f0dc45e888eba8943253d8c81a76933d964d77ed48dd365d8c4ce", func := "cnc/cnclaw05.LexJoins", spec := "lexJoins", inPlace := ["internal/bytealg.IndexByteString"], named := ["cnc/lex.names"], apart := false, laid := [("cnc/lex.names", laid_cnc_lex_names)] }
def LexJoinsSaid : Prop := lexJoinsRow.holds Tryd.pinned (OpenSpec.ofChange lexJoinsSpec)

/-- ITS FALSE NEIGHBOUR: 'it returns false'. Refute it at one input. -/
def lexJoinsWrong : ChangeSpec := { name := "lexJoins", fn := fun _ => fun
  | [d1, d2] => { results := [.lit (.bool false)], args := [d1, d2] }
  | _ => none }
def LexJoinsWrongFalsely : Prop := lexJoinsRow.holds Tryd.pinned (OpenSpec.ofChange lexJoinsWrong)

/-- 'cnclaw05.LexNumbers': WHATEVER THE INPUT: true; the input reads as it did. -/
def lexNumbersSpec : ChangeSpec := { name := "lexNumbers", fn := fun _ => fun
  | [d] => { results := [.lit (.bool true)], args := [d] }
  | _ => none }
def lexNumbersRow : OpenClaim := { program := "ytiphekdahmiaeaadoor", sum := "d2b765c3ff3f0dc45e888eba8943253d8c81a76933d964d77ed48dd365d8c4ce", func := "cnc/cnclaw05.LexNumbers", spec := "lexNumbers", inPlace := ["internal/bytealg.IndexByteString"], recurses := true, named := ["cnc/lex.names"], apart := false, laid := [("cnc/lex.names", laid_cnc_lex_names)] }
def LexNumbersSaid : Prop := lexNumbersRow.holds Tryd.pinned (OpenSpec.ofChange lexNumbersSpec)

/-- ITS FALSE NEIGHBOUR: 'it returns false'. Refute it at one input. -/
def lexNumbersWrong : ChangeSpec := { name := "lexNumbers", fn := fun _ => fun
  | [d] => { results := [.lit (.bool false)], args := [d] }
  | _ => none }
def LexNumbersWrongFalsely : Prop := lexNumbersRow.holds Tryd.pinned (OpenSpec.ofChange lexNumbersWrong)

/-- 'cnclaw05.LexStrange': WHATEVER THE INPUT: true; the input reads as it did. -/
def lexStrangeSpec : ChangeSpec := { name := "lexStrange", fn := fun _ => fun
  | [d1, d2] => { results := [.lit (.bool true)], args := [d1, d2] }
  | _ => none }
def lexStrangeRow : OpenClaim := { program := "ytiphekdahmiaeaadoor", sum := "d2b765c3ff3f0dc45e888eba8943253d8c81a76933d964d77ed48dd365d8c4ce", func := "cnc/cnclaw05.LexStrange", spec := "lexStrange", inPlace := ["internal/bytealg.IndexByteString"], named := ["cnc/lex.names"], apart := false, laid := [("cnc/lex.names", laid_cnc_lex_names)] }
def LexStrangeSaid : Prop := lexStrangeRow.holds Tryd.pinned (OpenSpec.ofChange lexStrangeSpec)

/-- ITS FALSE NEIGHBOUR: 'it returns false'. Refute it at one input. -/
def lexStrangeWrong : ChangeSpec := { name := "lexStrange", fn := fun _ => fun
  | [d1, d2] => { results := [.lit (.bool false)], args := [d1, d2] }
  | _ => none }
def LexStrangeWrongFalsely : Prop := lexStrangeRow.holds Tryd.pinned (OpenSpec.ofChange lexStrangeWrong)

/- THE SECOND FORM. 'bulk': how many values and letters a reading holds, each counted each time it is reached (what is shared counts as often as it is met; a slice's spare places count too). A statement '..UptoSaid' is the law's where the arguments, and the package variables that the reading takes, are together of bulk at most 1048576: NARROWER than '..Said'. Prove '..Said' where nothing that the law and all that it calls make is longer than what came in: it says more and counts as full. Else prove '..UptoSaid'. A law counts once. -/
mutual
def uptoBulk {H : Type} : DataW H → Nat
  | .lit (.string bytes) => bytes.length + 1
  | .lit _ => 1
  | .nil => 1
  | .ptr d => uptoBulk d + 1
  | .slice elems spare => uptoBulkAll elems + uptoBulkAll spare + 1
  | .agg parts => uptoBulkAll parts + 1
  | .iface _ d => uptoBulk d + 1
  | .map entries => uptoBulkEntries entries + 1
  | .held _ => 1
def uptoBulkAll {H : Type} : List (DataW H) → Nat
  | [] => 0
  | d :: r => uptoBulk d + uptoBulkAll r
def uptoBulkEntries {H : Type} : List (Lit × DataW H) → Nat
  | [] => 0
  | x :: r => uptoBulkEntry x + uptoBulkEntries r
def uptoBulkEntry {H : Type} : Lit × DataW H → Nat
  | (.string bytes, d) => bytes.length + uptoBulk d + 1
  | (_, d) => uptoBulk d + 1
 end
def uptoSmall : (H : Type) → List (DataW H) → Bool := fun _ ds => decide (uptoBulkAll ds ≤ 1048576)
def OpenSpec.upto (s : _root_.Go.ChangeSpec) : _root_.Go.OpenSpec := { _root_.Go.OpenSpec.ofChange s with cond := some uptoSmall }

/-- 'cnclaw05.LexTokens', WHERE WHAT IT READS IS OF BULK AT MOST 1048576: true; the input reads as it did. -/
def lexTokensUptoRow : OpenClaim := { program := "ytiphekdahmiaeaadoor", sum := "d2b765c3ff3f0dc45e888eba8943253d8c81a76933d964d77ed48dd365d8c4ce", func := "cnc/cnclaw05.LexTokens", spec := "lexTokens", inPlace := ["internal/bytealg.IndexByteString"], named := ["cnc/lex.names"], apart := false, laid := [("cnc/lex.names", laid_cnc_lex_names)], narrowed := true }
def LexTokensUptoSaid : Prop := lexTokensUptoRow.holds Tryd.pinned (OpenSpec.upto lexTokensSpec)

/-- 'cnclaw05.LexNames', WHERE WHAT IT READS IS OF BULK AT MOST 1048576: true; the input reads as it did. -/
def lexNamesUptoRow : OpenClaim := { program := "ytiphekdahmiaeaadoor", sum := "d2b765c3ff3f0dc45e888eba8943253d8c81a76933d964d77ed48dd365d8c4ce", func := "cnc/cnclaw05.LexNames", spec := "lexNames", inPlace := ["internal/bytealg.IndexByteString"], named := ["cnc/lex.names"], apart := false, laid := [("cnc/lex.names", laid_cnc_lex_names)], narrowed := true }
def LexNamesUptoSaid : Prop := lexNamesUptoRow.holds Tryd.pinned (OpenSpec.upto lexNamesSpec)

/-- 'cnclaw05.LexSpaces', WHERE WHAT IT READS IS OF BULK AT MOST 1048576: true; the input reads as it did. -/
def lexSpacesUptoRow : OpenClaim := { program := "ytiphekdahmiaeaadoor", sum := "d2b765c3ff3f0dc45e888eba8943253d8c81a76933d964d77ed48dd365d8c4ce", func := "cnc/cnclaw05.LexSpaces", spec := "lexSpaces", inPlace := ["internal/bytealg.IndexByteString"], named := ["cnc/lex.names"], apart := false, laid := [("cnc/lex.names", laid_cnc_lex_names)], narrowed := true }
def LexSpacesUptoSaid : Prop := lexSpacesUptoRow.holds Tryd.pinned (OpenSpec.upto lexSpacesSpec)

/-- 'cnclaw05.LexOffsets', WHERE WHAT IT READS IS OF BULK AT MOST 1048576: true; the input reads as it did. -/
def lexOffsetsUptoRow : OpenClaim := { program := "ytiphekdahmiaeaadoor", sum := "d2b765c3ff3f0dc45e888eba8943253d8c81a76933d964d77ed48dd365d8c4ce", func := "cnc/cnclaw05.LexOffsets", spec := "lexOffsets", inPlace := ["internal/bytealg.IndexByteString"], named := ["cnc/lex.names"], apart := false, laid := [("cnc/lex.names", laid_cnc_lex_names)], narrowed := true }
def LexOffsetsUptoSaid : Prop := lexOffsetsUptoRow.holds Tryd.pinned (OpenSpec.upto lexOffsetsSpec)

/-- 'cnclaw05.LexJoins', WHERE WHAT IT READS IS OF BULK AT MOST 1048576: true; the input reads as it did. -/
def lexJoinsUptoRow : OpenClaim := { program := "ytiphekdahmiaeaadoor", sum := "d2b765c3ff3f0dc45e888eba8943253d8c81a76933d964d77ed48dd365d8c4ce", func := "cnc/cnclaw05.LexJoins", spec := "lexJoins", inPlace := ["internal/bytealg.IndexByteString"], named := ["cnc/lex.names"], apart := false, laid := [("cnc/lex.names", laid_cnc_lex_names)], narrowed := true }
def LexJoinsUptoSaid : Prop := lexJoinsUptoRow.holds Tryd.pinned (OpenSpec.upto lexJoinsSpec)

/-- 'cnclaw05.LexNumbers', WHERE WHAT IT READS IS OF BULK AT MOST 1048576: true; the input reads as it did. -/
def lexNumbersUptoRow : OpenClaim := { program := "ytiphekdahmiaeaadoor", sum := "d2b765c3ff3f0dc45e888eba8943253d8c81a76933d964d77ed48dd365d8c4ce", func := "cnc/cnclaw05.LexNumbers", spec := "lexNumbers", inPlace := ["internal/bytealg.IndexByteString"], recurses := true, named := ["cnc/lex.names"], apart := false, laid := [("cnc/lex.names", laid_cnc_lex_names)], narrowed := true }
def LexNumbersUptoSaid : Prop := lexNumbersUptoRow.holds Tryd.pinned (OpenSpec.upto lexNumbersSpec)

/-- 'cnclaw05.LexStrange', WHERE WHAT IT READS IS OF BULK AT MOST 1048576: true; the input reads as it did. -/
def lexStrangeUptoRow : OpenClaim := { program := "ytiphekdahmiaeaadoor", sum := "d2b765c3ff3f0dc45e888eba8943253d8c81a76933d964d77ed48dd365d8c4ce", func := "cnc/cnclaw05.LexStrange", spec := "lexStrange", inPlace := ["internal/bytealg.IndexByteString"], named := ["cnc/lex.names"], apart := false, laid := [("cnc/lex.names", laid_cnc_lex_names)], narrowed := true }
def LexStrangeUptoSaid : Prop := lexStrangeUptoRow.holds Tryd.pinned (OpenSpec.upto lexStrangeSpec)

end Rows
end Go.Proofs.YtiphekdahmiaeaaDoor
