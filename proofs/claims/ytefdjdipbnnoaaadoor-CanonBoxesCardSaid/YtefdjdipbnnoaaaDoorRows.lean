/-
  NARROWER THAN 'FOR EVERY INPUT', by the rows' own cells (each row's printed sentence says how): CanonValid: laid · CanonCheck: laid · CanonFormat: laid · CanonFields: laid · CanonJoins: laid · CanonBoxes: laid.
  DERIVED. THE GIVEN ROWS OF THIS SEAT. 6 by the template 'for every input the law returns true; each argument reads behind the call as it read before'; 0 by the template 'total and deterministic' (their statements: YtefdjdipbnnoaaaDoorTotals.lean).
  GIVEN WITH THE SEED: the statements are not yours to turn. If you find one false, say at which input.
  Laid BY PROGRAM, IN A SANDBOX (cutbox-rows.mjs): the forced cells as the released guide's own fill.sh prints them over the translation 9698cd612bd1e38a… (all of the seat's roots in one cut). By AI agents, Wed Nov 11 2026. No macro, syntax, notation, axiom, sorry.
-/
import Derived.Test.YtefdjdipbnnoaaaDoorChecked
import GoSem.Claim
import GoSem.ClaimJoined
import GoSem.ClaimMapViews
import Derived.JoinedTies
import Derived.KernelRfl
namespace Go.Proofs.YtefdjdipbnnoaaaDoor
/- THE CELL 'sum', in the pinned program and in every row, IS THE sha256 OF THE DUMP (.gsa) THAT YtefdjdipbnnoaaaDoorProg.lean LOADS. Nothing in Lean hashes anything: it is a label: what it is worth is what the hold of that sum in a sandbox is worth. -/
noncomputable def Tryd.pinned : Pinned := { name := "ytefdjdipbnnoaaadoor", sum := "9698cd612bd1e38a44c35508d71413191b004a9628011141b82757292cdd0692", checked := Tryd.checked }
namespace Rows
def none {H : Type} : Left H := { results := [], args := [] }

/- WHAT THE LISTED PACKAGE-LEVEL VARIABLES READ AS WHEN THE CALL BEGINS. Each datum BY PROGRAM (the guide's laid-datum.mjs) off the statement by which the dump's own 'gosem.cut.vars' lays the variable. In a bare row this is a premise. The card (YtefdjdipbnnoaaaDoorCards.lean) ties it to the program's text. -/
def laid_math_bits_deBruijn32tab {H : Type} : DataW H := .agg [.lit (.int .u8 0), .lit (.int .u8 1), .lit (.int .u8 28), .lit (.int .u8 2), .lit (.int .u8 29), .lit (.int .u8 14), .lit (.int .u8 24), .lit (.int .u8 3), .lit (.int .u8 30), .lit (.int .u8 22), .lit (.int .u8 20), .lit (.int .u8 15), .lit (.int .u8 25), .lit (.int .u8 17), .lit (.int .u8 4), .lit (.int .u8 8), .lit (.int .u8 31), .lit (.int .u8 27), .lit (.int .u8 13), .lit (.int .u8 23), .lit (.int .u8 21), .lit (.int .u8 19), .lit (.int .u8 16), .lit (.int .u8 7), .lit (.int .u8 26), .lit (.int .u8 12), .lit (.int .u8 18), .lit (.int .u8 6), .lit (.int .u8 11), .lit (.int .u8 5), .lit (.int .u8 10), .lit (.int .u8 9)]
def laid_math_bits_deBruijn64tab {H : Type} : DataW H := .agg [.lit (.int .u8 0), .lit (.int .u8 1), .lit (.int .u8 56), .lit (.int .u8 2), .lit (.int .u8 57), .lit (.int .u8 49), .lit (.int .u8 28), .lit (.int .u8 3), .lit (.int .u8 61), .lit (.int .u8 58), .lit (.int .u8 42), .lit (.int .u8 50), .lit (.int .u8 38), .lit (.int .u8 29), .lit (.int .u8 17), .lit (.int .u8 4), .lit (.int .u8 62), .lit (.int .u8 47), .lit (.int .u8 59), .lit (.int .u8 36), .lit (.int .u8 45), .lit (.int .u8 43), .lit (.int .u8 51), .lit (.int .u8 22), .lit (.int .u8 53), .lit (.int .u8 39), .lit (.int .u8 33), .lit (.int .u8 30), .lit (.int .u8 24), .lit (.int .u8 18), .lit (.int .u8 12), .lit (.int .u8 5), .lit (.int .u8 63), .lit (.int .u8 55), .lit (.int .u8 48), .lit (.int .u8 27), .lit (.int .u8 60), .lit (.int .u8 41), .lit (.int .u8 37), .lit (.int .u8 16), .lit (.int .u8 46), .lit (.int .u8 35), .lit (.int .u8 44), .lit (.int .u8 21), .lit (.int .u8 52), .lit (.int .u8 32), .lit (.int .u8 23), .lit (.int .u8 11), .lit (.int .u8 54), .lit (.int .u8 26), .lit (.int .u8 40), .lit (.int .u8 15), .lit (.int .u8 34), .lit (.int .u8 20), .lit (.int .u8 31), .lit (.int .u8 10), .lit (.int .u8 25), .lit (.int .u8 14), .lit (.int .u8 19), .lit (.int .u8 9), .lit (.int .u8 13), .lit (.int .u8 8), .lit (.int .u8 7), .lit (.int .u8 6)]
def laid_internal_strconv_uint64pow10 {H : Type} : DataW H := .agg [.lit (.int .u64 1), .lit (.int .u64 10), .lit (.int .u64 100), .lit (.int .u64 1000), .lit (.int .u64 10000), .lit (.int .u64 100000), .lit (.int .u64 1000000), .lit (.int .u64 10000000), .lit (.int .u64 100000000), .lit (.int .u64 1000000000), .lit (.int .u64 10000000000), .lit (.int .u64 100000000000), .lit (.int .u64 1000000000000), .lit (.int .u64 10000000000000), .lit (.int .u64 100000000000000), .lit (.int .u64 1000000000000000), .lit (.int .u64 10000000000000000), .lit (.int .u64 100000000000000000), .lit (.int .u64 1000000000000000000), .lit (.int .u64 10000000000000000000)]
def laid_cnc_canon_names {H : Type} : DataW H := .agg [.lit (.string []), .lit (.string [114, 97, 112, 105, 100]), .lit (.string [108, 105, 110, 101]), .lit (.string [97, 114, 99]), .lit (.string [112, 114, 111, 98, 101]), .lit (.string [116, 104, 114, 101, 97, 100]), .lit (.string [116, 97, 112]), .lit (.string [100, 119, 101, 108, 108]), .lit (.string [115, 112, 105, 110, 100, 108, 101]), .lit (.string [99, 111, 111, 108, 97, 110, 116]), .lit (.string [111, 117, 116, 112, 117, 116]), .lit (.string [116, 111, 111, 108]), .lit (.string [115, 116, 111, 112]), .lit (.string [111, 112, 116, 105, 111, 110, 97, 108]), .lit (.string [101, 110, 100])]

/-- 'cnclaw17.CanonValid': WHATEVER THE INPUT: true; the input reads as it did. -/
def canonValidSpec : ChangeSpec := { name := "canonValid", fn := fun _ => fun
  | [d1, d2, d3, d4] => { results := [.lit (.bool true)], args := [d1, d2, d3, d4] }
  | _ => none }
def canonValidRow : OpenClaim := { program := "ytefdjdipbnnoaaadoor", sum := "9698cd612bd1e38a44c35508d71413191b004a9628011141b82757292cdd0692", func := "cnc/cnclaw17.CanonValid", spec := "canonValid", unfollowed := true, recurses := true, named := ["cnc/canon.names", "internal/strconv.uint64pow10", "math/bits.deBruijn32tab", "math/bits.deBruijn64tab"], apart := false, laid := [("math/bits.deBruijn32tab", laid_math_bits_deBruijn32tab), ("math/bits.deBruijn64tab", laid_math_bits_deBruijn64tab), ("internal/strconv.uint64pow10", laid_internal_strconv_uint64pow10), ("cnc/canon.names", laid_cnc_canon_names)] }
def CanonValidSaid : Prop := canonValidRow.holds Tryd.pinned (OpenSpec.ofChange canonValidSpec)

/-- ITS FALSE NEIGHBOUR: 'it returns false'. Refute it at one input. -/
def canonValidWrong : ChangeSpec := { name := "canonValid", fn := fun _ => fun
  | [d1, d2, d3, d4] => { results := [.lit (.bool false)], args := [d1, d2, d3, d4] }
  | _ => none }
def CanonValidWrongFalsely : Prop := canonValidRow.holds Tryd.pinned (OpenSpec.ofChange canonValidWrong)

/-- 'cnclaw17.CanonCheck': WHATEVER THE INPUT: true; the input reads as it did. -/
def canonCheckSpec : ChangeSpec := { name := "canonCheck", fn := fun _ => fun
  | [d1, d2, d3, d4, d5] => { results := [.lit (.bool true)], args := [d1, d2, d3, d4, d5] }
  | _ => none }
def canonCheckRow : OpenClaim := { program := "ytefdjdipbnnoaaadoor", sum := "9698cd612bd1e38a44c35508d71413191b004a9628011141b82757292cdd0692", func := "cnc/cnclaw17.CanonCheck", spec := "canonCheck", unfollowed := true, recurses := true, named := ["cnc/canon.names", "internal/strconv.uint64pow10", "math/bits.deBruijn32tab", "math/bits.deBruijn64tab"], apart := false, laid := [("math/bits.deBruijn32tab", laid_math_bits_deBruijn32tab), ("math/bits.deBruijn64tab", laid_math_bits_deBruijn64tab), ("internal/strconv.uint64pow10", laid_internal_strconv_uint64pow10), ("cnc/canon.names", laid_cnc_canon_names)] }
def CanonCheckSaid : Prop := canonCheckRow.holds Tryd.pinned (OpenSpec.ofChange canonCheckSpec)

/-- ITS FALSE NEIGHBOUR: 'it returns false'. Refute it at one input. -/
def canonCheckWrong : ChangeSpec := { name := "canonCheck", fn := fun _ => fun
  | [d1, d2, d3, d4, d5] => { results := [.lit (.bool false)], args := [d1, d2, d3, d4, d5] }
  | _ => none }
def CanonCheckWrongFalsely : Prop := canonCheckRow.holds Tryd.pinned (OpenSpec.ofChange canonCheckWrong)

/-- 'cnclaw17.CanonFormat': WHATEVER THE INPUT: true; the input reads as it did. -/
def canonFormatSpec : ChangeSpec := { name := "canonFormat", fn := fun _ => fun
  | [d1, d2] => { results := [.lit (.bool true)], args := [d1, d2] }
  | _ => none }
def canonFormatRow : OpenClaim := { program := "ytefdjdipbnnoaaadoor", sum := "9698cd612bd1e38a44c35508d71413191b004a9628011141b82757292cdd0692", func := "cnc/cnclaw17.CanonFormat", spec := "canonFormat", unfollowed := true, recurses := true, named := ["cnc/canon.names", "internal/strconv.uint64pow10", "math/bits.deBruijn32tab", "math/bits.deBruijn64tab"], apart := false, laid := [("math/bits.deBruijn32tab", laid_math_bits_deBruijn32tab), ("math/bits.deBruijn64tab", laid_math_bits_deBruijn64tab), ("internal/strconv.uint64pow10", laid_internal_strconv_uint64pow10), ("cnc/canon.names", laid_cnc_canon_names)] }
def CanonFormatSaid : Prop := canonFormatRow.holds Tryd.pinned (OpenSpec.ofChange canonFormatSpec)

/-- ITS FALSE NEIGHBOUR: 'it returns false'. Refute it at one input. -/
def canonFormatWrong : ChangeSpec := { name := "canonFormat", fn := fun _ => fun
  | [d1, d2] => { results := [.lit (.bool false)], args := [d1, d2] }
  | _ => none }
def CanonFormatWrongFalsely : Prop := canonFormatRow.holds Tryd.pinned (OpenSpec.ofChange canonFormatWrong)

/-- 'cnclaw17.CanonFields': WHATEVER THE INPUT: true; the input reads as it did. -/
def canonFieldsSpec : ChangeSpec := { name := "canonFields", fn := fun _ => fun
  | [d1, d2] => { results := [.lit (.bool true)], args := [d1, d2] }
  | _ => none }
def canonFieldsRow : OpenClaim := { program := "ytefdjdipbnnoaaadoor", sum := "9698cd612bd1e38a44c35508d71413191b004a9628011141b82757292cdd0692", func := "cnc/cnclaw17.CanonFields", spec := "canonFields", unfollowed := true, recurses := true, named := ["cnc/canon.names", "internal/strconv.uint64pow10", "math/bits.deBruijn32tab", "math/bits.deBruijn64tab"], apart := false, laid := [("math/bits.deBruijn32tab", laid_math_bits_deBruijn32tab), ("math/bits.deBruijn64tab", laid_math_bits_deBruijn64tab), ("internal/strconv.uint64pow10", laid_internal_strconv_uint64pow10), ("cnc/canon.names", laid_cnc_canon_names)] }
def CanonFieldsSaid : Prop := canonFieldsRow.holds Tryd.pinned (OpenSpec.ofChange canonFieldsSpec)

/-- ITS FALSE NEIGHBOUR: 'it returns false'. Refute it at one input. -/
def canonFieldsWrong : ChangeSpec := { name := "canonFields", fn := fun _ => fun
  | [d1, d2] => { results := [.lit (.bool false)], args := [d1, d2] }
  | _ => none }
def CanonFieldsWrongFalsely : Prop := canonFieldsRow.holds Tryd.pinned (OpenSpec.ofChange canonFieldsWrong)

/-- 'cnclaw17.CanonJoins': WHATEVER THE INPUT: true; the input reads as it did. -/
def canonJoinsSpec : ChangeSpec := { name := "canonJoins", fn := fun _ => fun
  | [d1, d2, d3] => { results := [.lit (.bool true)], args := [d1, d2, d3] }
  | _ => none }
def canonJoinsRow : OpenClaim := { program := "ytefdjdipbnnoaaadoor", sum := "9698cd612bd1e38a44c35508d71413191b004a9628011141b82757292cdd0692", func := "cnc/cnclaw17.CanonJoins", spec := "canonJoins", unfollowed := true, recurses := true, named := ["cnc/canon.names", "internal/strconv.uint64pow10", "math/bits.deBruijn32tab", "math/bits.deBruijn64tab"], apart := false, laid := [("math/bits.deBruijn32tab", laid_math_bits_deBruijn32tab), ("math/bits.deBruijn64tab", laid_math_bits_deBruijn64tab), ("internal/strconv.uint64pow10", laid_internal_strconv_uint64pow10), ("cnc/canon.names", laid_cnc_canon_names)] }
def CanonJoinsSaid : Prop := canonJoinsRow.holds Tryd.pinned (OpenSpec.ofChange canonJoinsSpec)

/-- ITS FALSE NEIGHBOUR: 'it returns false'. Refute it at one input. -/
def canonJoinsWrong : ChangeSpec := { name := "canonJoins", fn := fun _ => fun
  | [d1, d2, d3] => { results := [.lit (.bool false)], args := [d1, d2, d3] }
  | _ => none }
def CanonJoinsWrongFalsely : Prop := canonJoinsRow.holds Tryd.pinned (OpenSpec.ofChange canonJoinsWrong)

/-- 'cnclaw17.CanonBoxes': WHATEVER THE INPUT: true; the input reads as it did. -/
def canonBoxesSpec : ChangeSpec := { name := "canonBoxes", fn := fun _ => fun
  | [d1, d2, d3] => { results := [.lit (.bool true)], args := [d1, d2, d3] }
  | _ => none }
def canonBoxesRow : OpenClaim := { program := "ytefdjdipbnnoaaadoor", sum := "9698cd612bd1e38a44c35508d71413191b004a9628011141b82757292cdd0692", func := "cnc/cnclaw17.CanonBoxes", spec := "canonBoxes", inPlace := ["math/bits.Sub64"], unfollowed := true, recurses := true, named := ["cnc/canon.names", "internal/strconv.uint64pow10", "math/bits.deBruijn32tab", "math/bits.deBruijn64tab"], apart := false, laid := [("math/bits.deBruijn32tab", laid_math_bits_deBruijn32tab), ("math/bits.deBruijn64tab", laid_math_bits_deBruijn64tab), ("internal/strconv.uint64pow10", laid_internal_strconv_uint64pow10), ("cnc/canon.names", laid_cnc_canon_names)] }
def CanonBoxesSaid : Prop := canonBoxesRow.holds Tryd.pinned (OpenSpec.ofChange canonBoxesSpec)

/-- ITS FALSE NEIGHBOUR: 'it returns false'. Refute it at one input. -/
def canonBoxesWrong : ChangeSpec := { name := "canonBoxes", fn := fun _ => fun
  | [d1, d2, d3] => { results := [.lit (.bool false)], args := [d1, d2, d3] }
  | _ => none }
def CanonBoxesWrongFalsely : Prop := canonBoxesRow.holds Tryd.pinned (OpenSpec.ofChange canonBoxesWrong)

/- THE SECOND FORM. 'bulk': how many values and letters a reading holds, each counted each time it is reached (what is shared counts as often as it is met; a slice's spare places count too). A statement '..UptoSaid' is the law's where the arguments, and the package variables that the reading takes, are together of bulk at most 1048576: NARROWER than '..Said'. Prove '..Said' where nothing that the law and all that it calls make is longer than what came in: it says more and counts as full. Else prove '..UptoSaid'. A law counts once. -/
mutual
def uptoBulk {H : Type} : DataW H → Nat
  | .lit (.string bytes) => bytes.length + 1
  | .lit _ => 1
  | .nil => 1
  | .ptr d => uptoBulk d + 1
  | .slice elems spare => uptoBulkAll elems + uptoBulkAll spare + 1
  | .agg parts => uptoBulkAll parts + 1
  | .iface _ d => uptoBulk d + 1
  | .map entries => uptoBulkEntries entries + 1
  | .held _ => 1
def uptoBulkAll {H : Type} : List (DataW H) → Nat
  | [] => 0
  | d :: r => uptoBulk d + uptoBulkAll r
def uptoBulkEntries {H : Type} : List (Lit × DataW H) → Nat
  | [] => 0
  | x :: r => uptoBulkEntry x + uptoBulkEntries r
def uptoBulkEntry {H : Type} : Lit × DataW H → Nat
  | (.string bytes, d) => bytes.length + uptoBulk d + 1
  | (_, d) => uptoBulk d + 1
 end
def uptoSmall : (H : Type) → List (DataW H) → Bool := fun _ ds => decide (uptoBulkAll ds ≤ 1048576)
def OpenSpec.upto (s : _root_.Go.ChangeSpec) : _root_.Go.OpenSpec := { _root_.Go.OpenSpec.ofChange s with cond := some uptoSmall }

/-- 'cnclaw17.CanonValid', WHERE WHAT IT READS IS OF BULK AT MOST 1048576: true; the input reads as it did. -/
def canonValidUptoRow : OpenClaim := { program := "ytefdjdipbnnoaaadoor", sum := "9698cd612bd1e38a44c35508d71413191b004a9628011141b82757292cdd0692", func := "cnc/cnclaw17.CanonValid", spec := "canonValid", unfollowed := true, recurses := true, named := ["cnc/canon.names", "internal/strconv.uint64pow10", "math/bits.deBruijn32tab", "math/bits.deBruijn64tab"], apart := false, laid := [("math/bits.deBruijn32tab", laid_math_bits_deBruijn32tab), ("math/bits.deBruijn64tab", laid_math_bits_deBruijn64tab), ("internal/strconv.uint64pow10", laid_internal_strconv_uint64pow10), ("cnc/canon.names", laid_cnc_canon_names)], narrowed := true }
def CanonValidUptoSaid : Prop := canonValidUptoRow.holds Tryd.pinned (OpenSpec.upto canonValidSpec)

/-- 'cnclaw17.CanonCheck', WHERE WHAT IT READS IS OF BULK AT MOST 1048576: true; the input reads as it did. -/
def canonCheckUptoRow : OpenClaim := { program := "ytefdjdipbnnoaaadoor", sum := "9698cd612bd1e38a44c35508d71413191b004a9628011141b82757292cdd0692", func := "cnc/cnclaw17.CanonCheck", spec := "canonCheck", unfollowed := true, recurses := true, named := ["cnc/canon.names", "internal/strconv.uint64pow10", "math/bits.deBruijn32tab", "math/bits.deBruijn64tab"], apart := false, laid := [("math/bits.deBruijn32tab", laid_math_bits_deBruijn32tab), ("math/bits.deBruijn64tab", laid_math_bits_deBruijn64tab), ("internal/strconv.uint64pow10", laid_internal_strconv_uint64pow10), ("cnc/canon.names", laid_cnc_canon_names)], narrowed := true }
def CanonCheckUptoSaid : Prop := canonCheckUptoRow.holds Tryd.pinned (OpenSpec.upto canonCheckSpec)

/-- 'cnclaw17.CanonFormat', WHERE WHAT IT READS IS OF BULK AT MOST 1048576: true; the input reads as it did. -/
def canonFormatUptoRow : OpenClaim := { program := "ytefdjdipbnnoaaadoor", sum := "9698cd612bd1e38a44c35508d71413191b004a9628011141b82757292cdd0692", func := "cnc/cnclaw17.CanonFormat", spec := "canonFormat", unfollowed := true, recurses := true, named := ["cnc/canon.names", "internal/strconv.uint64pow10", "math/bits.deBruijn32tab", "math/bits.deBruijn64tab"], apart := false, laid := [("math/bits.deBruijn32tab", laid_math_bits_deBruijn32tab), ("math/bits.deBruijn64tab", laid_math_bits_deBruijn64tab), ("internal/strconv.uint64pow10", laid_internal_strconv_uint64pow10), ("cnc/canon.names", laid_cnc_canon_names)], narrowed := true }
def CanonFormatUptoSaid : Prop := canonFormatUptoRow.holds Tryd.pinned (OpenSpec.upto canonFormatSpec)

/-- 'cnclaw17.CanonFields', WHERE WHAT IT READS IS OF BULK AT MOST 1048576: true; the input reads as it did. -/
def canonFieldsUptoRow : OpenClaim := { program := "ytefdjdipbnnoaaadoor", sum := "9698cd612bd1e38a44c35508d71413191b004a9628011141b82757292cdd0692", func := "cnc/cnclaw17.CanonFields", spec := "canonFields", unfollowed := true, recurses := true, named := ["cnc/canon.names", "internal/strconv.uint64pow10", "math/bits.deBruijn32tab", "math/bits.deBruijn64tab"], apart := false, laid := [("math/bits.deBruijn32tab", laid_math_bits_deBruijn32tab), ("math/bits.deBruijn64tab", laid_math_bits_deBruijn64tab), ("internal/strconv.uint64pow10", laid_internal_strconv_uint64pow10), ("cnc/canon.names", laid_cnc_canon_names)], narrowed := true }
def CanonFieldsUptoSaid : Prop := canonFieldsUptoRow.holds Tryd.pinned (OpenSpec.upto canonFieldsSpec)

/-- 'cnclaw17.CanonJoins', WHERE WHAT IT READS IS OF BULK AT MOST 1048576: true; the input reads as it did. -/
def canonJoinsUptoRow : OpenClaim := { program := "ytefdjdipbnnoaaadoor", sum := "9698cd612bd1e38a44c35508d71413191b004a9628011141b82757292cdd0692", func := "cnc/cnclaw17.CanonJoins", spec := "canonJoins", unfollowed := true, recurses := true, named := ["cnc/canon.names", "internal/strconv.uint64pow10", "math/bits.deBruijn32tab", "math/bits.deBruijn64tab"], apart := false, laid := [("math/bits.deBruijn32tab", laid_math_bits_deBruijn32tab), ("math/bits.deBruijn64tab", laid_math_bits_deBruijn64tab), ("internal/strconv.uint64pow10", laid_internal_strconv_uint64pow10), ("cnc/canon.names", laid_cnc_canon_names)], narrowed := true }
def CanonJoinsUptoSaid : Prop := canonJoinsUptoRow.holds Tryd.pinned (OpenSpec.upto canonJoinsSpec)

/-- 'cnclaw17.CanonBoxes', WHERE WHAT IT READS IS OF BULK AT MOST 1048576: true; the input reads as it did. -/
def canonBoxesUptoRow : OpenClaim := { program := "ytefdjdipbnnoaaadoor", sum := "9698cd612bd1e38a44c35508d71413191b004a9628011141b82757292cdd0692", func := "cnc/cnclaw17.CanonBoxes", spec := "canonBoxes", inPlace := ["math/bits.Sub64"], unfollowed := true, recurses := true, named := ["cnc/canon.names", "internal/strconv.uint64pow10", "math/bits.deBruijn32tab", "math/bits.deBruijn64tab"], apart := false, laid := [("math/bits.deBruijn32tab", laid_math_bits_deBruijn32tab), ("math/bits.deBruijn64tab", laid_math_bits_deBruijn64tab), ("internal/strconv.uint64pow10", laid_internal_strconv_uint64pow10), ("cnc/canon.names", laid_cnc_canon_names)], narrowed := true }
def CanonBoxesUptoSaid : Prop := canonBoxesUptoRow.holds Tryd.pinned (OpenSpec.upto canonBoxesSpec)

end Rows
end Go.Proofs.YtefdjdipbnnoaaaDoor
