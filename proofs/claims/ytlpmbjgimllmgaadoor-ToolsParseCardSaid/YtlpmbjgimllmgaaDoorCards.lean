/-
  DERIVED. GIVEN WITH THE SEED: THE CARDS: each row of YtlpmbjgimllmgaaDoorRows.lean that lists a variable, with what it lists TIED to the program's text (the seventh form; the later family's looks); each row that meets fmt, with fmt's text TOLD by the authors' own Lean function (tested against real Go, not proved from fmt's source: count such statements apart). THE CARD IS WHAT COUNTS. Prove the row's statement (the work); the ties are given (YtlpmbjgimllmgaaDoorTie.lean); close each card by the builder's one call (the guide's Derived/Test/ToyasCard.lean, 'card_holds'). Laid BY PROGRAM, IN A SANDBOX (cutbox-door.mjs). By AI agents, Wed Nov 11 2026. No macro, syntax, notation, axiom, sorry.
-/
import Derived.Test.YtlpmbjgimllmgaaDoorRows
import GoSem.ClaimSeven
namespace Go.Proofs.YtlpmbjgimllmgaaDoor
namespace Rows

/-- THE TIED CARD OF 'cnclaw16.ToolsValid'. -/
def toolsValidCard : Claim7 := { stood := { row := toolsValidRow, standIns := [], harness := (true, "e75fbcbca96df26041a0fcd84fce9af721478cd142bccaec2010678a3f7c2940"), looks := true }, kinds := [], alts := [], laidByText := true, laidKinds := [.data, .data, .data, .data, .sentinel, .sentinel, .pinned], laidTests := true, laidLooks := .later }
def ToolsValidCardSaid : Prop := Claim7.holds Tryd.pinned (.plain (OpenSpec.ofChange toolsValidSpec)) toolsValidCard

/-- THE TIED CARD OF 'cnclaw16.ToolsParse'. -/
def toolsParseCard : Claim7 := { stood := { row := toolsParseRow, standIns := [], harness := (true, "e75fbcbca96df26041a0fcd84fce9af721478cd142bccaec2010678a3f7c2940"), looks := true }, kinds := [], alts := [], laidByText := true, laidKinds := [.data, .data, .data, .data, .sentinel, .sentinel, .pinned], laidTests := true, laidLooks := .later }
def ToolsParseCardSaid : Prop := Claim7.holds Tryd.pinned (.plain (OpenSpec.ofChange toolsParseSpec)) toolsParseCard

/-- THE TIED CARD OF 'cnclaw16.ToolsRoundTrip'. -/
def toolsRoundTripCard : Claim7 := { stood := { row := toolsRoundTripRow, standIns := [], harness := (true, "e75fbcbca96df26041a0fcd84fce9af721478cd142bccaec2010678a3f7c2940"), looks := true }, kinds := [], alts := [], laidByText := true, laidKinds := [.data, .data, .data, .data, .sentinel, .sentinel, .pinned], laidTests := true, laidLooks := .later }
def ToolsRoundTripCardSaid : Prop := Claim7.holds Tryd.pinned (.plain (OpenSpec.ofChange toolsRoundTripSpec)) toolsRoundTripCard

/-- THE TIED CARD OF 'cnclaw16.ToolsOffsets'. -/
def toolsOffsetsCard : Claim7 := { stood := { row := toolsOffsetsRow, standIns := [], harness := (true, "e75fbcbca96df26041a0fcd84fce9af721478cd142bccaec2010678a3f7c2940"), looks := true }, kinds := [], alts := [], laidByText := true, laidKinds := [.data, .data, .data, .data, .sentinel, .sentinel, .pinned], laidTests := true, laidLooks := .later }
def ToolsOffsetsCardSaid : Prop := Claim7.holds Tryd.pinned (.plain (OpenSpec.ofChange toolsOffsetsSpec)) toolsOffsetsCard

/-- THE TIED CARD OF 'cnclaw16.ToolsSigns'. -/
def toolsSignsCard : Claim7 := { stood := { row := toolsSignsRow, standIns := [], harness := (true, "e75fbcbca96df26041a0fcd84fce9af721478cd142bccaec2010678a3f7c2940"), looks := true }, kinds := [], alts := [], laidByText := true, laidKinds := [.data, .data, .data, .data, .sentinel, .sentinel, .pinned], laidTests := true, laidLooks := .later }
def ToolsSignsCardSaid : Prop := Claim7.holds Tryd.pinned (.plain (OpenSpec.ofChange toolsSignsSpec)) toolsSignsCard

/-- THE TIED CARD OF 'cnclaw16.ToolsNumbers'. -/
def toolsNumbersCard : Claim7 := { stood := { row := toolsNumbersRow, standIns := [], harness := (true, "e75fbcbca96df26041a0fcd84fce9af721478cd142bccaec2010678a3f7c2940"), looks := true }, kinds := [], alts := [], laidByText := true, laidKinds := [.data, .data, .data, .data, .sentinel, .sentinel, .pinned], laidTests := true, laidLooks := .later }
def ToolsNumbersCardSaid : Prop := Claim7.holds Tryd.pinned (.plain (OpenSpec.ofChange toolsNumbersSpec)) toolsNumbersCard

/-- THE SECOND FORM's CARD OF 'cnclaw16.ToolsValid'. -/
def toolsValidUptoCard : Claim7 := { stood := { row := toolsValidUptoRow, standIns := [], harness := (true, "e75fbcbca96df26041a0fcd84fce9af721478cd142bccaec2010678a3f7c2940"), looks := true }, kinds := [], alts := [], laidByText := true, laidKinds := [.data, .data, .data, .data, .sentinel, .sentinel, .pinned], laidTests := true, laidLooks := .later }
def ToolsValidUptoCardSaid : Prop := Claim7.holds Tryd.pinned (.plain (OpenSpec.upto toolsValidSpec)) toolsValidUptoCard

/-- THE SECOND FORM's CARD OF 'cnclaw16.ToolsParse'. -/
def toolsParseUptoCard : Claim7 := { stood := { row := toolsParseUptoRow, standIns := [], harness := (true, "e75fbcbca96df26041a0fcd84fce9af721478cd142bccaec2010678a3f7c2940"), looks := true }, kinds := [], alts := [], laidByText := true, laidKinds := [.data, .data, .data, .data, .sentinel, .sentinel, .pinned], laidTests := true, laidLooks := .later }
def ToolsParseUptoCardSaid : Prop := Claim7.holds Tryd.pinned (.plain (OpenSpec.upto toolsParseSpec)) toolsParseUptoCard

/-- THE SECOND FORM's CARD OF 'cnclaw16.ToolsRoundTrip'. -/
def toolsRoundTripUptoCard : Claim7 := { stood := { row := toolsRoundTripUptoRow, standIns := [], harness := (true, "e75fbcbca96df26041a0fcd84fce9af721478cd142bccaec2010678a3f7c2940"), looks := true }, kinds := [], alts := [], laidByText := true, laidKinds := [.data, .data, .data, .data, .sentinel, .sentinel, .pinned], laidTests := true, laidLooks := .later }
def ToolsRoundTripUptoCardSaid : Prop := Claim7.holds Tryd.pinned (.plain (OpenSpec.upto toolsRoundTripSpec)) toolsRoundTripUptoCard

/-- THE SECOND FORM's CARD OF 'cnclaw16.ToolsOffsets'. -/
def toolsOffsetsUptoCard : Claim7 := { stood := { row := toolsOffsetsUptoRow, standIns := [], harness := (true, "e75fbcbca96df26041a0fcd84fce9af721478cd142bccaec2010678a3f7c2940"), looks := true }, kinds := [], alts := [], laidByText := true, laidKinds := [.data, .data, .data, .data, .sentinel, .sentinel, .pinned], laidTests := true, laidLooks := .later }
def ToolsOffsetsUptoCardSaid : Prop := Claim7.holds Tryd.pinned (.plain (OpenSpec.upto toolsOffsetsSpec)) toolsOffsetsUptoCard

/-- THE SECOND FORM's CARD OF 'cnclaw16.ToolsSigns'. -/
def toolsSignsUptoCard : Claim7 := { stood := { row := toolsSignsUptoRow, standIns := [], harness := (true, "e75fbcbca96df26041a0fcd84fce9af721478cd142bccaec2010678a3f7c2940"), looks := true }, kinds := [], alts := [], laidByText := true, laidKinds := [.data, .data, .data, .data, .sentinel, .sentinel, .pinned], laidTests := true, laidLooks := .later }
def ToolsSignsUptoCardSaid : Prop := Claim7.holds Tryd.pinned (.plain (OpenSpec.upto toolsSignsSpec)) toolsSignsUptoCard

/-- THE SECOND FORM's CARD OF 'cnclaw16.ToolsNumbers'. -/
def toolsNumbersUptoCard : Claim7 := { stood := { row := toolsNumbersUptoRow, standIns := [], harness := (true, "e75fbcbca96df26041a0fcd84fce9af721478cd142bccaec2010678a3f7c2940"), looks := true }, kinds := [], alts := [], laidByText := true, laidKinds := [.data, .data, .data, .data, .sentinel, .sentinel, .pinned], laidTests := true, laidLooks := .later }
def ToolsNumbersUptoCardSaid : Prop := Claim7.holds Tryd.pinned (.plain (OpenSpec.upto toolsNumbersSpec)) toolsNumbersUptoCard
end Rows
end Go.Proofs.YtlpmbjgimllmgaaDoor
