/-
  DERIVED. GIVEN WITH THE SEED: THE CARDS: each row of YtefdjdipbnnoaaaGreatDoorRows.lean that lists a variable, with what it lists TIED to the program's text (the seventh form; the later family's looks); each row that meets fmt, with fmt's text TOLD by the authors' own Lean function (tested against real Go, not proved from fmt's source: count such statements apart). THE CARD IS WHAT COUNTS. Prove the row's statement (the work); the ties are given (YtefdjdipbnnoaaaGreatDoorTie.lean); close each card by the builder's one call (the guide's Derived/Test/ToyasCard.lean, 'card_holds'). Laid BY PROGRAM, IN A SANDBOX (cutbox-door.mjs). By AI agents, Wed Nov 11 2026. No macro, syntax, notation, axiom, sorry.
-/
import Derived.Test.YtefdjdipbnnoaaaGreatDoorRows
import GoSem.ClaimSeven
namespace Go.Proofs.YtefdjdipbnnoaaaGreatDoor
namespace Rows

/-- THE TIED CARD OF 'cnclaw17.CanonExtent'. -/
def canonExtentCard : Claim7 := { stood := { row := canonExtentRow, standIns := [], harness := (true, "ee2e76e6cf877ef10e84aacbbc70b7089e0ae2e1b7b852a3299ea3a9f25dbee9"), looks := true }, kinds := [], alts := [], laidByText := true, laidKinds := [.data, .data, .data, .data], laidTests := true, laidLooks := .later }
def CanonExtentCardSaid : Prop := Claim7.holds Tryz.pinned (.plain (OpenSpec.ofChange canonExtentSpec)) canonExtentCard

/-- THE TIED CARD OF 'cnclaw17.CanonParse'. -/
def canonParseCard : Claim7 := { stood := { row := canonParseRow, standIns := [], harness := (true, "ee2e76e6cf877ef10e84aacbbc70b7089e0ae2e1b7b852a3299ea3a9f25dbee9"), looks := true }, kinds := [], alts := [], laidByText := true, laidKinds := [.data, .data, .data, .data, .sentinel, .sentinel, .data, .pinned], laidTests := true, laidLooks := .later }
def CanonParseCardSaid : Prop := Claim7.holds Tryz.pinned (.plain (OpenSpec.ofChange canonParseSpec)) canonParseCard

/-- THE TIED CARD OF 'cnclaw17.CanonRoundTrip'. -/
def canonRoundTripCard : Claim7 := { stood := { row := canonRoundTripRow, standIns := [], harness := (true, "ee2e76e6cf877ef10e84aacbbc70b7089e0ae2e1b7b852a3299ea3a9f25dbee9"), looks := true }, kinds := [], alts := [], laidByText := true, laidKinds := [.data, .data, .data, .data, .sentinel, .sentinel, .data, .pinned], laidTests := true, laidLooks := .later }
def CanonRoundTripCardSaid : Prop := Claim7.holds Tryz.pinned (.plain (OpenSpec.ofChange canonRoundTripSpec)) canonRoundTripCard

/-- THE SECOND FORM's CARD OF 'cnclaw17.CanonExtent'. -/
def canonExtentUptoCard : Claim7 := { stood := { row := canonExtentUptoRow, standIns := [], harness := (true, "ee2e76e6cf877ef10e84aacbbc70b7089e0ae2e1b7b852a3299ea3a9f25dbee9"), looks := true }, kinds := [], alts := [], laidByText := true, laidKinds := [.data, .data, .data, .data], laidTests := true, laidLooks := .later }
def CanonExtentUptoCardSaid : Prop := Claim7.holds Tryz.pinned (.plain (OpenSpec.upto canonExtentSpec)) canonExtentUptoCard

/-- THE SECOND FORM's CARD OF 'cnclaw17.CanonParse'. -/
def canonParseUptoCard : Claim7 := { stood := { row := canonParseUptoRow, standIns := [], harness := (true, "ee2e76e6cf877ef10e84aacbbc70b7089e0ae2e1b7b852a3299ea3a9f25dbee9"), looks := true }, kinds := [], alts := [], laidByText := true, laidKinds := [.data, .data, .data, .data, .sentinel, .sentinel, .data, .pinned], laidTests := true, laidLooks := .later }
def CanonParseUptoCardSaid : Prop := Claim7.holds Tryz.pinned (.plain (OpenSpec.upto canonParseSpec)) canonParseUptoCard

/-- THE SECOND FORM's CARD OF 'cnclaw17.CanonRoundTrip'. -/
def canonRoundTripUptoCard : Claim7 := { stood := { row := canonRoundTripUptoRow, standIns := [], harness := (true, "ee2e76e6cf877ef10e84aacbbc70b7089e0ae2e1b7b852a3299ea3a9f25dbee9"), looks := true }, kinds := [], alts := [], laidByText := true, laidKinds := [.data, .data, .data, .data, .sentinel, .sentinel, .data, .pinned], laidTests := true, laidLooks := .later }
def CanonRoundTripUptoCardSaid : Prop := Claim7.holds Tryz.pinned (.plain (OpenSpec.upto canonRoundTripSpec)) canonRoundTripUptoCard
end Rows
end Go.Proofs.YtefdjdipbnnoaaaGreatDoor
