/-
  DERIVED. GIVEN WITH THE SEED: THE CARDS: each row of YtkafmpgihhnhdaaDoorRows.lean that lists a variable, with what it lists TIED to the program's text (the seventh form; the later family's looks); each row that meets fmt, with fmt's text TOLD by the authors' own Lean function (tested against real Go, not proved from fmt's source: count such statements apart). THE CARD IS WHAT COUNTS. Prove the row's statement (the work); the ties are given (YtkafmpgihhnhdaaDoorTie.lean); close each card by the builder's one call (the guide's Derived/Test/ToyasCard.lean, 'card_holds'). Laid BY PROGRAM, IN A SANDBOX (cutbox-door.mjs). By AI agents, Wed Nov 11 2026. No macro, syntax, notation, axiom, sorry.
-/
import Derived.Test.YtkafmpgihhnhdaaDoorRows
import GoSem.ClaimSeven
namespace Go.Proofs.YtkafmpgihhnhdaaDoor
namespace Rows

/-- THE TIED CARD OF 'cnclaw33.EventValid'. -/
def eventValidCard : Claim7 := { stood := { row := eventValidRow, standIns := [], harness := (true, "3d954c1ef81283b069da24333fdd2ed61a6122d80486e8b18eada7e8da5fd882"), looks := false }, kinds := [], alts := [], laidByText := true, laidKinds := [.data, .data, .data, .data, .data, .pinned], laidTests := true, laidLooks := .later }
def EventValidCardSaid : Prop := Claim7.holds Tryd.pinned (.plain (OpenSpec.ofChange eventValidSpec)) eventValidCard

/-- THE TIED CARD OF 'cnclaw33.EventFormat'. -/
def eventFormatCard : Claim7 := { stood := { row := eventFormatRow, standIns := [], harness := (true, "3d954c1ef81283b069da24333fdd2ed61a6122d80486e8b18eada7e8da5fd882"), looks := false }, kinds := [], alts := [], laidByText := true, laidKinds := [.data, .data, .data, .data, .data, .pinned], laidTests := true, laidLooks := .later }
def EventFormatCardSaid : Prop := Claim7.holds Tryd.pinned (.plain (OpenSpec.ofChange eventFormatSpec)) eventFormatCard

/-- THE TIED CARD OF 'cnclaw33.EventBack'. -/
def eventBackCard : Claim7 := { stood := { row := eventBackRow, standIns := [], harness := (true, "3d954c1ef81283b069da24333fdd2ed61a6122d80486e8b18eada7e8da5fd882"), looks := false }, kinds := [], alts := [], laidByText := true, laidKinds := [.data, .data, .data, .data, .data, .pinned], laidTests := true, laidLooks := .later }
def EventBackCardSaid : Prop := Claim7.holds Tryd.pinned (.plain (OpenSpec.ofChange eventBackSpec)) eventBackCard

/-- THE TIED CARD OF 'cnclaw33.EventParse'. -/
def eventParseCard : Claim7 := { stood := { row := eventParseRow, standIns := [], harness := (true, "3d954c1ef81283b069da24333fdd2ed61a6122d80486e8b18eada7e8da5fd882"), looks := false }, kinds := [], alts := [], laidByText := true, laidKinds := [.data, .data, .data, .data, .data, .pinned], laidTests := true, laidLooks := .later }
def EventParseCardSaid : Prop := Claim7.holds Tryd.pinned (.plain (OpenSpec.ofChange eventParseSpec)) eventParseCard

/-- THE TIED CARD OF 'cnclaw33.EventCanonical'. -/
def eventCanonicalCard : Claim7 := { stood := { row := eventCanonicalRow, standIns := [], harness := (true, "3d954c1ef81283b069da24333fdd2ed61a6122d80486e8b18eada7e8da5fd882"), looks := false }, kinds := [], alts := [], laidByText := true, laidKinds := [.data, .data, .data, .data, .data, .pinned], laidTests := true, laidLooks := .later }
def EventCanonicalCardSaid : Prop := Claim7.holds Tryd.pinned (.plain (OpenSpec.ofChange eventCanonicalSpec)) eventCanonicalCard

/-- THE TIED CARD OF 'cnclaw33.EventAt'. -/
def eventAtCard : Claim7 := { stood := { row := eventAtRow, standIns := [], harness := (true, "3d954c1ef81283b069da24333fdd2ed61a6122d80486e8b18eada7e8da5fd882"), looks := false }, kinds := [], alts := [], laidByText := true, laidKinds := [.data, .data, .data, .data, .data, .pinned], laidTests := true, laidLooks := .later }
def EventAtCardSaid : Prop := Claim7.holds Tryd.pinned (.plain (OpenSpec.ofChange eventAtSpec)) eventAtCard

/-- THE SECOND FORM's CARD OF 'cnclaw33.EventValid'. -/
def eventValidUptoCard : Claim7 := { stood := { row := eventValidUptoRow, standIns := [], harness := (true, "3d954c1ef81283b069da24333fdd2ed61a6122d80486e8b18eada7e8da5fd882"), looks := false }, kinds := [], alts := [], laidByText := true, laidKinds := [.data, .data, .data, .data, .data, .pinned], laidTests := true, laidLooks := .later }
def EventValidUptoCardSaid : Prop := Claim7.holds Tryd.pinned (.plain (OpenSpec.upto eventValidSpec)) eventValidUptoCard

/-- THE SECOND FORM's CARD OF 'cnclaw33.EventFormat'. -/
def eventFormatUptoCard : Claim7 := { stood := { row := eventFormatUptoRow, standIns := [], harness := (true, "3d954c1ef81283b069da24333fdd2ed61a6122d80486e8b18eada7e8da5fd882"), looks := false }, kinds := [], alts := [], laidByText := true, laidKinds := [.data, .data, .data, .data, .data, .pinned], laidTests := true, laidLooks := .later }
def EventFormatUptoCardSaid : Prop := Claim7.holds Tryd.pinned (.plain (OpenSpec.upto eventFormatSpec)) eventFormatUptoCard

/-- THE SECOND FORM's CARD OF 'cnclaw33.EventBack'. -/
def eventBackUptoCard : Claim7 := { stood := { row := eventBackUptoRow, standIns := [], harness := (true, "3d954c1ef81283b069da24333fdd2ed61a6122d80486e8b18eada7e8da5fd882"), looks := false }, kinds := [], alts := [], laidByText := true, laidKinds := [.data, .data, .data, .data, .data, .pinned], laidTests := true, laidLooks := .later }
def EventBackUptoCardSaid : Prop := Claim7.holds Tryd.pinned (.plain (OpenSpec.upto eventBackSpec)) eventBackUptoCard

/-- THE SECOND FORM's CARD OF 'cnclaw33.EventParse'. -/
def eventParseUptoCard : Claim7 := { stood := { row := eventParseUptoRow, standIns := [], harness := (true, "3d954c1ef81283b069da24333fdd2ed61a6122d80486e8b18eada7e8da5fd882"), looks := false }, kinds := [], alts := [], laidByText := true, laidKinds := [.data, .data, .data, .data, .data, .pinned], laidTests := true, laidLooks := .later }
def EventParseUptoCardSaid : Prop := Claim7.holds Tryd.pinned (.plain (OpenSpec.upto eventParseSpec)) eventParseUptoCard

/-- THE SECOND FORM's CARD OF 'cnclaw33.EventCanonical'. -/
def eventCanonicalUptoCard : Claim7 := { stood := { row := eventCanonicalUptoRow, standIns := [], harness := (true, "3d954c1ef81283b069da24333fdd2ed61a6122d80486e8b18eada7e8da5fd882"), looks := false }, kinds := [], alts := [], laidByText := true, laidKinds := [.data, .data, .data, .data, .data, .pinned], laidTests := true, laidLooks := .later }
def EventCanonicalUptoCardSaid : Prop := Claim7.holds Tryd.pinned (.plain (OpenSpec.upto eventCanonicalSpec)) eventCanonicalUptoCard

/-- THE SECOND FORM's CARD OF 'cnclaw33.EventAt'. -/
def eventAtUptoCard : Claim7 := { stood := { row := eventAtUptoRow, standIns := [], harness := (true, "3d954c1ef81283b069da24333fdd2ed61a6122d80486e8b18eada7e8da5fd882"), looks := false }, kinds := [], alts := [], laidByText := true, laidKinds := [.data, .data, .data, .data, .data, .pinned], laidTests := true, laidLooks := .later }
def EventAtUptoCardSaid : Prop := Claim7.holds Tryd.pinned (.plain (OpenSpec.upto eventAtSpec)) eventAtUptoCard
end Rows
end Go.Proofs.YtkafmpgihhnhdaaDoor
