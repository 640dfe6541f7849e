/-
  DERIVED. GIVEN WITH THE SEED: THE CARDS: each row of YtiphekdahmiaeaaDoorRows.lean that lists a variable, with what it lists TIED to the program's text (the seventh form; the later family's looks); each row that meets fmt, with fmt's text TOLD by the authors' own Lean function (tested against real Go, not proved from fmt's source: count such statements apart). THE CARD IS WHAT COUNTS. Prove the row's statement (the work); the ties are given (YtiphekdahmiaeaaDoorTie.lean); close each card by the builder's one call (the guide's Derived/Test/ToyasCard.lean, 'card_holds'). Laid BY PROGRAM, IN A SANDBOX (cutbox-door.mjs). By AI agents, Wed Nov 11 2026. No macro, syntax, notation, axiom, sorry.
-/
import Derived.Test.YtiphekdahmiaeaaDoorRows
import GoSem.ClaimSeven
namespace Go.Proofs.YtiphekdahmiaeaaDoor
namespace Rows

/-- THE TIED CARD OF 'cnclaw05.LexTokens'. -/
def lexTokensCard : Claim7 := { stood := { row := lexTokensRow, standIns := [], harness := (true, "1756ef956887ea1c17dc390b56a580745c1811c6f2c5ebe96a9577fa57489946"), looks := false }, kinds := [], alts := [], laidByText := true, laidKinds := [.data], laidTests := true, laidLooks := .later }
def LexTokensCardSaid : Prop := Claim7.holds Tryd.pinned (.plain (OpenSpec.ofChange lexTokensSpec)) lexTokensCard

/-- THE TIED CARD OF 'cnclaw05.LexNames'. -/
def lexNamesCard : Claim7 := { stood := { row := lexNamesRow, standIns := [], harness := (true, "1756ef956887ea1c17dc390b56a580745c1811c6f2c5ebe96a9577fa57489946"), looks := false }, kinds := [], alts := [], laidByText := true, laidKinds := [.data], laidTests := true, laidLooks := .later }
def LexNamesCardSaid : Prop := Claim7.holds Tryd.pinned (.plain (OpenSpec.ofChange lexNamesSpec)) lexNamesCard

/-- THE TIED CARD OF 'cnclaw05.LexSpaces'. -/
def lexSpacesCard : Claim7 := { stood := { row := lexSpacesRow, standIns := [], harness := (true, "1756ef956887ea1c17dc390b56a580745c1811c6f2c5ebe96a9577fa57489946"), looks := false }, kinds := [], alts := [], laidByText := true, laidKinds := [.data], laidTests := true, laidLooks := .later }
def LexSpacesCardSaid : Prop := Claim7.holds Tryd.pinned (.plain (OpenSpec.ofChange lexSpacesSpec)) lexSpacesCard

/-- THE TIED CARD OF 'cnclaw05.LexOffsets'. -/
def lexOffsetsCard : Claim7 := { stood := { row := lexOffsetsRow, standIns := [], harness := (true, "1756ef956887ea1c17dc390b56a580745c1811c6f2c5ebe96a9577fa57489946"), looks := false }, kinds := [], alts := [], laidByText := true, laidKinds := [.data], laidTests := true, laidLooks := .later }
def LexOffsetsCardSaid : Prop := Claim7.holds Tryd.pinned (.plain (OpenSpec.ofChange lexOffsetsSpec)) lexOffsetsCard

/-- THE TIED CARD OF 'cnclaw05.LexJoins'. -/
def lexJoinsCard : Claim7 := { stood := { row := lexJoinsRow, standIns := [], harness := (true, "1756ef956887ea1c17dc390b56a580745c1811c6f2c5ebe96a9577fa57489946"), looks := false }, kinds := [], alts := [], laidByText := true, laidKinds := [.data], laidTests := true, laidLooks := .later }
def LexJoinsCardSaid : Prop := Claim7.holds Tryd.pinned (.plain (OpenSpec.ofChange lexJoinsSpec)) lexJoinsCard

/-- THE TIED CARD OF 'cnclaw05.LexNumbers'. -/
def lexNumbersCard : Claim7 := { stood := { row := lexNumbersRow, standIns := [], harness := (true, "1756ef956887ea1c17dc390b56a580745c1811c6f2c5ebe96a9577fa57489946"), looks := false }, kinds := [], alts := [], laidByText := true, laidKinds := [.data], laidTests := true, laidLooks := .later }
def LexNumbersCardSaid : Prop := Claim7.holds Tryd.pinned (.plain (OpenSpec.ofChange lexNumbersSpec)) lexNumbersCard

/-- THE TIED CARD OF 'cnclaw05.LexStrange'. -/
def lexStrangeCard : Claim7 := { stood := { row := lexStrangeRow, standIns := [], harness := (true, "1756ef956887ea1c17dc390b56a580745c1811c6f2c5ebe96a9577fa57489946"), looks := false }, kinds := [], alts := [], laidByText := true, laidKinds := [.data], laidTests := true, laidLooks := .later }
def LexStrangeCardSaid : Prop := Claim7.holds Tryd.pinned (.plain (OpenSpec.ofChange lexStrangeSpec)) lexStrangeCard

/-- THE SECOND FORM's CARD OF 'cnclaw05.LexTokens'. -/
def lexTokensUptoCard : Claim7 := { stood := { row := lexTokensUptoRow, standIns := [], harness := (true, "1756ef956887ea1c17dc390b56a580745c1811c6f2c5ebe96a9577fa57489946"), looks := false }, kinds := [], alts := [], laidByText := true, laidKinds := [.data], laidTests := true, laidLooks := .later }
def LexTokensUptoCardSaid : Prop := Claim7.holds Tryd.pinned (.plain (OpenSpec.upto lexTokensSpec)) lexTokensUptoCard

/-- THE SECOND FORM's CARD OF 'cnclaw05.LexNames'. -/
def lexNamesUptoCard : Claim7 := { stood := { row := lexNamesUptoRow, standIns := [], harness := (true, "1756ef956887ea1c17dc390b56a580745c1811c6f2c5ebe96a9577fa57489946"), looks := false }, kinds := [], alts := [], laidByText := true, laidKinds := [.data], laidTests := true, laidLooks := .later }
def LexNamesUptoCardSaid : Prop := Claim7.holds Tryd.pinned (.plain (OpenSpec.upto lexNamesSpec)) lexNamesUptoCard

/-- THE SECOND FORM's CARD OF 'cnclaw05.LexSpaces'. -/
def lexSpacesUptoCard : Claim7 := { stood := { row := lexSpacesUptoRow, standIns := [], harness := (true, "1756ef956887ea1c17dc390b56a580745c1811c6f2c5ebe96a9577fa57489946"), looks := false }, kinds := [], alts := [], laidByText := true, laidKinds := [.data], laidTests := true, laidLooks := .later }
def LexSpacesUptoCardSaid : Prop := Claim7.holds Tryd.pinned (.plain (OpenSpec.upto lexSpacesSpec)) lexSpacesUptoCard

/-- THE SECOND FORM's CARD OF 'cnclaw05.LexOffsets'. -/
def lexOffsetsUptoCard : Claim7 := { stood := { row := lexOffsetsUptoRow, standIns := [], harness := (true, "1756ef956887ea1c17dc390b56a580745c1811c6f2c5ebe96a9577fa57489946"), looks := false }, kinds := [], alts := [], laidByText := true, laidKinds := [.data], laidTests := true, laidLooks := .later }
def LexOffsetsUptoCardSaid : Prop := Claim7.holds Tryd.pinned (.plain (OpenSpec.upto lexOffsetsSpec)) lexOffsetsUptoCard

/-- THE SECOND FORM's CARD OF 'cnclaw05.LexJoins'. -/
def lexJoinsUptoCard : Claim7 := { stood := { row := lexJoinsUptoRow, standIns := [], harness := (true, "1756ef956887ea1c17dc390b56a580745c1811c6f2c5ebe96a9577fa57489946"), looks := false }, kinds := [], alts := [], laidByText := true, laidKinds := [.data], laidTests := true, laidLooks := .later }
def LexJoinsUptoCardSaid : Prop := Claim7.holds Tryd.pinned (.plain (OpenSpec.upto lexJoinsSpec)) lexJoinsUptoCard

/-- THE SECOND FORM's CARD OF 'cnclaw05.LexNumbers'. -/
def lexNumbersUptoCard : Claim7 := { stood := { row := lexNumbersUptoRow, standIns := [], harness := (true, "1756ef956887ea1c17dc390b56a580745c1811c6f2c5ebe96a9577fa57489946"), looks := false }, kinds := [], alts := [], laidByText := true, laidKinds := [.data], laidTests := true, laidLooks := .later }
def LexNumbersUptoCardSaid : Prop := Claim7.holds Tryd.pinned (.plain (OpenSpec.upto lexNumbersSpec)) lexNumbersUptoCard

/-- THE SECOND FORM's CARD OF 'cnclaw05.LexStrange'. -/
def lexStrangeUptoCard : Claim7 := { stood := { row := lexStrangeUptoRow, standIns := [], harness := (true, "1756ef956887ea1c17dc390b56a580745c1811c6f2c5ebe96a9577fa57489946"), looks := false }, kinds := [], alts := [], laidByText := true, laidKinds := [.data], laidTests := true, laidLooks := .later }
def LexStrangeUptoCardSaid : Prop := Claim7.holds Tryd.pinned (.plain (OpenSpec.upto lexStrangeSpec)) lexStrangeUptoCard
end Rows
end Go.Proofs.YtiphekdahmiaeaaDoor
