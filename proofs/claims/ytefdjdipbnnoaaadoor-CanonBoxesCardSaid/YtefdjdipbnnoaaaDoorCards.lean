/-
  DERIVED. GIVEN WITH THE SEED: THE CARDS: each row of YtefdjdipbnnoaaaDoorRows.lean that lists a variable, with what it lists TIED to the program's text (the seventh form; the later family's looks); each row that meets fmt, with fmt's text TOLD by the authors' own Lean function (tested against real Go, not proved from fmt's source: count such statements apart). THE CARD IS WHAT COUNTS. Prove the row's statement (the work); the ties are given (YtefdjdipbnnoaaaDoorTie.lean); close each card by the builder's one call (the guide's Derived/Test/ToyasCard.lean, 'card_holds'). Laid BY PROGRAM, IN A SANDBOX (cutbox-door.mjs). By AI agents, Wed Nov 11 2026. No macro, syntax, notation, axiom, sorry.
-/
import Derived.Test.YtefdjdipbnnoaaaDoorRows
import GoSem.ClaimSeven
namespace Go.Proofs.YtefdjdipbnnoaaaDoor
namespace Rows

/-- THE TIED CARD OF 'cnclaw17.CanonValid'. -/
def canonValidCard : Claim7 := { stood := { row := canonValidRow, standIns := [], harness := (true, "9ee4c7be075bb4dd90204c2116d3cc3275ab4306b8e72b75e5130b6e617da904"), looks := false }, kinds := [], alts := [], laidByText := true, laidKinds := [.data, .data, .data, .data], laidTests := true, laidLooks := .later }
def CanonValidCardSaid : Prop := Claim7.holds Tryd.pinned (.plain (OpenSpec.ofChange canonValidSpec)) canonValidCard

/-- THE TIED CARD OF 'cnclaw17.CanonCheck'. -/
def canonCheckCard : Claim7 := { stood := { row := canonCheckRow, standIns := [], harness := (true, "9ee4c7be075bb4dd90204c2116d3cc3275ab4306b8e72b75e5130b6e617da904"), looks := false }, kinds := [], alts := [], laidByText := true, laidKinds := [.data, .data, .data, .data], laidTests := true, laidLooks := .later }
def CanonCheckCardSaid : Prop := Claim7.holds Tryd.pinned (.plain (OpenSpec.ofChange canonCheckSpec)) canonCheckCard

/-- THE TIED CARD OF 'cnclaw17.CanonFormat'. -/
def canonFormatCard : Claim7 := { stood := { row := canonFormatRow, standIns := [], harness := (true, "9ee4c7be075bb4dd90204c2116d3cc3275ab4306b8e72b75e5130b6e617da904"), looks := false }, kinds := [], alts := [], laidByText := true, laidKinds := [.data, .data, .data, .data], laidTests := true, laidLooks := .later }
def CanonFormatCardSaid : Prop := Claim7.holds Tryd.pinned (.plain (OpenSpec.ofChange canonFormatSpec)) canonFormatCard

/-- THE TIED CARD OF 'cnclaw17.CanonFields'. -/
def canonFieldsCard : Claim7 := { stood := { row := canonFieldsRow, standIns := [], harness := (true, "9ee4c7be075bb4dd90204c2116d3cc3275ab4306b8e72b75e5130b6e617da904"), looks := false }, kinds := [], alts := [], laidByText := true, laidKinds := [.data, .data, .data, .data], laidTests := true, laidLooks := .later }
def CanonFieldsCardSaid : Prop := Claim7.holds Tryd.pinned (.plain (OpenSpec.ofChange canonFieldsSpec)) canonFieldsCard

/-- THE TIED CARD OF 'cnclaw17.CanonJoins'. -/
def canonJoinsCard : Claim7 := { stood := { row := canonJoinsRow, standIns := [], harness := (true, "9ee4c7be075bb4dd90204c2116d3cc3275ab4306b8e72b75e5130b6e617da904"), looks := false }, kinds := [], alts := [], laidByText := true, laidKinds := [.data, .data, .data, .data], laidTests := true, laidLooks := .later }
def CanonJoinsCardSaid : Prop := Claim7.holds Tryd.pinned (.plain (OpenSpec.ofChange canonJoinsSpec)) canonJoinsCard

/-- THE TIED CARD OF 'cnclaw17.CanonBoxes'. -/
def canonBoxesCard : Claim7 := { stood := { row := canonBoxesRow, standIns := [], harness := (true, "9ee4c7be075bb4dd90204c2116d3cc3275ab4306b8e72b75e5130b6e617da904"), looks := false }, kinds := [], alts := [], laidByText := true, laidKinds := [.data, .data, .data, .data], laidTests := true, laidLooks := .later }
def CanonBoxesCardSaid : Prop := Claim7.holds Tryd.pinned (.plain (OpenSpec.ofChange canonBoxesSpec)) canonBoxesCard

/-- THE SECOND FORM's CARD OF 'cnclaw17.CanonValid'. -/
def canonValidUptoCard : Claim7 := { stood := { row := canonValidUptoRow, standIns := [], harness := (true, "9ee4c7be075bb4dd90204c2116d3cc3275ab4306b8e72b75e5130b6e617da904"), looks := false }, kinds := [], alts := [], laidByText := true, laidKinds := [.data, .data, .data, .data], laidTests := true, laidLooks := .later }
def CanonValidUptoCardSaid : Prop := Claim7.holds Tryd.pinned (.plain (OpenSpec.upto canonValidSpec)) canonValidUptoCard

/-- THE SECOND FORM's CARD OF 'cnclaw17.CanonCheck'. -/
def canonCheckUptoCard : Claim7 := { stood := { row := canonCheckUptoRow, standIns := [], harness := (true, "9ee4c7be075bb4dd90204c2116d3cc3275ab4306b8e72b75e5130b6e617da904"), looks := false }, kinds := [], alts := [], laidByText := true, laidKinds := [.data, .data, .data, .data], laidTests := true, laidLooks := .later }
def CanonCheckUptoCardSaid : Prop := Claim7.holds Tryd.pinned (.plain (OpenSpec.upto canonCheckSpec)) canonCheckUptoCard

/-- THE SECOND FORM's CARD OF 'cnclaw17.CanonFormat'. -/
def canonFormatUptoCard : Claim7 := { stood := { row := canonFormatUptoRow, standIns := [], harness := (true, "9ee4c7be075bb4dd90204c2116d3cc3275ab4306b8e72b75e5130b6e617da904"), looks := false }, kinds := [], alts := [], laidByText := true, laidKinds := [.data, .data, .data, .data], laidTests := true, laidLooks := .later }
def CanonFormatUptoCardSaid : Prop := Claim7.holds Tryd.pinned (.plain (OpenSpec.upto canonFormatSpec)) canonFormatUptoCard

/-- THE SECOND FORM's CARD OF 'cnclaw17.CanonFields'. -/
def canonFieldsUptoCard : Claim7 := { stood := { row := canonFieldsUptoRow, standIns := [], harness := (true, "9ee4c7be075bb4dd90204c2116d3cc3275ab4306b8e72b75e5130b6e617da904"), looks := false }, kinds := [], alts := [], laidByText := true, laidKinds := [.data, .data, .data, .data], laidTests := true, laidLooks := .later }
def CanonFieldsUptoCardSaid : Prop := Claim7.holds Tryd.pinned (.plain (OpenSpec.upto canonFieldsSpec)) canonFieldsUptoCard

/-- THE SECOND FORM's CARD OF 'cnclaw17.CanonJoins'. -/
def canonJoinsUptoCard : Claim7 := { stood := { row := canonJoinsUptoRow, standIns := [], harness := (true, "9ee4c7be075bb4dd90204c2116d3cc3275ab4306b8e72b75e5130b6e617da904"), looks := false }, kinds := [], alts := [], laidByText := true, laidKinds := [.data, .data, .data, .data], laidTests := true, laidLooks := .later }
def CanonJoinsUptoCardSaid : Prop := Claim7.holds Tryd.pinned (.plain (OpenSpec.upto canonJoinsSpec)) canonJoinsUptoCard

/-- THE SECOND FORM's CARD OF 'cnclaw17.CanonBoxes'. -/
def canonBoxesUptoCard : Claim7 := { stood := { row := canonBoxesUptoRow, standIns := [], harness := (true, "9ee4c7be075bb4dd90204c2116d3cc3275ab4306b8e72b75e5130b6e617da904"), looks := false }, kinds := [], alts := [], laidByText := true, laidKinds := [.data, .data, .data, .data], laidTests := true, laidLooks := .later }
def CanonBoxesUptoCardSaid : Prop := Claim7.holds Tryd.pinned (.plain (OpenSpec.upto canonBoxesSpec)) canonBoxesUptoCard
end Rows
end Go.Proofs.YtefdjdipbnnoaaaDoor
