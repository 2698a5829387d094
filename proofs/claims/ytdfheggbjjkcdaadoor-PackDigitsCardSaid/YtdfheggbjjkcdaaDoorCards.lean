/-
  DERIVED. GIVEN WITH THE SEED: THE CARDS: each row of YtdfheggbjjkcdaaDoorRows.lean that lists a variable, with what it lists TIED to the program's text (the seventh form; the later family's looks); each row that meets fmt, with fmt's text TOLD by the authors' own Lean function (tested against real Go, not proved from fmt's source: count such statements apart). THE CARD IS WHAT COUNTS. Prove the row's statement (the work); the ties are given (YtdfheggbjjkcdaaDoorTie.lean); close each card by the builder's one call (the guide's Derived/Test/ToyasCard.lean, 'card_holds'). Laid BY PROGRAM, IN A SANDBOX (cutbox-door.mjs). By AI agents, Wed Nov 11 2026. No macro, syntax, notation, axiom, sorry.
-/
import Derived.Test.YtdfheggbjjkcdaaDoorRows
import GoSem.ClaimSeven
namespace Go.Proofs.YtdfheggbjjkcdaaDoor
namespace Rows

/-- THE TIED CARD OF 'radicandlaw07.UnpackValues'. -/
def unpackValuesCard : Claim7 := { stood := { row := unpackValuesRow, standIns := [], harness := (true, "16d8b56f55f01ac221cd576f7fd2c6258787f9665245a7f2e56a6b7e50dfaa94"), looks := false }, kinds := [], alts := [], laidByText := true, laidKinds := [.data], laidTests := true, laidLooks := .later }
def UnpackValuesCardSaid : Prop := Claim7.holds Tryd.pinned (.plain (OpenSpec.ofChange unpackValuesSpec)) unpackValuesCard

/-- THE TIED CARD OF 'radicandlaw07.UnpackExact'. -/
def unpackExactCard : Claim7 := { stood := { row := unpackExactRow, standIns := [], harness := (true, "16d8b56f55f01ac221cd576f7fd2c6258787f9665245a7f2e56a6b7e50dfaa94"), looks := false }, kinds := [], alts := [], laidByText := true, laidKinds := [.data], laidTests := true, laidLooks := .later }
def UnpackExactCardSaid : Prop := Claim7.holds Tryd.pinned (.plain (OpenSpec.ofChange unpackExactSpec)) unpackExactCard

/-- THE TIED CARD OF 'radicandlaw28.OrderSteps'. -/
def orderStepsCard : Claim7 := { stood := { row := orderStepsRow, standIns := [], harness := (true, "16d8b56f55f01ac221cd576f7fd2c6258787f9665245a7f2e56a6b7e50dfaa94"), looks := false }, kinds := [], alts := [], laidByText := true, laidKinds := [.data], laidTests := true, laidLooks := .later }
def OrderStepsCardSaid : Prop := Claim7.holds Tryd.pinned (.plain (OpenSpec.ofChange orderStepsSpec)) orderStepsCard

/-- THE TIED CARD OF 'radicandlaw07.UnpackOrder'. -/
def unpackOrderCard : Claim7 := { stood := { row := unpackOrderRow, standIns := [], harness := (true, "16d8b56f55f01ac221cd576f7fd2c6258787f9665245a7f2e56a6b7e50dfaa94"), looks := false }, kinds := [], alts := [], laidByText := true, laidKinds := [.data], laidTests := true, laidLooks := .later }
def UnpackOrderCardSaid : Prop := Claim7.holds Tryd.pinned (.plain (OpenSpec.ofChange unpackOrderSpec)) unpackOrderCard

/-- THE TIED CARD OF 'radicandlaw28.OrderPlaces'. -/
def orderPlacesCard : Claim7 := { stood := { row := orderPlacesRow, standIns := [], harness := (true, "16d8b56f55f01ac221cd576f7fd2c6258787f9665245a7f2e56a6b7e50dfaa94"), looks := false }, kinds := [], alts := [], laidByText := true, laidKinds := [.data], laidTests := true, laidLooks := .later }
def OrderPlacesCardSaid : Prop := Claim7.holds Tryd.pinned (.plain (OpenSpec.ofChange orderPlacesSpec)) orderPlacesCard

/-- THE TIED CARD OF 'radicandlaw07.UnpackCmp'. -/
def unpackCmpCard : Claim7 := { stood := { row := unpackCmpRow, standIns := [], harness := (true, "16d8b56f55f01ac221cd576f7fd2c6258787f9665245a7f2e56a6b7e50dfaa94"), looks := false }, kinds := [], alts := [], laidByText := true, laidKinds := [.data], laidTests := true, laidLooks := .later }
def UnpackCmpCardSaid : Prop := Claim7.holds Tryd.pinned (.plain (OpenSpec.ofChange unpackCmpSpec)) unpackCmpCard

/-- THE TIED CARD OF 'radicandlaw28.OrderWalks'. -/
def orderWalksCard : Claim7 := { stood := { row := orderWalksRow, standIns := [], harness := (true, "16d8b56f55f01ac221cd576f7fd2c6258787f9665245a7f2e56a6b7e50dfaa94"), looks := false }, kinds := [], alts := [], laidByText := true, laidKinds := [.data], laidTests := true, laidLooks := .later }
def OrderWalksCardSaid : Prop := Claim7.holds Tryd.pinned (.plain (OpenSpec.ofChange orderWalksSpec)) orderWalksCard

/-- THE TIED CARD OF 'radicandlaw09.PackDigits'. -/
def packDigitsCard : Claim7 := { stood := { row := packDigitsRow, standIns := [], harness := (true, "16d8b56f55f01ac221cd576f7fd2c6258787f9665245a7f2e56a6b7e50dfaa94"), looks := false }, kinds := [], alts := [], laidByText := true, laidKinds := [.data], laidTests := true, laidLooks := .later }
def PackDigitsCardSaid : Prop := Claim7.holds Tryd.pinned (.plain (OpenSpec.ofChange packDigitsSpec)) packDigitsCard

/-- THE TIED CARD OF 'radicandlaw28.OrderCompares'. -/
def orderComparesCard : Claim7 := { stood := { row := orderComparesRow, standIns := [], harness := (true, "16d8b56f55f01ac221cd576f7fd2c6258787f9665245a7f2e56a6b7e50dfaa94"), looks := false }, kinds := [], alts := [], laidByText := true, laidKinds := [.data], laidTests := true, laidLooks := .later }
def OrderComparesCardSaid : Prop := Claim7.holds Tryd.pinned (.plain (OpenSpec.ofChange orderComparesSpec)) orderComparesCard

/-- THE TIED CARD OF 'radicandlaw26.SpecialDivs'. -/
def specialDivsCard : Claim7 := { stood := { row := specialDivsRow, standIns := [], harness := (true, "16d8b56f55f01ac221cd576f7fd2c6258787f9665245a7f2e56a6b7e50dfaa94"), looks := false }, kinds := [], alts := [], laidByText := true, laidKinds := [.data], laidTests := true, laidLooks := .later }
def SpecialDivsCardSaid : Prop := Claim7.holds Tryd.pinned (.plain (OpenSpec.ofChange specialDivsSpec)) specialDivsCard

/-- THE TIED CARD OF 'radicandlaw26.SpecialRoots'. -/
def specialRootsCard : Claim7 := { stood := { row := specialRootsRow, standIns := [], harness := (true, "16d8b56f55f01ac221cd576f7fd2c6258787f9665245a7f2e56a6b7e50dfaa94"), looks := false }, kinds := [], alts := [], laidByText := true, laidKinds := [.data], laidTests := true, laidLooks := .later }
def SpecialRootsCardSaid : Prop := Claim7.holds Tryd.pinned (.plain (OpenSpec.ofChange specialRootsSpec)) specialRootsCard

/-- THE SECOND FORM's CARD OF 'radicandlaw07.UnpackValues'. -/
def unpackValuesUptoCard : Claim7 := { stood := { row := unpackValuesUptoRow, standIns := [], harness := (true, "16d8b56f55f01ac221cd576f7fd2c6258787f9665245a7f2e56a6b7e50dfaa94"), looks := false }, kinds := [], alts := [], laidByText := true, laidKinds := [.data], laidTests := true, laidLooks := .later }
def UnpackValuesUptoCardSaid : Prop := Claim7.holds Tryd.pinned (.plain (OpenSpec.upto unpackValuesSpec)) unpackValuesUptoCard

/-- THE SECOND FORM's CARD OF 'radicandlaw07.UnpackExact'. -/
def unpackExactUptoCard : Claim7 := { stood := { row := unpackExactUptoRow, standIns := [], harness := (true, "16d8b56f55f01ac221cd576f7fd2c6258787f9665245a7f2e56a6b7e50dfaa94"), looks := false }, kinds := [], alts := [], laidByText := true, laidKinds := [.data], laidTests := true, laidLooks := .later }
def UnpackExactUptoCardSaid : Prop := Claim7.holds Tryd.pinned (.plain (OpenSpec.upto unpackExactSpec)) unpackExactUptoCard

/-- THE SECOND FORM's CARD OF 'radicandlaw28.OrderSteps'. -/
def orderStepsUptoCard : Claim7 := { stood := { row := orderStepsUptoRow, standIns := [], harness := (true, "16d8b56f55f01ac221cd576f7fd2c6258787f9665245a7f2e56a6b7e50dfaa94"), looks := false }, kinds := [], alts := [], laidByText := true, laidKinds := [.data], laidTests := true, laidLooks := .later }
def OrderStepsUptoCardSaid : Prop := Claim7.holds Tryd.pinned (.plain (OpenSpec.upto orderStepsSpec)) orderStepsUptoCard

/-- THE SECOND FORM's CARD OF 'radicandlaw07.UnpackOrder'. -/
def unpackOrderUptoCard : Claim7 := { stood := { row := unpackOrderUptoRow, standIns := [], harness := (true, "16d8b56f55f01ac221cd576f7fd2c6258787f9665245a7f2e56a6b7e50dfaa94"), looks := false }, kinds := [], alts := [], laidByText := true, laidKinds := [.data], laidTests := true, laidLooks := .later }
def UnpackOrderUptoCardSaid : Prop := Claim7.holds Tryd.pinned (.plain (OpenSpec.upto unpackOrderSpec)) unpackOrderUptoCard

/-- THE SECOND FORM's CARD OF 'radicandlaw28.OrderPlaces'. -/
def orderPlacesUptoCard : Claim7 := { stood := { row := orderPlacesUptoRow, standIns := [], harness := (true, "16d8b56f55f01ac221cd576f7fd2c6258787f9665245a7f2e56a6b7e50dfaa94"), looks := false }, kinds := [], alts := [], laidByText := true, laidKinds := [.data], laidTests := true, laidLooks := .later }
def OrderPlacesUptoCardSaid : Prop := Claim7.holds Tryd.pinned (.plain (OpenSpec.upto orderPlacesSpec)) orderPlacesUptoCard

/-- THE SECOND FORM's CARD OF 'radicandlaw07.UnpackCmp'. -/
def unpackCmpUptoCard : Claim7 := { stood := { row := unpackCmpUptoRow, standIns := [], harness := (true, "16d8b56f55f01ac221cd576f7fd2c6258787f9665245a7f2e56a6b7e50dfaa94"), looks := false }, kinds := [], alts := [], laidByText := true, laidKinds := [.data], laidTests := true, laidLooks := .later }
def UnpackCmpUptoCardSaid : Prop := Claim7.holds Tryd.pinned (.plain (OpenSpec.upto unpackCmpSpec)) unpackCmpUptoCard

/-- THE SECOND FORM's CARD OF 'radicandlaw28.OrderWalks'. -/
def orderWalksUptoCard : Claim7 := { stood := { row := orderWalksUptoRow, standIns := [], harness := (true, "16d8b56f55f01ac221cd576f7fd2c6258787f9665245a7f2e56a6b7e50dfaa94"), looks := false }, kinds := [], alts := [], laidByText := true, laidKinds := [.data], laidTests := true, laidLooks := .later }
def OrderWalksUptoCardSaid : Prop := Claim7.holds Tryd.pinned (.plain (OpenSpec.upto orderWalksSpec)) orderWalksUptoCard

/-- THE SECOND FORM's CARD OF 'radicandlaw09.PackDigits'. -/
def packDigitsUptoCard : Claim7 := { stood := { row := packDigitsUptoRow, standIns := [], harness := (true, "16d8b56f55f01ac221cd576f7fd2c6258787f9665245a7f2e56a6b7e50dfaa94"), looks := false }, kinds := [], alts := [], laidByText := true, laidKinds := [.data], laidTests := true, laidLooks := .later }
def PackDigitsUptoCardSaid : Prop := Claim7.holds Tryd.pinned (.plain (OpenSpec.upto packDigitsSpec)) packDigitsUptoCard

/-- THE SECOND FORM's CARD OF 'radicandlaw28.OrderCompares'. -/
def orderComparesUptoCard : Claim7 := { stood := { row := orderComparesUptoRow, standIns := [], harness := (true, "16d8b56f55f01ac221cd576f7fd2c6258787f9665245a7f2e56a6b7e50dfaa94"), looks := false }, kinds := [], alts := [], laidByText := true, laidKinds := [.data], laidTests := true, laidLooks := .later }
def OrderComparesUptoCardSaid : Prop := Claim7.holds Tryd.pinned (.plain (OpenSpec.upto orderComparesSpec)) orderComparesUptoCard

/-- THE SECOND FORM's CARD OF 'radicandlaw26.SpecialDivs'. -/
def specialDivsUptoCard : Claim7 := { stood := { row := specialDivsUptoRow, standIns := [], harness := (true, "16d8b56f55f01ac221cd576f7fd2c6258787f9665245a7f2e56a6b7e50dfaa94"), looks := false }, kinds := [], alts := [], laidByText := true, laidKinds := [.data], laidTests := true, laidLooks := .later }
def SpecialDivsUptoCardSaid : Prop := Claim7.holds Tryd.pinned (.plain (OpenSpec.upto specialDivsSpec)) specialDivsUptoCard

/-- THE SECOND FORM's CARD OF 'radicandlaw26.SpecialRoots'. -/
def specialRootsUptoCard : Claim7 := { stood := { row := specialRootsUptoRow, standIns := [], harness := (true, "16d8b56f55f01ac221cd576f7fd2c6258787f9665245a7f2e56a6b7e50dfaa94"), looks := false }, kinds := [], alts := [], laidByText := true, laidKinds := [.data], laidTests := true, laidLooks := .later }
def SpecialRootsUptoCardSaid : Prop := Claim7.holds Tryd.pinned (.plain (OpenSpec.upto specialRootsSpec)) specialRootsUptoCard
end Rows
end Go.Proofs.YtdfheggbjjkcdaaDoor
