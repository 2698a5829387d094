/-
  DERIVED. GIVEN WITH THE SEED: THE CARDS: each row of YtbaapenmfaccgaaDoorRows.lean that lists a variable, with what it lists TIED to the program's text (the seventh form; the later family's looks); each row that meets fmt, with fmt's text TOLD by the authors' own Lean function (tested against real Go, not proved from fmt's source: count such statements apart). THE CARD IS WHAT COUNTS. Prove the row's statement (the work); the ties are given (YtbaapenmfaccgaaDoorTie.lean); close each card by the builder's one call (the guide's Derived/Test/ToyasCard.lean, 'card_holds'). Laid BY PROGRAM, IN A SANDBOX (cutbox-door.mjs). By AI agents, Wed Nov 11 2026. No macro, syntax, notation, axiom, sorry.
-/
import Derived.Test.YtbaapenmfaccgaaDoorRows
import GoSem.ClaimSeven
namespace Go.Proofs.YtbaapenmfaccgaaDoor
namespace Rows

/-- THE TIED CARD OF 'radicandlaw05.FormatWords'. -/
def formatWordsCard : Claim7 := { stood := { row := formatWordsRow, standIns := [], harness := (true, "262b7db97ecfea2eba0d0eb129b0f4af724a8a2c0f7e2a9e9456955d63e9df31"), looks := false }, kinds := [], alts := [], laidByText := true, laidKinds := [.data], laidTests := true, laidLooks := .later }
def FormatWordsCardSaid : Prop := Claim7.holds Tryd.pinned (.plain (OpenSpec.ofChange formatWordsSpec)) formatWordsCard

/-- THE TIED CARD OF 'radicandlaw05.FormatOf'. -/
def formatOfCard : Claim7 := { stood := { row := formatOfRow, standIns := [], harness := (true, "262b7db97ecfea2eba0d0eb129b0f4af724a8a2c0f7e2a9e9456955d63e9df31"), looks := false }, kinds := [], alts := [], laidByText := true, laidKinds := [.data], laidTests := true, laidLooks := .later }
def FormatOfCardSaid : Prop := Claim7.holds Tryd.pinned (.plain (OpenSpec.ofChange formatOfSpec)) formatOfCard

/-- THE TIED CARD OF 'radicandlaw05.FormatNames'. -/
def formatNamesCard : Claim7 := { stood := { row := formatNamesRow, standIns := [], harness := (true, "262b7db97ecfea2eba0d0eb129b0f4af724a8a2c0f7e2a9e9456955d63e9df31"), looks := false }, kinds := [], alts := [], laidByText := true, laidKinds := [.data], laidTests := true, laidLooks := .later }
def FormatNamesCardSaid : Prop := Claim7.holds Tryd.pinned (.plain (OpenSpec.ofChange formatNamesSpec)) formatNamesCard

/-- THE TIED CARD OF 'radicandlaw06.ClassCounts'. -/
def classCountsCard : Claim7 := { stood := { row := classCountsRow, standIns := [], harness := (true, "262b7db97ecfea2eba0d0eb129b0f4af724a8a2c0f7e2a9e9456955d63e9df31"), looks := false }, kinds := [], alts := [], laidByText := true, laidKinds := [.data], laidTests := true, laidLooks := .later }
def ClassCountsCardSaid : Prop := Claim7.holds Tryd.pinned (.plain (OpenSpec.ofChange classCountsSpec)) classCountsCard

/-- THE TIED CARD OF 'radicandlaw06.ClassMakes'. -/
def classMakesCard : Claim7 := { stood := { row := classMakesRow, standIns := [], harness := (true, "262b7db97ecfea2eba0d0eb129b0f4af724a8a2c0f7e2a9e9456955d63e9df31"), looks := false }, kinds := [], alts := [], laidByText := true, laidKinds := [.data], laidTests := true, laidLooks := .later }
def ClassMakesCardSaid : Prop := Claim7.holds Tryd.pinned (.plain (OpenSpec.ofChange classMakesSpec)) classMakesCard

/-- THE TIED CARD OF 'radicandlaw06.ClassSigns'. -/
def classSignsCard : Claim7 := { stood := { row := classSignsRow, standIns := [], harness := (true, "262b7db97ecfea2eba0d0eb129b0f4af724a8a2c0f7e2a9e9456955d63e9df31"), looks := false }, kinds := [], alts := [], laidByText := true, laidKinds := [.data], laidTests := true, laidLooks := .later }
def ClassSignsCardSaid : Prop := Claim7.holds Tryd.pinned (.plain (OpenSpec.ofChange classSignsSpec)) classSignsCard

/-- THE TIED CARD OF 'radicandlaw06.ClassOf'. -/
def classOfCard : Claim7 := { stood := { row := classOfRow, standIns := [], harness := (true, "262b7db97ecfea2eba0d0eb129b0f4af724a8a2c0f7e2a9e9456955d63e9df31"), looks := false }, kinds := [], alts := [], laidByText := true, laidKinds := [.data], laidTests := true, laidLooks := .later }
def ClassOfCardSaid : Prop := Claim7.holds Tryd.pinned (.plain (OpenSpec.ofChange classOfSpec)) classOfCard

/-- THE TIED CARD OF 'radicandlaw10.NanQuiets'. -/
def nanQuietsCard : Claim7 := { stood := { row := nanQuietsRow, standIns := [], harness := (true, "262b7db97ecfea2eba0d0eb129b0f4af724a8a2c0f7e2a9e9456955d63e9df31"), looks := false }, kinds := [], alts := [], laidByText := true, laidKinds := [.data], laidTests := true, laidLooks := .later }
def NanQuietsCardSaid : Prop := Claim7.holds Tryd.pinned (.plain (OpenSpec.ofChange nanQuietsSpec)) nanQuietsCard

/-- THE TIED CARD OF 'radicandlaw07.UnpackShort'. -/
def unpackShortCard : Claim7 := { stood := { row := unpackShortRow, standIns := [], harness := (true, "262b7db97ecfea2eba0d0eb129b0f4af724a8a2c0f7e2a9e9456955d63e9df31"), looks := false }, kinds := [], alts := [], laidByText := true, laidKinds := [.data], laidTests := true, laidLooks := .later }
def UnpackShortCardSaid : Prop := Claim7.holds Tryd.pinned (.plain (OpenSpec.ofChange unpackShortSpec)) unpackShortCard

/-- THE TIED CARD OF 'radicandlaw10.NanOf'. -/
def nanOfCard : Claim7 := { stood := { row := nanOfRow, standIns := [], harness := (true, "262b7db97ecfea2eba0d0eb129b0f4af724a8a2c0f7e2a9e9456955d63e9df31"), looks := false }, kinds := [], alts := [], laidByText := true, laidKinds := [.data], laidTests := true, laidLooks := .later }
def NanOfCardSaid : Prop := Claim7.holds Tryd.pinned (.plain (OpenSpec.ofChange nanOfSpec)) nanOfCard

/-- THE TIED CARD OF 'radicandlaw10.NanPayloads'. -/
def nanPayloadsCard : Claim7 := { stood := { row := nanPayloadsRow, standIns := [], harness := (true, "262b7db97ecfea2eba0d0eb129b0f4af724a8a2c0f7e2a9e9456955d63e9df31"), looks := false }, kinds := [], alts := [], laidByText := true, laidKinds := [.data], laidTests := true, laidLooks := .later }
def NanPayloadsCardSaid : Prop := Claim7.holds Tryd.pinned (.plain (OpenSpec.ofChange nanPayloadsSpec)) nanPayloadsCard

/-- THE TIED CARD OF 'radicandlaw28.OrderNext'. -/
def orderNextCard : Claim7 := { stood := { row := orderNextRow, standIns := [], harness := (true, "262b7db97ecfea2eba0d0eb129b0f4af724a8a2c0f7e2a9e9456955d63e9df31"), looks := false }, kinds := [], alts := [], laidByText := true, laidKinds := [.data], laidTests := true, laidLooks := .later }
def OrderNextCardSaid : Prop := Claim7.holds Tryd.pinned (.plain (OpenSpec.ofChange orderNextSpec)) orderNextCard

/-- THE SECOND FORM's CARD OF 'radicandlaw05.FormatWords'. -/
def formatWordsUptoCard : Claim7 := { stood := { row := formatWordsUptoRow, standIns := [], harness := (true, "262b7db97ecfea2eba0d0eb129b0f4af724a8a2c0f7e2a9e9456955d63e9df31"), looks := false }, kinds := [], alts := [], laidByText := true, laidKinds := [.data], laidTests := true, laidLooks := .later }
def FormatWordsUptoCardSaid : Prop := Claim7.holds Tryd.pinned (.plain (OpenSpec.upto formatWordsSpec)) formatWordsUptoCard

/-- THE SECOND FORM's CARD OF 'radicandlaw05.FormatOf'. -/
def formatOfUptoCard : Claim7 := { stood := { row := formatOfUptoRow, standIns := [], harness := (true, "262b7db97ecfea2eba0d0eb129b0f4af724a8a2c0f7e2a9e9456955d63e9df31"), looks := false }, kinds := [], alts := [], laidByText := true, laidKinds := [.data], laidTests := true, laidLooks := .later }
def FormatOfUptoCardSaid : Prop := Claim7.holds Tryd.pinned (.plain (OpenSpec.upto formatOfSpec)) formatOfUptoCard

/-- THE SECOND FORM's CARD OF 'radicandlaw05.FormatNames'. -/
def formatNamesUptoCard : Claim7 := { stood := { row := formatNamesUptoRow, standIns := [], harness := (true, "262b7db97ecfea2eba0d0eb129b0f4af724a8a2c0f7e2a9e9456955d63e9df31"), looks := false }, kinds := [], alts := [], laidByText := true, laidKinds := [.data], laidTests := true, laidLooks := .later }
def FormatNamesUptoCardSaid : Prop := Claim7.holds Tryd.pinned (.plain (OpenSpec.upto formatNamesSpec)) formatNamesUptoCard

/-- THE SECOND FORM's CARD OF 'radicandlaw06.ClassCounts'. -/
def classCountsUptoCard : Claim7 := { stood := { row := classCountsUptoRow, standIns := [], harness := (true, "262b7db97ecfea2eba0d0eb129b0f4af724a8a2c0f7e2a9e9456955d63e9df31"), looks := false }, kinds := [], alts := [], laidByText := true, laidKinds := [.data], laidTests := true, laidLooks := .later }
def ClassCountsUptoCardSaid : Prop := Claim7.holds Tryd.pinned (.plain (OpenSpec.upto classCountsSpec)) classCountsUptoCard

/-- THE SECOND FORM's CARD OF 'radicandlaw06.ClassMakes'. -/
def classMakesUptoCard : Claim7 := { stood := { row := classMakesUptoRow, standIns := [], harness := (true, "262b7db97ecfea2eba0d0eb129b0f4af724a8a2c0f7e2a9e9456955d63e9df31"), looks := false }, kinds := [], alts := [], laidByText := true, laidKinds := [.data], laidTests := true, laidLooks := .later }
def ClassMakesUptoCardSaid : Prop := Claim7.holds Tryd.pinned (.plain (OpenSpec.upto classMakesSpec)) classMakesUptoCard

/-- THE SECOND FORM's CARD OF 'radicandlaw06.ClassSigns'. -/
def classSignsUptoCard : Claim7 := { stood := { row := classSignsUptoRow, standIns := [], harness := (true, "262b7db97ecfea2eba0d0eb129b0f4af724a8a2c0f7e2a9e9456955d63e9df31"), looks := false }, kinds := [], alts := [], laidByText := true, laidKinds := [.data], laidTests := true, laidLooks := .later }
def ClassSignsUptoCardSaid : Prop := Claim7.holds Tryd.pinned (.plain (OpenSpec.upto classSignsSpec)) classSignsUptoCard

/-- THE SECOND FORM's CARD OF 'radicandlaw06.ClassOf'. -/
def classOfUptoCard : Claim7 := { stood := { row := classOfUptoRow, standIns := [], harness := (true, "262b7db97ecfea2eba0d0eb129b0f4af724a8a2c0f7e2a9e9456955d63e9df31"), looks := false }, kinds := [], alts := [], laidByText := true, laidKinds := [.data], laidTests := true, laidLooks := .later }
def ClassOfUptoCardSaid : Prop := Claim7.holds Tryd.pinned (.plain (OpenSpec.upto classOfSpec)) classOfUptoCard

/-- THE SECOND FORM's CARD OF 'radicandlaw10.NanQuiets'. -/
def nanQuietsUptoCard : Claim7 := { stood := { row := nanQuietsUptoRow, standIns := [], harness := (true, "262b7db97ecfea2eba0d0eb129b0f4af724a8a2c0f7e2a9e9456955d63e9df31"), looks := false }, kinds := [], alts := [], laidByText := true, laidKinds := [.data], laidTests := true, laidLooks := .later }
def NanQuietsUptoCardSaid : Prop := Claim7.holds Tryd.pinned (.plain (OpenSpec.upto nanQuietsSpec)) nanQuietsUptoCard

/-- THE SECOND FORM's CARD OF 'radicandlaw07.UnpackShort'. -/
def unpackShortUptoCard : Claim7 := { stood := { row := unpackShortUptoRow, standIns := [], harness := (true, "262b7db97ecfea2eba0d0eb129b0f4af724a8a2c0f7e2a9e9456955d63e9df31"), looks := false }, kinds := [], alts := [], laidByText := true, laidKinds := [.data], laidTests := true, laidLooks := .later }
def UnpackShortUptoCardSaid : Prop := Claim7.holds Tryd.pinned (.plain (OpenSpec.upto unpackShortSpec)) unpackShortUptoCard

/-- THE SECOND FORM's CARD OF 'radicandlaw10.NanOf'. -/
def nanOfUptoCard : Claim7 := { stood := { row := nanOfUptoRow, standIns := [], harness := (true, "262b7db97ecfea2eba0d0eb129b0f4af724a8a2c0f7e2a9e9456955d63e9df31"), looks := false }, kinds := [], alts := [], laidByText := true, laidKinds := [.data], laidTests := true, laidLooks := .later }
def NanOfUptoCardSaid : Prop := Claim7.holds Tryd.pinned (.plain (OpenSpec.upto nanOfSpec)) nanOfUptoCard

/-- THE SECOND FORM's CARD OF 'radicandlaw10.NanPayloads'. -/
def nanPayloadsUptoCard : Claim7 := { stood := { row := nanPayloadsUptoRow, standIns := [], harness := (true, "262b7db97ecfea2eba0d0eb129b0f4af724a8a2c0f7e2a9e9456955d63e9df31"), looks := false }, kinds := [], alts := [], laidByText := true, laidKinds := [.data], laidTests := true, laidLooks := .later }
def NanPayloadsUptoCardSaid : Prop := Claim7.holds Tryd.pinned (.plain (OpenSpec.upto nanPayloadsSpec)) nanPayloadsUptoCard

/-- THE SECOND FORM's CARD OF 'radicandlaw28.OrderNext'. -/
def orderNextUptoCard : Claim7 := { stood := { row := orderNextUptoRow, standIns := [], harness := (true, "262b7db97ecfea2eba0d0eb129b0f4af724a8a2c0f7e2a9e9456955d63e9df31"), looks := false }, kinds := [], alts := [], laidByText := true, laidKinds := [.data], laidTests := true, laidLooks := .later }
def OrderNextUptoCardSaid : Prop := Claim7.holds Tryd.pinned (.plain (OpenSpec.upto orderNextSpec)) orderNextUptoCard
end Rows
end Go.Proofs.YtbaapenmfaccgaaDoor
