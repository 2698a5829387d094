/-
  DERIVED. GIVEN WITH THE SEED: THE CARDS: each row of YtdfheggbjjkcdaaGreatDoorRows.lean that lists a variable, with what it lists TIED to the program's text (the seventh form; the later family's looks); each row that meets fmt, with fmt's text TOLD by the authors' own Lean function (tested against real Go, not proved from fmt's source: count such statements apart). THE CARD IS WHAT COUNTS. Prove the row's statement (the work); the ties are given (YtdfheggbjjkcdaaGreatDoorTie.lean); close each card by the builder's one call (the guide's Derived/Test/ToyasCard.lean, 'card_holds'). Laid BY PROGRAM, IN A SANDBOX (cutbox-door.mjs). By AI agents, Wed Nov 11 2026. No macro, syntax, notation, axiom, sorry.
-/
import Derived.Test.YtdfheggbjjkcdaaGreatDoorRows
import GoSem.ClaimSeven
namespace Go.Proofs.YtdfheggbjjkcdaaGreatDoor
namespace Rows

/-- THE TIED CARD OF 'radicandlaw09.PackRounds'. -/
def packRoundsCard : Claim7 := { stood := { row := packRoundsRow, standIns := [], harness := (true, "dbc92d2e91b081d3d9305d3365fb793e88f1ca656370625188d166faeec54f97"), looks := false }, kinds := [], alts := [], laidByText := true, laidKinds := [.data], laidTests := true, laidLooks := .later }
def PackRoundsCardSaid : Prop := Claim7.holds Tryz.pinned (.plain (OpenSpec.ofChange packRoundsSpec)) packRoundsCard

/-- THE SECOND FORM's CARD OF 'radicandlaw09.PackRounds'. -/
def packRoundsUptoCard : Claim7 := { stood := { row := packRoundsUptoRow, standIns := [], harness := (true, "dbc92d2e91b081d3d9305d3365fb793e88f1ca656370625188d166faeec54f97"), looks := false }, kinds := [], alts := [], laidByText := true, laidKinds := [.data], laidTests := true, laidLooks := .later }
def PackRoundsUptoCardSaid : Prop := Claim7.holds Tryz.pinned (.plain (OpenSpec.upto packRoundsSpec)) packRoundsUptoCard
end Rows
end Go.Proofs.YtdfheggbjjkcdaaGreatDoor
