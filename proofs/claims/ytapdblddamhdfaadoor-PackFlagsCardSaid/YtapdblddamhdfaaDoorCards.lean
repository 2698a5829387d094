/-
  DERIVED. GIVEN WITH THE SEED: THE CARDS: each row of YtapdblddamhdfaaDoorRows.lean that lists a variable, with what it lists TIED to the program's text (the seventh form; the later family's looks); each row that meets fmt, with fmt's text TOLD by the authors' own Lean function (tested against real Go, not proved from fmt's source: count such statements apart). THE CARD IS WHAT COUNTS. Prove the row's statement (the work); the ties are given (YtapdblddamhdfaaDoorTie.lean); close each card by the builder's one call (the guide's Derived/Test/ToyasCard.lean, 'card_holds'). Laid BY PROGRAM, IN A SANDBOX (cutbox-door.mjs). By AI agents, Wed Nov 11 2026. No macro, syntax, notation, axiom, sorry.
-/
import Derived.Test.YtapdblddamhdfaaDoorRows
import GoSem.ClaimSeven
namespace Go.Proofs.YtapdblddamhdfaaDoor
namespace Rows

/-- THE TIED CARD OF 'radicandlaw09.PackFlags'. -/
def packFlagsCard : Claim7 := { stood := { row := packFlagsRow, standIns := [], harness := (true, "dd1f3d2b0f790c3e64c491b279ca1862e31a9effa89fe861d24fcb1675cf6f0f"), looks := false }, kinds := [], alts := [], laidByText := true, laidKinds := [.data, .data], laidTests := true, laidLooks := .later }
def PackFlagsCardSaid : Prop := Claim7.holds Tryd.pinned (.plain (OpenSpec.ofChange packFlagsSpec)) packFlagsCard

/-- THE SECOND FORM's CARD OF 'radicandlaw09.PackFlags'. -/
def packFlagsUptoCard : Claim7 := { stood := { row := packFlagsUptoRow, standIns := [], harness := (true, "dd1f3d2b0f790c3e64c491b279ca1862e31a9effa89fe861d24fcb1675cf6f0f"), looks := false }, kinds := [], alts := [], laidByText := true, laidKinds := [.data, .data], laidTests := true, laidLooks := .later }
def PackFlagsUptoCardSaid : Prop := Claim7.holds Tryd.pinned (.plain (OpenSpec.upto packFlagsSpec)) packFlagsUptoCard
end Rows
end Go.Proofs.YtapdblddamhdfaaDoor
