/-
  DERIVED. GIVEN WITH THE SEED: THE CARDS: each row of YtnanihpaifaceaaGreatDoorRows.lean that lists a variable, with what it lists TIED to the program's text (the seventh form; the later family's looks); each row that meets fmt, with fmt's text TOLD by the authors' own Lean function (tested against real Go, not proved from fmt's source: count such statements apart). THE CARD IS WHAT COUNTS. Prove the row's statement (the work); the ties are given (YtnanihpaifaceaaGreatDoorTie.lean); close each card by the builder's one call (the guide's Derived/Test/ToyasCard.lean, 'card_holds'). Laid BY PROGRAM, IN A SANDBOX (cutbox-door.mjs). By AI agents, Wed Nov 11 2026. No macro, syntax, notation, axiom, sorry.
-/
import Derived.Test.YtnanihpaifaceaaGreatDoorRows
import GoSem.ClaimSeven
namespace Go.Proofs.YtnanihpaifaceaaGreatDoor
namespace Rows

/-- THE TIED CARD OF 'radicandtop.TopNaN'. -/
def topNaNCard : Claim7 := { stood := { row := topNaNRow, standIns := [], harness := (true, "37f96d7b02bfc93967e2ad2aab24893a5f508a4fc09cf8ea02c626197b1f80fb"), looks := false }, kinds := [], alts := [], laidByText := true, laidKinds := [.data, .data], laidTests := true, laidLooks := .later }
def TopNaNCardSaid : Prop := Claim7.holds Tryz.pinned (.plain (OpenSpec.ofChange topNaNSpec)) topNaNCard

/-- THE TIED CARD OF 'radicandtop.TopMirror'. -/
def topMirrorCard : Claim7 := { stood := { row := topMirrorRow, standIns := [], harness := (true, "37f96d7b02bfc93967e2ad2aab24893a5f508a4fc09cf8ea02c626197b1f80fb"), looks := false }, kinds := [], alts := [], laidByText := true, laidKinds := [.data, .data], laidTests := true, laidLooks := .later }
def TopMirrorCardSaid : Prop := Claim7.holds Tryz.pinned (.plain (OpenSpec.ofChange topMirrorSpec)) topMirrorCard

/-- THE TIED CARD OF 'radicandtop.TopSelf'. -/
def topSelfCard : Claim7 := { stood := { row := topSelfRow, standIns := [], harness := (true, "37f96d7b02bfc93967e2ad2aab24893a5f508a4fc09cf8ea02c626197b1f80fb"), looks := false }, kinds := [], alts := [], laidByText := true, laidKinds := [.data, .data], laidTests := true, laidLooks := .later }
def TopSelfCardSaid : Prop := Claim7.holds Tryz.pinned (.plain (OpenSpec.ofChange topSelfSpec)) topSelfCard

/-- THE SECOND FORM's CARD OF 'radicandtop.TopNaN'. -/
def topNaNUptoCard : Claim7 := { stood := { row := topNaNUptoRow, standIns := [], harness := (true, "37f96d7b02bfc93967e2ad2aab24893a5f508a4fc09cf8ea02c626197b1f80fb"), looks := false }, kinds := [], alts := [], laidByText := true, laidKinds := [.data, .data], laidTests := true, laidLooks := .later }
def TopNaNUptoCardSaid : Prop := Claim7.holds Tryz.pinned (.plain (OpenSpec.upto topNaNSpec)) topNaNUptoCard

/-- THE SECOND FORM's CARD OF 'radicandtop.TopMirror'. -/
def topMirrorUptoCard : Claim7 := { stood := { row := topMirrorUptoRow, standIns := [], harness := (true, "37f96d7b02bfc93967e2ad2aab24893a5f508a4fc09cf8ea02c626197b1f80fb"), looks := false }, kinds := [], alts := [], laidByText := true, laidKinds := [.data, .data], laidTests := true, laidLooks := .later }
def TopMirrorUptoCardSaid : Prop := Claim7.holds Tryz.pinned (.plain (OpenSpec.upto topMirrorSpec)) topMirrorUptoCard

/-- THE SECOND FORM's CARD OF 'radicandtop.TopSelf'. -/
def topSelfUptoCard : Claim7 := { stood := { row := topSelfUptoRow, standIns := [], harness := (true, "37f96d7b02bfc93967e2ad2aab24893a5f508a4fc09cf8ea02c626197b1f80fb"), looks := false }, kinds := [], alts := [], laidByText := true, laidKinds := [.data, .data], laidTests := true, laidLooks := .later }
def TopSelfUptoCardSaid : Prop := Claim7.holds Tryz.pinned (.plain (OpenSpec.upto topSelfSpec)) topSelfUptoCard
end Rows
end Go.Proofs.YtnanihpaifaceaaGreatDoor
