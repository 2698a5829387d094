/-
  DERIVED. GIVEN WITH THE SEED: THE CARDS: each row of YtghinobkekkopaaGreatDoorRows.lean that lists a variable, with what it lists TIED to the program's text (the seventh form; the later family's looks); each row that meets fmt, with fmt's text TOLD by the authors' own Lean function (tested against real Go, not proved from fmt's source: count such statements apart). THE CARD IS WHAT COUNTS. Prove the row's statement (the work); the ties are given (YtghinobkekkopaaGreatDoorTie.lean); close each card by the builder's one call (the guide's Derived/Test/ToyasCard.lean, 'card_holds'). Laid BY PROGRAM, IN A SANDBOX (cutbox-door.mjs). By AI agents, Wed Nov 11 2026. No macro, syntax, notation, axiom, sorry.
-/
import Derived.Test.YtghinobkekkopaaGreatDoorRows
import GoSem.ClaimSeven
namespace Go.Proofs.YtghinobkekkopaaGreatDoor
namespace Rows

/-- THE TIED CARD OF 'radicandlaw32.IntegralRounds'. -/
def integralRoundsCard : Claim7 := { stood := { row := integralRoundsRow, standIns := [], harness := (true, "448462a60af249bf628175a4e53153a49748e1efe9eda8ef59fb3696ff6d1523"), looks := false }, kinds := [], alts := [], laidByText := true, laidKinds := [.data], laidTests := true, laidLooks := .later }
def IntegralRoundsCardSaid : Prop := Claim7.holds Tryz.pinned (.plain (OpenSpec.ofChange integralRoundsSpec)) integralRoundsCard

/-- THE TIED CARD OF 'radicandlaw32.IntegralSplits'. -/
def integralSplitsCard : Claim7 := { stood := { row := integralSplitsRow, standIns := [], harness := (true, "448462a60af249bf628175a4e53153a49748e1efe9eda8ef59fb3696ff6d1523"), looks := false }, kinds := [], alts := [], laidByText := true, laidKinds := [.data], laidTests := true, laidLooks := .later }
def IntegralSplitsCardSaid : Prop := Claim7.holds Tryz.pinned (.plain (OpenSpec.ofChange integralSplitsSpec)) integralSplitsCard

/-- THE TIED CARD OF 'radicandlaw29.ConvertWords'. -/
def convertWordsCard : Claim7 := { stood := { row := convertWordsRow, standIns := [], harness := (true, "448462a60af249bf628175a4e53153a49748e1efe9eda8ef59fb3696ff6d1523"), looks := false }, kinds := [], alts := [], laidByText := true, laidKinds := [.data], laidTests := true, laidLooks := .later }
def ConvertWordsCardSaid : Prop := Claim7.holds Tryz.pinned (.plain (OpenSpec.ofChange convertWordsSpec)) convertWordsCard

/-- THE TIED CARD OF 'radicandlaw29.ConvertInts'. -/
def convertIntsCard : Claim7 := { stood := { row := convertIntsRow, standIns := [], harness := (true, "448462a60af249bf628175a4e53153a49748e1efe9eda8ef59fb3696ff6d1523"), looks := false }, kinds := [], alts := [], laidByText := true, laidKinds := [.data], laidTests := true, laidLooks := .later }
def ConvertIntsCardSaid : Prop := Claim7.holds Tryz.pinned (.plain (OpenSpec.ofChange convertIntsSpec)) convertIntsCard

/-- THE TIED CARD OF 'radicandlaw29.ConvertToInt'. -/
def convertToIntCard : Claim7 := { stood := { row := convertToIntRow, standIns := [], harness := (true, "448462a60af249bf628175a4e53153a49748e1efe9eda8ef59fb3696ff6d1523"), looks := false }, kinds := [], alts := [], laidByText := true, laidKinds := [.data], laidTests := true, laidLooks := .later }
def ConvertToIntCardSaid : Prop := Claim7.holds Tryz.pinned (.plain (OpenSpec.ofChange convertToIntSpec)) convertToIntCard

/-- THE SECOND FORM's CARD OF 'radicandlaw32.IntegralRounds'. -/
def integralRoundsUptoCard : Claim7 := { stood := { row := integralRoundsUptoRow, standIns := [], harness := (true, "448462a60af249bf628175a4e53153a49748e1efe9eda8ef59fb3696ff6d1523"), looks := false }, kinds := [], alts := [], laidByText := true, laidKinds := [.data], laidTests := true, laidLooks := .later }
def IntegralRoundsUptoCardSaid : Prop := Claim7.holds Tryz.pinned (.plain (OpenSpec.upto integralRoundsSpec)) integralRoundsUptoCard

/-- THE SECOND FORM's CARD OF 'radicandlaw32.IntegralSplits'. -/
def integralSplitsUptoCard : Claim7 := { stood := { row := integralSplitsUptoRow, standIns := [], harness := (true, "448462a60af249bf628175a4e53153a49748e1efe9eda8ef59fb3696ff6d1523"), looks := false }, kinds := [], alts := [], laidByText := true, laidKinds := [.data], laidTests := true, laidLooks := .later }
def IntegralSplitsUptoCardSaid : Prop := Claim7.holds Tryz.pinned (.plain (OpenSpec.upto integralSplitsSpec)) integralSplitsUptoCard

/-- THE SECOND FORM's CARD OF 'radicandlaw29.ConvertWords'. -/
def convertWordsUptoCard : Claim7 := { stood := { row := convertWordsUptoRow, standIns := [], harness := (true, "448462a60af249bf628175a4e53153a49748e1efe9eda8ef59fb3696ff6d1523"), looks := false }, kinds := [], alts := [], laidByText := true, laidKinds := [.data], laidTests := true, laidLooks := .later }
def ConvertWordsUptoCardSaid : Prop := Claim7.holds Tryz.pinned (.plain (OpenSpec.upto convertWordsSpec)) convertWordsUptoCard

/-- THE SECOND FORM's CARD OF 'radicandlaw29.ConvertInts'. -/
def convertIntsUptoCard : Claim7 := { stood := { row := convertIntsUptoRow, standIns := [], harness := (true, "448462a60af249bf628175a4e53153a49748e1efe9eda8ef59fb3696ff6d1523"), looks := false }, kinds := [], alts := [], laidByText := true, laidKinds := [.data], laidTests := true, laidLooks := .later }
def ConvertIntsUptoCardSaid : Prop := Claim7.holds Tryz.pinned (.plain (OpenSpec.upto convertIntsSpec)) convertIntsUptoCard

/-- THE SECOND FORM's CARD OF 'radicandlaw29.ConvertToInt'. -/
def convertToIntUptoCard : Claim7 := { stood := { row := convertToIntUptoRow, standIns := [], harness := (true, "448462a60af249bf628175a4e53153a49748e1efe9eda8ef59fb3696ff6d1523"), looks := false }, kinds := [], alts := [], laidByText := true, laidKinds := [.data], laidTests := true, laidLooks := .later }
def ConvertToIntUptoCardSaid : Prop := Claim7.holds Tryz.pinned (.plain (OpenSpec.upto convertToIntSpec)) convertToIntUptoCard
end Rows
end Go.Proofs.YtghinobkekkopaaGreatDoor
