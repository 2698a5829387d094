/-
  DERIVED. GIVEN WITH THE SEED: THE CARDS: each row of YtcmicmbpcgminaaGreatDoorRows.lean that lists a variable, with what it lists TIED to the program's text (the seventh form; the later family's looks); each row that meets fmt, with fmt's text TOLD by the authors' own Lean function (tested against real Go, not proved from fmt's source: count such statements apart). THE CARD IS WHAT COUNTS. Prove the row's statement (the work); the ties are given (YtcmicmbpcgminaaGreatDoorTie.lean); close each card by the builder's one call (the guide's Derived/Test/ToyasCard.lean, 'card_holds'). Laid BY PROGRAM, IN A SANDBOX (cutbox-door.mjs). By AI agents, Wed Nov 11 2026. No macro, syntax, notation, axiom, sorry.
-/
import Derived.Test.YtcmicmbpcgminaaGreatDoorRows
import GoSem.ClaimSeven
namespace Go.Proofs.YtcmicmbpcgminaaGreatDoor
namespace Rows

/-- THE TIED CARD OF 'radicandlaw29.ConvertExact'. -/
def convertExactCard : Claim7 := { stood := { row := convertExactRow, standIns := [], harness := (true, "a94cce49c353a86fd7f925fe48576b651e5d48ea29773b935b6ec49e481e29e9"), looks := false }, kinds := [], alts := [], laidByText := true, laidKinds := [.data], laidTests := true, laidLooks := .later }
def ConvertExactCardSaid : Prop := Claim7.holds Tryz.pinned (.plain (OpenSpec.ofChange convertExactSpec)) convertExactCard

/-- THE TIED CARD OF 'radicandlaw32.IntegralScales'. -/
def integralScalesCard : Claim7 := { stood := { row := integralScalesRow, standIns := [], harness := (true, "a94cce49c353a86fd7f925fe48576b651e5d48ea29773b935b6ec49e481e29e9"), looks := false }, kinds := [], alts := [], laidByText := true, laidKinds := [.data], laidTests := true, laidLooks := .later }
def IntegralScalesCardSaid : Prop := Claim7.holds Tryz.pinned (.plain (OpenSpec.ofChange integralScalesSpec)) integralScalesCard

/-- THE TIED CARD OF 'radicandlaw31.RemRems'. -/
def remRemsCard : Claim7 := { stood := { row := remRemsRow, standIns := [], harness := (true, "a94cce49c353a86fd7f925fe48576b651e5d48ea29773b935b6ec49e481e29e9"), looks := false }, kinds := [], alts := [], laidByText := true, laidKinds := [.data], laidTests := true, laidLooks := .later }
def RemRemsCardSaid : Prop := Claim7.holds Tryz.pinned (.plain (OpenSpec.ofChange remRemsSpec)) remRemsCard

/-- THE TIED CARD OF 'radicandlaw31.RemBounds'. -/
def remBoundsCard : Claim7 := { stood := { row := remBoundsRow, standIns := [], harness := (true, "a94cce49c353a86fd7f925fe48576b651e5d48ea29773b935b6ec49e481e29e9"), looks := false }, kinds := [], alts := [], laidByText := true, laidKinds := [.data], laidTests := true, laidLooks := .later }
def RemBoundsCardSaid : Prop := Claim7.holds Tryz.pinned (.plain (OpenSpec.ofChange remBoundsSpec)) remBoundsCard

/-- THE TIED CARD OF 'radicandlaw31.RemAgain'. -/
def remAgainCard : Claim7 := { stood := { row := remAgainRow, standIns := [], harness := (true, "a94cce49c353a86fd7f925fe48576b651e5d48ea29773b935b6ec49e481e29e9"), looks := false }, kinds := [], alts := [], laidByText := true, laidKinds := [.data], laidTests := true, laidLooks := .later }
def RemAgainCardSaid : Prop := Claim7.holds Tryz.pinned (.plain (OpenSpec.ofChange remAgainSpec)) remAgainCard

/-- THE TIED CARD OF 'radicandlaw31.RemMods'. -/
def remModsCard : Claim7 := { stood := { row := remModsRow, standIns := [], harness := (true, "a94cce49c353a86fd7f925fe48576b651e5d48ea29773b935b6ec49e481e29e9"), looks := false }, kinds := [], alts := [], laidByText := true, laidKinds := [.data], laidTests := true, laidLooks := .later }
def RemModsCardSaid : Prop := Claim7.holds Tryz.pinned (.plain (OpenSpec.ofChange remModsSpec)) remModsCard

/-- THE SECOND FORM's CARD OF 'radicandlaw29.ConvertExact'. -/
def convertExactUptoCard : Claim7 := { stood := { row := convertExactUptoRow, standIns := [], harness := (true, "a94cce49c353a86fd7f925fe48576b651e5d48ea29773b935b6ec49e481e29e9"), looks := false }, kinds := [], alts := [], laidByText := true, laidKinds := [.data], laidTests := true, laidLooks := .later }
def ConvertExactUptoCardSaid : Prop := Claim7.holds Tryz.pinned (.plain (OpenSpec.upto convertExactSpec)) convertExactUptoCard

/-- THE SECOND FORM's CARD OF 'radicandlaw32.IntegralScales'. -/
def integralScalesUptoCard : Claim7 := { stood := { row := integralScalesUptoRow, standIns := [], harness := (true, "a94cce49c353a86fd7f925fe48576b651e5d48ea29773b935b6ec49e481e29e9"), looks := false }, kinds := [], alts := [], laidByText := true, laidKinds := [.data], laidTests := true, laidLooks := .later }
def IntegralScalesUptoCardSaid : Prop := Claim7.holds Tryz.pinned (.plain (OpenSpec.upto integralScalesSpec)) integralScalesUptoCard

/-- THE SECOND FORM's CARD OF 'radicandlaw31.RemRems'. -/
def remRemsUptoCard : Claim7 := { stood := { row := remRemsUptoRow, standIns := [], harness := (true, "a94cce49c353a86fd7f925fe48576b651e5d48ea29773b935b6ec49e481e29e9"), looks := false }, kinds := [], alts := [], laidByText := true, laidKinds := [.data], laidTests := true, laidLooks := .later }
def RemRemsUptoCardSaid : Prop := Claim7.holds Tryz.pinned (.plain (OpenSpec.upto remRemsSpec)) remRemsUptoCard

/-- THE SECOND FORM's CARD OF 'radicandlaw31.RemBounds'. -/
def remBoundsUptoCard : Claim7 := { stood := { row := remBoundsUptoRow, standIns := [], harness := (true, "a94cce49c353a86fd7f925fe48576b651e5d48ea29773b935b6ec49e481e29e9"), looks := false }, kinds := [], alts := [], laidByText := true, laidKinds := [.data], laidTests := true, laidLooks := .later }
def RemBoundsUptoCardSaid : Prop := Claim7.holds Tryz.pinned (.plain (OpenSpec.upto remBoundsSpec)) remBoundsUptoCard

/-- THE SECOND FORM's CARD OF 'radicandlaw31.RemAgain'. -/
def remAgainUptoCard : Claim7 := { stood := { row := remAgainUptoRow, standIns := [], harness := (true, "a94cce49c353a86fd7f925fe48576b651e5d48ea29773b935b6ec49e481e29e9"), looks := false }, kinds := [], alts := [], laidByText := true, laidKinds := [.data], laidTests := true, laidLooks := .later }
def RemAgainUptoCardSaid : Prop := Claim7.holds Tryz.pinned (.plain (OpenSpec.upto remAgainSpec)) remAgainUptoCard

/-- THE SECOND FORM's CARD OF 'radicandlaw31.RemMods'. -/
def remModsUptoCard : Claim7 := { stood := { row := remModsUptoRow, standIns := [], harness := (true, "a94cce49c353a86fd7f925fe48576b651e5d48ea29773b935b6ec49e481e29e9"), looks := false }, kinds := [], alts := [], laidByText := true, laidKinds := [.data], laidTests := true, laidLooks := .later }
def RemModsUptoCardSaid : Prop := Claim7.holds Tryz.pinned (.plain (OpenSpec.upto remModsSpec)) remModsUptoCard
end Rows
end Go.Proofs.YtcmicmbpcgminaaGreatDoor
