/-
  DERIVED. GIVEN WITH THE SEED: THE CARDS: each row of YtghinobkekkopaaDoorRows.lean that lists a variable, with what it lists TIED to the program's text (the seventh form; the later family's looks); each row that meets fmt, with fmt's text TOLD by the authors' own Lean function (tested against real Go, not proved from fmt's source: count such statements apart). THE CARD IS WHAT COUNTS. Prove the row's statement (the work); the ties are given (YtghinobkekkopaaDoorTie.lean); close each card by the builder's one call (the guide's Derived/Test/ToyasCard.lean, 'card_holds'). Laid BY PROGRAM, IN A SANDBOX (cutbox-door.mjs). By AI agents, Wed Nov 11 2026. No macro, syntax, notation, axiom, sorry.
-/
import Derived.Test.YtghinobkekkopaaDoorRows
import GoSem.ClaimSeven
namespace Go.Proofs.YtghinobkekkopaaDoor
namespace Rows

/-- THE TIED CARD OF 'radicandlaw26.SpecialRules'. -/
def specialRulesCard : Claim7 := { stood := { row := specialRulesRow, standIns := [], harness := (true, "f8d18de25445ebadc33e0265fe19c0e6ee41c9d3c95526497b98fd782a0be71f"), looks := false }, kinds := [], alts := [], laidByText := true, laidKinds := [.data], laidTests := true, laidLooks := .later }
def SpecialRulesCardSaid : Prop := Claim7.holds Tryd.pinned (.plain (OpenSpec.ofChange specialRulesSpec)) specialRulesCard

/-- THE TIED CARD OF 'radicandlaw26.SpecialSigns'. -/
def specialSignsCard : Claim7 := { stood := { row := specialSignsRow, standIns := [], harness := (true, "f8d18de25445ebadc33e0265fe19c0e6ee41c9d3c95526497b98fd782a0be71f"), looks := false }, kinds := [], alts := [], laidByText := true, laidKinds := [.data], laidTests := true, laidLooks := .later }
def SpecialSignsCardSaid : Prop := Claim7.holds Tryd.pinned (.plain (OpenSpec.ofChange specialSignsSpec)) specialSignsCard

/-- THE TIED CARD OF 'radicandlaw09.PackOwn'. -/
def packOwnCard : Claim7 := { stood := { row := packOwnRow, standIns := [], harness := (true, "f8d18de25445ebadc33e0265fe19c0e6ee41c9d3c95526497b98fd782a0be71f"), looks := false }, kinds := [], alts := [], laidByText := true, laidKinds := [.data], laidTests := true, laidLooks := .later }
def PackOwnCardSaid : Prop := Claim7.holds Tryd.pinned (.plain (OpenSpec.ofChange packOwnSpec)) packOwnCard

/-- THE TIED CARD OF 'radicandlaw09.PackOrder'. -/
def packOrderCard : Claim7 := { stood := { row := packOrderRow, standIns := [], harness := (true, "f8d18de25445ebadc33e0265fe19c0e6ee41c9d3c95526497b98fd782a0be71f"), looks := false }, kinds := [], alts := [], laidByText := true, laidKinds := [.data], laidTests := true, laidLooks := .later }
def PackOrderCardSaid : Prop := Claim7.holds Tryd.pinned (.plain (OpenSpec.ofChange packOrderSpec)) packOrderCard

/-- THE TIED CARD OF 'radicandlaw29.ConvertBack'. -/
def convertBackCard : Claim7 := { stood := { row := convertBackRow, standIns := [], harness := (true, "f8d18de25445ebadc33e0265fe19c0e6ee41c9d3c95526497b98fd782a0be71f"), looks := false }, kinds := [], alts := [], laidByText := true, laidKinds := [.data], laidTests := true, laidLooks := .later }
def ConvertBackCardSaid : Prop := Claim7.holds Tryd.pinned (.plain (OpenSpec.ofChange convertBackSpec)) convertBackCard

/-- THE TIED CARD OF 'radicandlaw09.PackFlags'. -/
def packFlagsCard : Claim7 := { stood := { row := packFlagsRow, standIns := [], harness := (true, "f8d18de25445ebadc33e0265fe19c0e6ee41c9d3c95526497b98fd782a0be71f"), looks := false }, kinds := [], alts := [], laidByText := true, laidKinds := [.data, .data], laidTests := true, laidLooks := .later }
def PackFlagsCardSaid : Prop := Claim7.holds Tryd.pinned (.plain (OpenSpec.ofChange packFlagsSpec)) packFlagsCard

/-- THE TIED CARD OF 'radicandlaw32.IntegralStays'. -/
def integralStaysCard : Claim7 := { stood := { row := integralStaysRow, standIns := [], harness := (true, "f8d18de25445ebadc33e0265fe19c0e6ee41c9d3c95526497b98fd782a0be71f"), looks := false }, kinds := [], alts := [], laidByText := true, laidKinds := [.data], laidTests := true, laidLooks := .later }
def IntegralStaysCardSaid : Prop := Claim7.holds Tryd.pinned (.plain (OpenSpec.ofChange integralStaysSpec)) integralStaysCard

/-- THE SECOND FORM's CARD OF 'radicandlaw26.SpecialRules'. -/
def specialRulesUptoCard : Claim7 := { stood := { row := specialRulesUptoRow, standIns := [], harness := (true, "f8d18de25445ebadc33e0265fe19c0e6ee41c9d3c95526497b98fd782a0be71f"), looks := false }, kinds := [], alts := [], laidByText := true, laidKinds := [.data], laidTests := true, laidLooks := .later }
def SpecialRulesUptoCardSaid : Prop := Claim7.holds Tryd.pinned (.plain (OpenSpec.upto specialRulesSpec)) specialRulesUptoCard

/-- THE SECOND FORM's CARD OF 'radicandlaw26.SpecialSigns'. -/
def specialSignsUptoCard : Claim7 := { stood := { row := specialSignsUptoRow, standIns := [], harness := (true, "f8d18de25445ebadc33e0265fe19c0e6ee41c9d3c95526497b98fd782a0be71f"), looks := false }, kinds := [], alts := [], laidByText := true, laidKinds := [.data], laidTests := true, laidLooks := .later }
def SpecialSignsUptoCardSaid : Prop := Claim7.holds Tryd.pinned (.plain (OpenSpec.upto specialSignsSpec)) specialSignsUptoCard

/-- THE SECOND FORM's CARD OF 'radicandlaw09.PackOwn'. -/
def packOwnUptoCard : Claim7 := { stood := { row := packOwnUptoRow, standIns := [], harness := (true, "f8d18de25445ebadc33e0265fe19c0e6ee41c9d3c95526497b98fd782a0be71f"), looks := false }, kinds := [], alts := [], laidByText := true, laidKinds := [.data], laidTests := true, laidLooks := .later }
def PackOwnUptoCardSaid : Prop := Claim7.holds Tryd.pinned (.plain (OpenSpec.upto packOwnSpec)) packOwnUptoCard

/-- THE SECOND FORM's CARD OF 'radicandlaw09.PackOrder'. -/
def packOrderUptoCard : Claim7 := { stood := { row := packOrderUptoRow, standIns := [], harness := (true, "f8d18de25445ebadc33e0265fe19c0e6ee41c9d3c95526497b98fd782a0be71f"), looks := false }, kinds := [], alts := [], laidByText := true, laidKinds := [.data], laidTests := true, laidLooks := .later }
def PackOrderUptoCardSaid : Prop := Claim7.holds Tryd.pinned (.plain (OpenSpec.upto packOrderSpec)) packOrderUptoCard

/-- THE SECOND FORM's CARD OF 'radicandlaw29.ConvertBack'. -/
def convertBackUptoCard : Claim7 := { stood := { row := convertBackUptoRow, standIns := [], harness := (true, "f8d18de25445ebadc33e0265fe19c0e6ee41c9d3c95526497b98fd782a0be71f"), looks := false }, kinds := [], alts := [], laidByText := true, laidKinds := [.data], laidTests := true, laidLooks := .later }
def ConvertBackUptoCardSaid : Prop := Claim7.holds Tryd.pinned (.plain (OpenSpec.upto convertBackSpec)) convertBackUptoCard

/-- THE SECOND FORM's CARD OF 'radicandlaw09.PackFlags'. -/
def packFlagsUptoCard : Claim7 := { stood := { row := packFlagsUptoRow, standIns := [], harness := (true, "f8d18de25445ebadc33e0265fe19c0e6ee41c9d3c95526497b98fd782a0be71f"), looks := false }, kinds := [], alts := [], laidByText := true, laidKinds := [.data, .data], laidTests := true, laidLooks := .later }
def PackFlagsUptoCardSaid : Prop := Claim7.holds Tryd.pinned (.plain (OpenSpec.upto packFlagsSpec)) packFlagsUptoCard

/-- THE SECOND FORM's CARD OF 'radicandlaw32.IntegralStays'. -/
def integralStaysUptoCard : Claim7 := { stood := { row := integralStaysUptoRow, standIns := [], harness := (true, "f8d18de25445ebadc33e0265fe19c0e6ee41c9d3c95526497b98fd782a0be71f"), looks := false }, kinds := [], alts := [], laidByText := true, laidKinds := [.data], laidTests := true, laidLooks := .later }
def IntegralStaysUptoCardSaid : Prop := Claim7.holds Tryd.pinned (.plain (OpenSpec.upto integralStaysSpec)) integralStaysUptoCard
end Rows
end Go.Proofs.YtghinobkekkopaaDoor
