/-
  NARROWER THAN 'FOR EVERY INPUT', by the rows' own cells (each row's printed sentence says how): ConvertExact: laid · IntegralScales: laid · RemRems: laid · RemBounds: laid · RemAgain: laid · RemMods: laid.
  DERIVED. THE GIVEN ROWS OF THIS SEAT. 6 by the template 'for every input the law returns true; each argument reads behind the call as it read before'; 0 by the template 'total and deterministic' (their statements: YtcmicmbpcgminaaGreatDoorTotals.lean).
  GIVEN WITH THE SEED: the statements are not yours to turn. If you find one false, say at which input.
  Laid BY PROGRAM, IN A SANDBOX (cutbox-rows.mjs): the forced cells as the released guide's own fill.sh prints them over the translation 4461ec3901d6edcb… (all of the seat's roots in one cut). By AI agents, Wed Nov 11 2026. No macro, syntax, notation, axiom, sorry.
-/
import Derived.Test.YtcmicmbpcgminaaGreatDoorChecked
import GoSem.Claim
import GoSem.ClaimJoined
import GoSem.ClaimMapViews
import Derived.JoinedTies
import Derived.KernelRfl
namespace Go.Proofs.YtcmicmbpcgminaaGreatDoor
/- THE CELL 'sum', in the pinned program and in every row, IS THE sha256 OF THE DUMP (.gsa) THAT YtcmicmbpcgminaaGreatDoorProg.lean LOADS. Nothing in Lean hashes anything: it is a label: what it is worth is what the hold of that sum in a sandbox is worth. -/
noncomputable def Tryz.pinned : Pinned := { name := "ytcmicmbpcgminaagreatdoor", sum := "4461ec3901d6edcbd35a172625d019dd18bd0b7b988731ad89be55b4aaaabc39", checked := Tryz.checked }
namespace Rows
def none {H : Type} : Left H := { results := [], args := [] }

/- WHAT THE LISTED PACKAGE-LEVEL VARIABLES READ AS WHEN THE CALL BEGINS. Each datum BY PROGRAM (the guide's laid-datum.mjs) off the statement by which the dump's own 'gosem.cut.vars' lays the variable. In a bare row this is a premise. The card (YtcmicmbpcgminaaGreatDoorCards.lean) ties it to the program's text. -/
def laid_radicand_format_known {H : Type} : DataW H := .agg [.agg [.lit (.string []), .lit (.int .i64 0), .lit (.int .i64 0), .lit (.int .i64 0)], .agg [.lit (.string [98, 105, 110, 97, 114, 121, 49, 54]), .lit (.int .i64 16), .lit (.int .i64 11), .lit (.int .i64 5)], .agg [.lit (.string [98, 105, 110, 97, 114, 121, 51, 50]), .lit (.int .i64 32), .lit (.int .i64 24), .lit (.int .i64 8)], .agg [.lit (.string [98, 105, 110, 97, 114, 121, 54, 52]), .lit (.int .i64 64), .lit (.int .i64 53), .lit (.int .i64 11)], .agg [.lit (.string [98, 105, 110, 97, 114, 121, 49, 50, 56]), .lit (.int .i64 128), .lit (.int .i64 113), .lit (.int .i64 15)]]

/-- 'radicandlaw29.ConvertExact': WHATEVER THE INPUT: true; the input reads as it did. -/
def convertExactSpec : ChangeSpec := { name := "convertExact", fn := fun _ => fun
  | [d1, d2, d3] => { results := [.lit (.bool true)], args := [d1, d2, d3] }
  | _ => none }
def convertExactRow : OpenClaim := { program := "ytcmicmbpcgminaagreatdoor", sum := "4461ec3901d6edcbd35a172625d019dd18bd0b7b988731ad89be55b4aaaabc39", func := "radicand/radicandlaw29.ConvertExact", spec := "convertExact", inPlace := ["math/bits.Sub64", "math/bits.Add64"], unfollowed := true, recurses := true, named := ["radicand/format.known"], apart := false, laid := [("radicand/format.known", laid_radicand_format_known)] }
def ConvertExactSaid : Prop := convertExactRow.holds Tryz.pinned (OpenSpec.ofChange convertExactSpec)

/-- ITS FALSE NEIGHBOUR: 'it returns false'. Refute it at one input. -/
def convertExactWrong : ChangeSpec := { name := "convertExact", fn := fun _ => fun
  | [d1, d2, d3] => { results := [.lit (.bool false)], args := [d1, d2, d3] }
  | _ => none }
def ConvertExactWrongFalsely : Prop := convertExactRow.holds Tryz.pinned (OpenSpec.ofChange convertExactWrong)

/-- 'radicandlaw32.IntegralScales': WHATEVER THE INPUT: true; the input reads as it did. -/
def integralScalesSpec : ChangeSpec := { name := "integralScales", fn := fun _ => fun
  | [d1, d2, d3] => { results := [.lit (.bool true)], args := [d1, d2, d3] }
  | _ => none }
def integralScalesRow : OpenClaim := { program := "ytcmicmbpcgminaagreatdoor", sum := "4461ec3901d6edcbd35a172625d019dd18bd0b7b988731ad89be55b4aaaabc39", func := "radicand/radicandlaw32.IntegralScales", spec := "integralScales", inPlace := ["math/bits.Add64", "math/bits.Sub64"], unfollowed := true, recurses := true, named := ["radicand/format.known"], apart := false, laid := [("radicand/format.known", laid_radicand_format_known)] }
def IntegralScalesSaid : Prop := integralScalesRow.holds Tryz.pinned (OpenSpec.ofChange integralScalesSpec)

/-- ITS FALSE NEIGHBOUR: 'it returns false'. Refute it at one input. -/
def integralScalesWrong : ChangeSpec := { name := "integralScales", fn := fun _ => fun
  | [d1, d2, d3] => { results := [.lit (.bool false)], args := [d1, d2, d3] }
  | _ => none }
def IntegralScalesWrongFalsely : Prop := integralScalesRow.holds Tryz.pinned (OpenSpec.ofChange integralScalesWrong)

/-- 'radicandlaw31.RemRems': WHATEVER THE INPUT: true; the input reads as it did. -/
def remRemsSpec : ChangeSpec := { name := "remRems", fn := fun _ => fun
  | [d1, d2, d3] => { results := [.lit (.bool true)], args := [d1, d2, d3] }
  | _ => none }
def remRemsRow : OpenClaim := { program := "ytcmicmbpcgminaagreatdoor", sum := "4461ec3901d6edcbd35a172625d019dd18bd0b7b988731ad89be55b4aaaabc39", func := "radicand/radicandlaw31.RemRems", spec := "remRems", inPlace := ["math/bits.Sub64", "math/bits.Add64"], unfollowed := true, recurses := true, named := ["radicand/format.known"], apart := false, laid := [("radicand/format.known", laid_radicand_format_known)] }
def RemRemsSaid : Prop := remRemsRow.holds Tryz.pinned (OpenSpec.ofChange remRemsSpec)

/-- ITS FALSE NEIGHBOUR: 'it returns false'. Refute it at one input. -/
def remRemsWrong : ChangeSpec := { name := "remRems", fn := fun _ => fun
  | [d1, d2, d3] => { results := [.lit (.bool false)], args := [d1, d2, d3] }
  | _ => none }
def RemRemsWrongFalsely : Prop := remRemsRow.holds Tryz.pinned (OpenSpec.ofChange remRemsWrong)

/-- 'radicandlaw31.RemBounds': WHATEVER THE INPUT: true; the input reads as it did. -/
def remBoundsSpec : ChangeSpec := { name := "remBounds", fn := fun _ => fun
  | [d1, d2, d3] => { results := [.lit (.bool true)], args := [d1, d2, d3] }
  | _ => none }
def remBoundsRow : OpenClaim := { program := "ytcmicmbpcgminaagreatdoor", sum := "4461ec3901d6edcbd35a172625d019dd18bd0b7b988731ad89be55b4aaaabc39", func := "radicand/radicandlaw31.RemBounds", spec := "remBounds", inPlace := ["math/bits.Sub64", "math/bits.Add64"], unfollowed := true, recurses := true, named := ["radicand/format.known"], apart := false, laid := [("radicand/format.known", laid_radicand_format_known)] }
def RemBoundsSaid : Prop := remBoundsRow.holds Tryz.pinned (OpenSpec.ofChange remBoundsSpec)

/-- ITS FALSE NEIGHBOUR: 'it returns false'. Refute it at one input. -/
def remBoundsWrong : ChangeSpec := { name := "remBounds", fn := fun _ => fun
  | [d1, d2, d3] => { results := [.lit (.bool false)], args := [d1, d2, d3] }
  | _ => none }
def RemBoundsWrongFalsely : Prop := remBoundsRow.holds Tryz.pinned (OpenSpec.ofChange remBoundsWrong)

/-- 'radicandlaw31.RemAgain': WHATEVER THE INPUT: true; the input reads as it did. -/
def remAgainSpec : ChangeSpec := { name := "remAgain", fn := fun _ => fun
  | [d1, d2, d3] => { results := [.lit (.bool true)], args := [d1, d2, d3] }
  | _ => none }
def remAgainRow : OpenClaim := { program := "ytcmicmbpcgminaagreatdoor", sum := "4461ec3901d6edcbd35a172625d019dd18bd0b7b988731ad89be55b4aaaabc39", func := "radicand/radicandlaw31.RemAgain", spec := "remAgain", inPlace := ["math/bits.Sub64", "math/bits.Add64"], unfollowed := true, recurses := true, named := ["radicand/format.known"], apart := false, laid := [("radicand/format.known", laid_radicand_format_known)] }
def RemAgainSaid : Prop := remAgainRow.holds Tryz.pinned (OpenSpec.ofChange remAgainSpec)

/-- ITS FALSE NEIGHBOUR: 'it returns false'. Refute it at one input. -/
def remAgainWrong : ChangeSpec := { name := "remAgain", fn := fun _ => fun
  | [d1, d2, d3] => { results := [.lit (.bool false)], args := [d1, d2, d3] }
  | _ => none }
def RemAgainWrongFalsely : Prop := remAgainRow.holds Tryz.pinned (OpenSpec.ofChange remAgainWrong)

/-- 'radicandlaw31.RemMods': WHATEVER THE INPUT: true; the input reads as it did. -/
def remModsSpec : ChangeSpec := { name := "remMods", fn := fun _ => fun
  | [d1, d2, d3] => { results := [.lit (.bool true)], args := [d1, d2, d3] }
  | _ => none }
def remModsRow : OpenClaim := { program := "ytcmicmbpcgminaagreatdoor", sum := "4461ec3901d6edcbd35a172625d019dd18bd0b7b988731ad89be55b4aaaabc39", func := "radicand/radicandlaw31.RemMods", spec := "remMods", inPlace := ["math/bits.Sub64", "math/bits.Add64"], unfollowed := true, recurses := true, named := ["radicand/format.known"], apart := false, laid := [("radicand/format.known", laid_radicand_format_known)] }
def RemModsSaid : Prop := remModsRow.holds Tryz.pinned (OpenSpec.ofChange remModsSpec)

/-- ITS FALSE NEIGHBOUR: 'it returns false'. Refute it at one input. -/
def remModsWrong : ChangeSpec := { name := "remMods", fn := fun _ => fun
  | [d1, d2, d3] => { results := [.lit (.bool false)], args := [d1, d2, d3] }
  | _ => none }
def RemModsWrongFalsely : Prop := remModsRow.holds Tryz.pinned (OpenSpec.ofChange remModsWrong)

/- THE SECOND FORM. 'bulk': how many values and letters a reading holds, each counted each time it is reached (what is shared counts as often as it is met; a slice's spare places count too). A statement '..UptoSaid' is the law's where the arguments, and the package variables that the reading takes, are together of bulk at most 1048576: NARROWER than '..Said'. Prove '..Said' where nothing that the law and all that it calls make is longer than what came in: it says more and counts as full. Else prove '..UptoSaid'. A law counts once. -/
mutual
def uptoBulk {H : Type} : DataW H → Nat
  | .lit (.string bytes) => bytes.length + 1
  | .lit _ => 1
  | .nil => 1
  | .ptr d => uptoBulk d + 1
  | .slice elems spare => uptoBulkAll elems + uptoBulkAll spare + 1
  | .agg parts => uptoBulkAll parts + 1
  | .iface _ d => uptoBulk d + 1
  | .map entries => uptoBulkEntries entries + 1
  | .held _ => 1
def uptoBulkAll {H : Type} : List (DataW H) → Nat
  | [] => 0
  | d :: r => uptoBulk d + uptoBulkAll r
def uptoBulkEntries {H : Type} : List (Lit × DataW H) → Nat
  | [] => 0
  | x :: r => uptoBulkEntry x + uptoBulkEntries r
def uptoBulkEntry {H : Type} : Lit × DataW H → Nat
  | (.string bytes, d) => bytes.length + uptoBulk d + 1
  | (_, d) => uptoBulk d + 1
 end
def uptoSmall : (H : Type) → List (DataW H) → Bool := fun _ ds => decide (uptoBulkAll ds ≤ 1048576)
def OpenSpec.upto (s : _root_.Go.ChangeSpec) : _root_.Go.OpenSpec := { _root_.Go.OpenSpec.ofChange s with cond := some uptoSmall }

/-- 'radicandlaw29.ConvertExact', WHERE WHAT IT READS IS OF BULK AT MOST 1048576: true; the input reads as it did. -/
def convertExactUptoRow : OpenClaim := { program := "ytcmicmbpcgminaagreatdoor", sum := "4461ec3901d6edcbd35a172625d019dd18bd0b7b988731ad89be55b4aaaabc39", func := "radicand/radicandlaw29.ConvertExact", spec := "convertExact", inPlace := ["math/bits.Sub64", "math/bits.Add64"], unfollowed := true, recurses := true, named := ["radicand/format.known"], apart := false, laid := [("radicand/format.known", laid_radicand_format_known)], narrowed := true }
def ConvertExactUptoSaid : Prop := convertExactUptoRow.holds Tryz.pinned (OpenSpec.upto convertExactSpec)

/-- 'radicandlaw32.IntegralScales', WHERE WHAT IT READS IS OF BULK AT MOST 1048576: true; the input reads as it did. -/
def integralScalesUptoRow : OpenClaim := { program := "ytcmicmbpcgminaagreatdoor", sum := "4461ec3901d6edcbd35a172625d019dd18bd0b7b988731ad89be55b4aaaabc39", func := "radicand/radicandlaw32.IntegralScales", spec := "integralScales", inPlace := ["math/bits.Add64", "math/bits.Sub64"], unfollowed := true, recurses := true, named := ["radicand/format.known"], apart := false, laid := [("radicand/format.known", laid_radicand_format_known)], narrowed := true }
def IntegralScalesUptoSaid : Prop := integralScalesUptoRow.holds Tryz.pinned (OpenSpec.upto integralScalesSpec)

/-- 'radicandlaw31.RemRems', WHERE WHAT IT READS IS OF BULK AT MOST 1048576: true; the input reads as it did. -/
def remRemsUptoRow : OpenClaim := { program := "ytcmicmbpcgminaagreatdoor", sum := "4461ec3901d6edcbd35a172625d019dd18bd0b7b988731ad89be55b4aaaabc39", func := "radicand/radicandlaw31.RemRems", spec := "remRems", inPlace := ["math/bits.Sub64", "math/bits.Add64"], unfollowed := true, recurses := true, named := ["radicand/format.known"], apart := false, laid := [("radicand/format.known", laid_radicand_format_known)], narrowed := true }
def RemRemsUptoSaid : Prop := remRemsUptoRow.holds Tryz.pinned (OpenSpec.upto remRemsSpec)

/-- 'radicandlaw31.RemBounds', WHERE WHAT IT READS IS OF BULK AT MOST 1048576: true; the input reads as it did. -/
def remBoundsUptoRow : OpenClaim := { program := "ytcmicmbpcgminaagreatdoor", sum := "4461ec3901d6edcbd35a172625d019dd18bd0b7b988731ad89be55b4aaaabc39", func := "radicand/radicandlaw31.RemBounds", spec := "remBounds", inPlace := ["math/bits.Sub64", "math/bits.Add64"], unfollowed := true, recurses := true, named := ["radicand/format.known"], apart := false, laid := [("radicand/format.known", laid_radicand_format_known)], narrowed := true }
def RemBoundsUptoSaid : Prop := remBoundsUptoRow.holds Tryz.pinned (OpenSpec.upto remBoundsSpec)

/-- 'radicandlaw31.RemAgain', WHERE WHAT IT READS IS OF BULK AT MOST 1048576: true; the input reads as it did. -/
def remAgainUptoRow : OpenClaim := { program := "ytcmicmbpcgminaagreatdoor", sum := "4461ec3901d6edcbd35a172625d019dd18bd0b7b988731ad89be55b4aaaabc39", func := "radicand/radicandlaw31.RemAgain", spec := "remAgain", inPlace := ["math/bits.Sub64", "math/bits.Add64"], unfollowed := true, recurses := true, named := ["radicand/format.known"], apart := false, laid := [("radicand/format.known", laid_radicand_format_known)], narrowed := true }
def RemAgainUptoSaid : Prop := remAgainUptoRow.holds Tryz.pinned (OpenSpec.upto remAgainSpec)

/-- 'radicandlaw31.RemMods', WHERE WHAT IT READS IS OF BULK AT MOST 1048576: true; the input reads as it did. -/
def remModsUptoRow : OpenClaim := { program := "ytcmicmbpcgminaagreatdoor", sum := "4461ec3901d6edcbd35a172625d019dd18bd0b7b988731ad89be55b4aaaabc39", func := "radicand/radicandlaw31.RemMods", spec := "remMods", inPlace := ["math/bits.Sub64", "math/bits.Add64"], unfollowed := true, recurses := true, named := ["radicand/format.known"], apart := false, laid := [("radicand/format.known", laid_radicand_format_known)], narrowed := true }
def RemModsUptoSaid : Prop := remModsUptoRow.holds Tryz.pinned (OpenSpec.upto remModsSpec)

end Rows
end Go.Proofs.YtcmicmbpcgminaaGreatDoor
