/-
  NARROWER THAN 'FOR EVERY INPUT', by the rows' own cells (each row's printed sentence says how): SpecialRules: laid · SpecialSigns: laid · PackOwn: laid · PackOrder: laid · ConvertBack: laid · PackFlags: laid · IntegralStays: laid.
  DERIVED. THE GIVEN ROWS OF THIS SEAT. 7 by the template 'for every input the law returns true; each argument reads behind the call as it read before'; 0 by the template 'total and deterministic' (their statements: YtghinobkekkopaaDoorTotals.lean).
  GIVEN WITH THE SEED: the statements are not yours to turn. If you find one false, say at which input.
  Laid BY PROGRAM, IN A SANDBOX (cutbox-rows.mjs): the forced cells as the released guide's own fill.sh prints them over the translation 3e508e7b2199250d… (all of the seat's roots in one cut). By AI agents, Wed Nov 11 2026. No macro, syntax, notation, axiom, sorry.
-/
import Derived.Test.YtghinobkekkopaaDoorChecked
import GoSem.Claim
import GoSem.ClaimJoined
import GoSem.ClaimMapViews
import Derived.JoinedTies
import Derived.KernelRfl
namespace Go.Proofs.YtghinobkekkopaaDoor
/- THE CELL 'sum', in the pinned program and in every row, IS THE sha256 OF THE DUMP (.gsa) THAT YtghinobkekkopaaDoorProg.lean LOADS. Nothing in Lean hashes anything: it is a label: what it is worth is what the hold of that sum in a sandbox is worth. -/
noncomputable def Tryd.pinned : Pinned := { name := "ytghinobkekkopaadoor", sum := "3e508e7b2199250d8ba9fb706c56221010f97e030f32045f97b66bd98095a367", checked := Tryd.checked }
namespace Rows
def none {H : Type} : Left H := { results := [], args := [] }

/- WHAT THE LISTED PACKAGE-LEVEL VARIABLES READ AS WHEN THE CALL BEGINS. Each datum BY PROGRAM (the guide's laid-datum.mjs) off the statement by which the dump's own 'gosem.cut.vars' lays the variable. In a bare row this is a premise. The card (YtghinobkekkopaaDoorCards.lean) ties it to the program's text. -/
def laid_radicand_format_known {H : Type} : DataW H := .agg [.agg [.lit (.string []), .lit (.int .i64 0), .lit (.int .i64 0), .lit (.int .i64 0)], .agg [.lit (.string [98, 105, 110, 97, 114, 121, 49, 54]), .lit (.int .i64 16), .lit (.int .i64 11), .lit (.int .i64 5)], .agg [.lit (.string [98, 105, 110, 97, 114, 121, 51, 50]), .lit (.int .i64 32), .lit (.int .i64 24), .lit (.int .i64 8)], .agg [.lit (.string [98, 105, 110, 97, 114, 121, 54, 52]), .lit (.int .i64 64), .lit (.int .i64 53), .lit (.int .i64 11)], .agg [.lit (.string [98, 105, 110, 97, 114, 121, 49, 50, 56]), .lit (.int .i64 128), .lit (.int .i64 113), .lit (.int .i64 15)]]
def laid_radicand_pack_letters {H : Type} : DataW H := .agg [.agg [.lit (.string [105]), .lit (.int .i64 1)], .agg [.lit (.string [122]), .lit (.int .i64 2)], .agg [.lit (.string [111]), .lit (.int .i64 4)], .agg [.lit (.string [117]), .lit (.int .i64 8)], .agg [.lit (.string [120]), .lit (.int .i64 16)]]

/-- 'radicandlaw26.SpecialRules': WHATEVER THE INPUT: true; the input reads as it did. -/
def specialRulesSpec : ChangeSpec := { name := "specialRules", fn := fun _ => fun
  | [d1, d2, d3] => { results := [.lit (.bool true)], args := [d1, d2, d3] }
  | _ => none }
def specialRulesRow : OpenClaim := { program := "ytghinobkekkopaadoor", sum := "3e508e7b2199250d8ba9fb706c56221010f97e030f32045f97b66bd98095a367", func := "radicand/radicandlaw26.SpecialRules", spec := "specialRules", inPlace := ["math/bits.Sub64", "math/bits.Add64"], unfollowed := true, recurses := true, named := ["radicand/format.known"], apart := false, laid := [("radicand/format.known", laid_radicand_format_known)] }
def SpecialRulesSaid : Prop := specialRulesRow.holds Tryd.pinned (OpenSpec.ofChange specialRulesSpec)

/-- ITS FALSE NEIGHBOUR: 'it returns false'. Refute it at one input. -/
def specialRulesWrong : ChangeSpec := { name := "specialRules", fn := fun _ => fun
  | [d1, d2, d3] => { results := [.lit (.bool false)], args := [d1, d2, d3] }
  | _ => none }
def SpecialRulesWrongFalsely : Prop := specialRulesRow.holds Tryd.pinned (OpenSpec.ofChange specialRulesWrong)

/-- 'radicandlaw26.SpecialSigns': WHATEVER THE INPUT: true; the input reads as it did. -/
def specialSignsSpec : ChangeSpec := { name := "specialSigns", fn := fun _ => fun
  | [d1, d2, d3] => { results := [.lit (.bool true)], args := [d1, d2, d3] }
  | _ => none }
def specialSignsRow : OpenClaim := { program := "ytghinobkekkopaadoor", sum := "3e508e7b2199250d8ba9fb706c56221010f97e030f32045f97b66bd98095a367", func := "radicand/radicandlaw26.SpecialSigns", spec := "specialSigns", inPlace := ["math/bits.Sub64", "math/bits.Add64"], unfollowed := true, recurses := true, named := ["radicand/format.known"], apart := false, laid := [("radicand/format.known", laid_radicand_format_known)] }
def SpecialSignsSaid : Prop := specialSignsRow.holds Tryd.pinned (OpenSpec.ofChange specialSignsSpec)

/-- ITS FALSE NEIGHBOUR: 'it returns false'. Refute it at one input. -/
def specialSignsWrong : ChangeSpec := { name := "specialSigns", fn := fun _ => fun
  | [d1, d2, d3] => { results := [.lit (.bool false)], args := [d1, d2, d3] }
  | _ => none }
def SpecialSignsWrongFalsely : Prop := specialSignsRow.holds Tryd.pinned (OpenSpec.ofChange specialSignsWrong)

/-- 'radicandlaw09.PackOwn': WHATEVER THE INPUT: true; the input reads as it did. -/
def packOwnSpec : ChangeSpec := { name := "packOwn", fn := fun _ => fun
  | [d1, d2, d3] => { results := [.lit (.bool true)], args := [d1, d2, d3] }
  | _ => none }
def packOwnRow : OpenClaim := { program := "ytghinobkekkopaadoor", sum := "3e508e7b2199250d8ba9fb706c56221010f97e030f32045f97b66bd98095a367", func := "radicand/radicandlaw09.PackOwn", spec := "packOwn", inPlace := ["math/bits.Add64", "math/bits.Sub64"], unfollowed := true, recurses := true, named := ["radicand/format.known"], apart := false, laid := [("radicand/format.known", laid_radicand_format_known)] }
def PackOwnSaid : Prop := packOwnRow.holds Tryd.pinned (OpenSpec.ofChange packOwnSpec)

/-- ITS FALSE NEIGHBOUR: 'it returns false'. Refute it at one input. -/
def packOwnWrong : ChangeSpec := { name := "packOwn", fn := fun _ => fun
  | [d1, d2, d3] => { results := [.lit (.bool false)], args := [d1, d2, d3] }
  | _ => none }
def PackOwnWrongFalsely : Prop := packOwnRow.holds Tryd.pinned (OpenSpec.ofChange packOwnWrong)

/-- 'radicandlaw09.PackOrder': WHATEVER THE INPUT: true; the input reads as it did. -/
def packOrderSpec : ChangeSpec := { name := "packOrder", fn := fun _ => fun
  | [d1, d2, d3] => { results := [.lit (.bool true)], args := [d1, d2, d3] }
  | _ => none }
def packOrderRow : OpenClaim := { program := "ytghinobkekkopaadoor", sum := "3e508e7b2199250d8ba9fb706c56221010f97e030f32045f97b66bd98095a367", func := "radicand/radicandlaw09.PackOrder", spec := "packOrder", inPlace := ["math/bits.Add64", "math/bits.Sub64"], unfollowed := true, recurses := true, named := ["radicand/format.known"], apart := false, laid := [("radicand/format.known", laid_radicand_format_known)] }
def PackOrderSaid : Prop := packOrderRow.holds Tryd.pinned (OpenSpec.ofChange packOrderSpec)

/-- ITS FALSE NEIGHBOUR: 'it returns false'. Refute it at one input. -/
def packOrderWrong : ChangeSpec := { name := "packOrder", fn := fun _ => fun
  | [d1, d2, d3] => { results := [.lit (.bool false)], args := [d1, d2, d3] }
  | _ => none }
def PackOrderWrongFalsely : Prop := packOrderRow.holds Tryd.pinned (OpenSpec.ofChange packOrderWrong)

/-- 'radicandlaw29.ConvertBack': WHATEVER THE INPUT: true; the input reads as it did. -/
def convertBackSpec : ChangeSpec := { name := "convertBack", fn := fun _ => fun
  | [d1, d2, d3] => { results := [.lit (.bool true)], args := [d1, d2, d3] }
  | _ => none }
def convertBackRow : OpenClaim := { program := "ytghinobkekkopaadoor", sum := "3e508e7b2199250d8ba9fb706c56221010f97e030f32045f97b66bd98095a367", func := "radicand/radicandlaw29.ConvertBack", spec := "convertBack", inPlace := ["math/bits.Sub64", "math/bits.Add64"], unfollowed := true, recurses := true, named := ["radicand/format.known"], apart := false, laid := [("radicand/format.known", laid_radicand_format_known)] }
def ConvertBackSaid : Prop := convertBackRow.holds Tryd.pinned (OpenSpec.ofChange convertBackSpec)

/-- ITS FALSE NEIGHBOUR: 'it returns false'. Refute it at one input. -/
def convertBackWrong : ChangeSpec := { name := "convertBack", fn := fun _ => fun
  | [d1, d2, d3] => { results := [.lit (.bool false)], args := [d1, d2, d3] }
  | _ => none }
def ConvertBackWrongFalsely : Prop := convertBackRow.holds Tryd.pinned (OpenSpec.ofChange convertBackWrong)

/-- 'radicandlaw09.PackFlags': WHATEVER THE INPUT: true; the input reads as it did. -/
def packFlagsSpec : ChangeSpec := { name := "packFlags", fn := fun _ => fun
  | [d1, d2] => { results := [.lit (.bool true)], args := [d1, d2] }
  | _ => none }
def packFlagsRow : OpenClaim := { program := "ytghinobkekkopaadoor", sum := "3e508e7b2199250d8ba9fb706c56221010f97e030f32045f97b66bd98095a367", func := "radicand/radicandlaw09.PackFlags", spec := "packFlags", inPlace := ["math/bits.Add64", "math/bits.Sub64", "internal/abi.NoEscape", "internal/bytealg.IndexByteString", "internal/bytealg.IndexString"], unfollowed := true, recurses := true, named := ["radicand/format.known", "radicand/pack.letters", "internal/bytealg.MaxLen"], apart := false, laid := [("radicand/format.known", laid_radicand_format_known), ("radicand/pack.letters", laid_radicand_pack_letters)] }
def PackFlagsSaid : Prop := packFlagsRow.holds Tryd.pinned (OpenSpec.ofChange packFlagsSpec)

/-- ITS FALSE NEIGHBOUR: 'it returns false'. Refute it at one input. -/
def packFlagsWrong : ChangeSpec := { name := "packFlags", fn := fun _ => fun
  | [d1, d2] => { results := [.lit (.bool false)], args := [d1, d2] }
  | _ => none }
def PackFlagsWrongFalsely : Prop := packFlagsRow.holds Tryd.pinned (OpenSpec.ofChange packFlagsWrong)

/-- 'radicandlaw32.IntegralStays': WHATEVER THE INPUT: true; the input reads as it did. -/
def integralStaysSpec : ChangeSpec := { name := "integralStays", fn := fun _ => fun
  | [d1, d2, d3] => { results := [.lit (.bool true)], args := [d1, d2, d3] }
  | _ => none }
def integralStaysRow : OpenClaim := { program := "ytghinobkekkopaadoor", sum := "3e508e7b2199250d8ba9fb706c56221010f97e030f32045f97b66bd98095a367", func := "radicand/radicandlaw32.IntegralStays", spec := "integralStays", inPlace := ["math/bits.Sub64", "math/bits.Add64"], unfollowed := true, recurses := true, named := ["radicand/format.known"], apart := false, laid := [("radicand/format.known", laid_radicand_format_known)] }
def IntegralStaysSaid : Prop := integralStaysRow.holds Tryd.pinned (OpenSpec.ofChange integralStaysSpec)

/-- ITS FALSE NEIGHBOUR: 'it returns false'. Refute it at one input. -/
def integralStaysWrong : ChangeSpec := { name := "integralStays", fn := fun _ => fun
  | [d1, d2, d3] => { results := [.lit (.bool false)], args := [d1, d2, d3] }
  | _ => none }
def IntegralStaysWrongFalsely : Prop := integralStaysRow.holds Tryd.pinned (OpenSpec.ofChange integralStaysWrong)

/- THE SECOND FORM. 'bulk': how many values and letters a reading holds, each counted each time it is reached (what is shared counts as often as it is met; a slice's spare places count too). A statement '..UptoSaid' is the law's where the arguments, and the package variables that the reading takes, are together of bulk at most 1048576: NARROWER than '..Said'. Prove '..Said' where nothing that the law and all that it calls make is longer than what came in: it says more and counts as full. Else prove '..UptoSaid'. A law counts once. -/
mutual
def uptoBulk {H : Type} : DataW H → Nat
  | .lit (.string bytes) => bytes.length + 1
  | .lit _ => 1
  | .nil => 1
  | .ptr d => uptoBulk d + 1
  | .slice elems spare => uptoBulkAll elems + uptoBulkAll spare + 1
  | .agg parts => uptoBulkAll parts + 1
  | .iface _ d => uptoBulk d + 1
  | .map entries => uptoBulkEntries entries + 1
  | .held _ => 1
def uptoBulkAll {H : Type} : List (DataW H) → Nat
  | [] => 0
  | d :: r => uptoBulk d + uptoBulkAll r
def uptoBulkEntries {H : Type} : List (Lit × DataW H) → Nat
  | [] => 0
  | x :: r => uptoBulkEntry x + uptoBulkEntries r
def uptoBulkEntry {H : Type} : Lit × DataW H → Nat
  | (.string bytes, d) => bytes.length + uptoBulk d + 1
  | (_, d) => uptoBulk d + 1
 end
def uptoSmall : (H : Type) → List (DataW H) → Bool := fun _ ds => decide (uptoBulkAll ds ≤ 1048576)
def OpenSpec.upto (s : _root_.Go.ChangeSpec) : _root_.Go.OpenSpec := { _root_.Go.OpenSpec.ofChange s with cond := some uptoSmall }

/-- 'radicandlaw26.SpecialRules', WHERE WHAT IT READS IS OF BULK AT MOST 1048576: true; the input reads as it did. -/
def specialRulesUptoRow : OpenClaim := { program := "ytghinobkekkopaadoor", sum := "3e508e7b2199250d8ba9fb706c56221010f97e030f32045f97b66bd98095a367", func := "radicand/radicandlaw26.SpecialRules", spec := "specialRules", inPlace := ["math/bits.Sub64", "math/bits.Add64"], unfollowed := true, recurses := true, named := ["radicand/format.known"], apart := false, laid := [("radicand/format.known", laid_radicand_format_known)], narrowed := true }
def SpecialRulesUptoSaid : Prop := specialRulesUptoRow.holds Tryd.pinned (OpenSpec.upto specialRulesSpec)

/-- 'radicandlaw26.SpecialSigns', WHERE WHAT IT READS IS OF BULK AT MOST 1048576: true; the input reads as it did. -/
def specialSignsUptoRow : OpenClaim := { program := "ytghinobkekkopaadoor", sum := "3e508e7b2199250d8ba9fb706c56221010f97e030f32045f97b66bd98095a367", func := "radicand/radicandlaw26.SpecialSigns", spec := "specialSigns", inPlace := ["math/bits.Sub64", "math/bits.Add64"], unfollowed := true, recurses := true, named := ["radicand/format.known"], apart := false, laid := [("radicand/format.known", laid_radicand_format_known)], narrowed := true }
def SpecialSignsUptoSaid : Prop := specialSignsUptoRow.holds Tryd.pinned (OpenSpec.upto specialSignsSpec)

/-- 'radicandlaw09.PackOwn', WHERE WHAT IT READS IS OF BULK AT MOST 1048576: true; the input reads as it did. -/
def packOwnUptoRow : OpenClaim := { program := "ytghinobkekkopaadoor", sum := "3e508e7b2199250d8ba9fb706c56221010f97e030f32045f97b66bd98095a367", func := "radicand/radicandlaw09.PackOwn", spec := "packOwn", inPlace := ["math/bits.Add64", "math/bits.Sub64"], unfollowed := true, recurses := true, named := ["radicand/format.known"], apart := false, laid := [("radicand/format.known", laid_radicand_format_known)], narrowed := true }
def PackOwnUptoSaid : Prop := packOwnUptoRow.holds Tryd.pinned (OpenSpec.upto packOwnSpec)

/-- 'radicandlaw09.PackOrder', WHERE WHAT IT READS IS OF BULK AT MOST 1048576: true; the input reads as it did. -/
def packOrderUptoRow : OpenClaim := { program := "ytghinobkekkopaadoor", sum := "3e508e7b2199250d8ba9fb706c56221010f97e030f32045f97b66bd98095a367", func := "radicand/radicandlaw09.PackOrder", spec := "packOrder", inPlace := ["math/bits.Add64", "math/bits.Sub64"], unfollowed := true, recurses := true, named := ["radicand/format.known"], apart := false, laid := [("radicand/format.known", laid_radicand_format_known)], narrowed := true }
def PackOrderUptoSaid : Prop := packOrderUptoRow.holds Tryd.pinned (OpenSpec.upto packOrderSpec)

/-- 'radicandlaw29.ConvertBack', WHERE WHAT IT READS IS OF BULK AT MOST 1048576: true; the input reads as it did. -/
def convertBackUptoRow : OpenClaim := { program := "ytghinobkekkopaadoor", sum := "3e508e7b2199250d8ba9fb706c56221010f97e030f32045f97b66bd98095a367", func := "radicand/radicandlaw29.ConvertBack", spec := "convertBack", inPlace := ["math/bits.Sub64", "math/bits.Add64"], unfollowed := true, recurses := true, named := ["radicand/format.known"], apart := false, laid := [("radicand/format.known", laid_radicand_format_known)], narrowed := true }
def ConvertBackUptoSaid : Prop := convertBackUptoRow.holds Tryd.pinned (OpenSpec.upto convertBackSpec)

/-- 'radicandlaw09.PackFlags', WHERE WHAT IT READS IS OF BULK AT MOST 1048576: true; the input reads as it did. -/
def packFlagsUptoRow : OpenClaim := { program := "ytghinobkekkopaadoor", sum := "3e508e7b2199250d8ba9fb706c56221010f97e030f32045f97b66bd98095a367", func := "radicand/radicandlaw09.PackFlags", spec := "packFlags", inPlace := ["math/bits.Add64", "math/bits.Sub64", "internal/abi.NoEscape", "internal/bytealg.IndexByteString", "internal/bytealg.IndexString"], unfollowed := true, recurses := true, named := ["radicand/format.known", "radicand/pack.letters", "internal/bytealg.MaxLen"], apart := false, laid := [("radicand/format.known", laid_radicand_format_known), ("radicand/pack.letters", laid_radicand_pack_letters)], narrowed := true }
def PackFlagsUptoSaid : Prop := packFlagsUptoRow.holds Tryd.pinned (OpenSpec.upto packFlagsSpec)

/-- 'radicandlaw32.IntegralStays', WHERE WHAT IT READS IS OF BULK AT MOST 1048576: true; the input reads as it did. -/
def integralStaysUptoRow : OpenClaim := { program := "ytghinobkekkopaadoor", sum := "3e508e7b2199250d8ba9fb706c56221010f97e030f32045f97b66bd98095a367", func := "radicand/radicandlaw32.IntegralStays", spec := "integralStays", inPlace := ["math/bits.Sub64", "math/bits.Add64"], unfollowed := true, recurses := true, named := ["radicand/format.known"], apart := false, laid := [("radicand/format.known", laid_radicand_format_known)], narrowed := true }
def IntegralStaysUptoSaid : Prop := integralStaysUptoRow.holds Tryd.pinned (OpenSpec.upto integralStaysSpec)

end Rows
end Go.Proofs.YtghinobkekkopaaDoor
