/-
  NARROWER THAN 'FOR EVERY INPUT', by the rows' own cells (each row's printed sentence says how): IntegralRounds: laid · IntegralSplits: laid · ConvertWords: laid · ConvertInts: laid · ConvertToInt: laid.
  DERIVED. THE GIVEN ROWS OF THIS SEAT. 5 by the template 'for every input the law returns true; each argument reads behind the call as it read before'; 0 by the template 'total and deterministic' (their statements: YtghinobkekkopaaGreatDoorTotals.lean).
  GIVEN WITH THE SEED: the statements are not yours to turn. If you find one false, say at which input.
  Laid BY PROGRAM, IN A SANDBOX (cutbox-rows.mjs): the forced cells as the released guide's own fill.sh prints them over the translation ff71dc3f2e783860… (all of the seat's roots in one cut). By AI agents, Wed Nov 11 2026. No macro, syntax, notation, axiom, sorry.
-/
import Derived.Test.YtghinobkekkopaaGreatDoorChecked
import GoSem.Claim
import GoSem.ClaimJoined
import GoSem.ClaimMapViews
import Derived.JoinedTies
import Derived.KernelRfl
namespace Go.Proofs.YtghinobkekkopaaGreatDoor
/- THE CELL 'sum', in the pinned program and in every row, IS THE sha256 OF THE DUMP (.gsa) THAT YtghinobkekkopaaGreatDoorProg.lean LOADS. Nothing in Lean hashes anything: it is a label: what it is worth is what the hold of that sum in a sandbox is worth. -/
noncomputable def Tryz.pinned : Pinned := { name := "ytghinobkekkopaagreatdoor", sum := "ff71dc3f2e783860bd2e1e9bb30cb7a016218338a8ca9d6c8adc88fcc775ccb3", checked := Tryz.checked }
namespace Rows
def none {H : Type} : Left H := { results := [], args := [] }

/- WHAT THE LISTED PACKAGE-LEVEL VARIABLES READ AS WHEN THE CALL BEGINS. Each datum BY PROGRAM (the guide's laid-datum.mjs) off the statement by which the dump's own 'gosem.cut.vars' lays the variable. In a bare row this is a premise. The card (YtghinobkekkopaaGreatDoorCards.lean) ties it to the program's text. -/
def laid_radicand_format_known {H : Type} : DataW H := .agg [.agg [.lit (.string []), .lit (.int .i64 0), .lit (.int .i64 0), .lit (.int .i64 0)], .agg [.lit (.string [98, 105, 110, 97, 114, 121, 49, 54]), .lit (.int .i64 16), .lit (.int .i64 11), .lit (.int .i64 5)], .agg [.lit (.string [98, 105, 110, 97, 114, 121, 51, 50]), .lit (.int .i64 32), .lit (.int .i64 24), .lit (.int .i64 8)], .agg [.lit (.string [98, 105, 110, 97, 114, 121, 54, 52]), .lit (.int .i64 64), .lit (.int .i64 53), .lit (.int .i64 11)], .agg [.lit (.string [98, 105, 110, 97, 114, 121, 49, 50, 56]), .lit (.int .i64 128), .lit (.int .i64 113), .lit (.int .i64 15)]]

/-- 'radicandlaw32.IntegralRounds': WHATEVER THE INPUT: true; the input reads as it did. -/
def integralRoundsSpec : ChangeSpec := { name := "integralRounds", fn := fun _ => fun
  | [d1, d2, d3] => { results := [.lit (.bool true)], args := [d1, d2, d3] }
  | _ => none }
def integralRoundsRow : OpenClaim := { program := "ytghinobkekkopaagreatdoor", sum := "ff71dc3f2e783860bd2e1e9bb30cb7a016218338a8ca9d6c8adc88fcc775ccb3", func := "radicand/radicandlaw32.IntegralRounds", spec := "integralRounds", inPlace := ["math/bits.Sub64", "math/bits.Add64"], unfollowed := true, recurses := true, named := ["radicand/format.known"], apart := false, laid := [("radicand/format.known", laid_radicand_format_known)] }
def IntegralRoundsSaid : Prop := integralRoundsRow.holds Tryz.pinned (OpenSpec.ofChange integralRoundsSpec)

/-- ITS FALSE NEIGHBOUR: 'it returns false'. Refute it at one input. -/
def integralRoundsWrong : ChangeSpec := { name := "integralRounds", fn := fun _ => fun
  | [d1, d2, d3] => { results := [.lit (.bool false)], args := [d1, d2, d3] }
  | _ => none }
def IntegralRoundsWrongFalsely : Prop := integralRoundsRow.holds Tryz.pinned (OpenSpec.ofChange integralRoundsWrong)

/-- 'radicandlaw32.IntegralSplits': WHATEVER THE INPUT: true; the input reads as it did. -/
def integralSplitsSpec : ChangeSpec := { name := "integralSplits", fn := fun _ => fun
  | [d1, d2] => { results := [.lit (.bool true)], args := [d1, d2] }
  | _ => none }
def integralSplitsRow : OpenClaim := { program := "ytghinobkekkopaagreatdoor", sum := "ff71dc3f2e783860bd2e1e9bb30cb7a016218338a8ca9d6c8adc88fcc775ccb3", func := "radicand/radicandlaw32.IntegralSplits", spec := "integralSplits", inPlace := ["math/bits.Sub64", "math/bits.Add64"], unfollowed := true, recurses := true, named := ["radicand/format.known"], apart := false, laid := [("radicand/format.known", laid_radicand_format_known)] }
def IntegralSplitsSaid : Prop := integralSplitsRow.holds Tryz.pinned (OpenSpec.ofChange integralSplitsSpec)

/-- ITS FALSE NEIGHBOUR: 'it returns false'. Refute it at one input. -/
def integralSplitsWrong : ChangeSpec := { name := "integralSplits", fn := fun _ => fun
  | [d1, d2] => { results := [.lit (.bool false)], args := [d1, d2] }
  | _ => none }
def IntegralSplitsWrongFalsely : Prop := integralSplitsRow.holds Tryz.pinned (OpenSpec.ofChange integralSplitsWrong)

/-- 'radicandlaw29.ConvertWords': WHATEVER THE INPUT: true; the input reads as it did. -/
def convertWordsSpec : ChangeSpec := { name := "convertWords", fn := fun _ => fun
  | [d1, d2, d3] => { results := [.lit (.bool true)], args := [d1, d2, d3] }
  | _ => none }
def convertWordsRow : OpenClaim := { program := "ytghinobkekkopaagreatdoor", sum := "ff71dc3f2e783860bd2e1e9bb30cb7a016218338a8ca9d6c8adc88fcc775ccb3", func := "radicand/radicandlaw29.ConvertWords", spec := "convertWords", inPlace := ["math/bits.Sub64", "math/bits.Add64"], unfollowed := true, recurses := true, named := ["radicand/format.known"], apart := false, laid := [("radicand/format.known", laid_radicand_format_known)] }
def ConvertWordsSaid : Prop := convertWordsRow.holds Tryz.pinned (OpenSpec.ofChange convertWordsSpec)

/-- ITS FALSE NEIGHBOUR: 'it returns false'. Refute it at one input. -/
def convertWordsWrong : ChangeSpec := { name := "convertWords", fn := fun _ => fun
  | [d1, d2, d3] => { results := [.lit (.bool false)], args := [d1, d2, d3] }
  | _ => none }
def ConvertWordsWrongFalsely : Prop := convertWordsRow.holds Tryz.pinned (OpenSpec.ofChange convertWordsWrong)

/-- 'radicandlaw29.ConvertInts': WHATEVER THE INPUT: true; the input reads as it did. -/
def convertIntsSpec : ChangeSpec := { name := "convertInts", fn := fun _ => fun
  | [d1, d2, d3] => { results := [.lit (.bool true)], args := [d1, d2, d3] }
  | _ => none }
def convertIntsRow : OpenClaim := { program := "ytghinobkekkopaagreatdoor", sum := "ff71dc3f2e783860bd2e1e9bb30cb7a016218338a8ca9d6c8adc88fcc775ccb3", func := "radicand/radicandlaw29.ConvertInts", spec := "convertInts", inPlace := ["math/bits.Add64", "math/bits.Sub64"], unfollowed := true, recurses := true, named := ["radicand/format.known"], apart := false, laid := [("radicand/format.known", laid_radicand_format_known)] }
def ConvertIntsSaid : Prop := convertIntsRow.holds Tryz.pinned (OpenSpec.ofChange convertIntsSpec)

/-- ITS FALSE NEIGHBOUR: 'it returns false'. Refute it at one input. -/
def convertIntsWrong : ChangeSpec := { name := "convertInts", fn := fun _ => fun
  | [d1, d2, d3] => { results := [.lit (.bool false)], args := [d1, d2, d3] }
  | _ => none }
def ConvertIntsWrongFalsely : Prop := convertIntsRow.holds Tryz.pinned (OpenSpec.ofChange convertIntsWrong)

/-- 'radicandlaw29.ConvertToInt': WHATEVER THE INPUT: true; the input reads as it did. -/
def convertToIntSpec : ChangeSpec := { name := "convertToInt", fn := fun _ => fun
  | [d1, d2, d3] => { results := [.lit (.bool true)], args := [d1, d2, d3] }
  | _ => none }
def convertToIntRow : OpenClaim := { program := "ytghinobkekkopaagreatdoor", sum := "ff71dc3f2e783860bd2e1e9bb30cb7a016218338a8ca9d6c8adc88fcc775ccb3", func := "radicand/radicandlaw29.ConvertToInt", spec := "convertToInt", inPlace := ["math/bits.Sub64", "math/bits.Add64"], unfollowed := true, recurses := true, named := ["radicand/format.known"], apart := false, laid := [("radicand/format.known", laid_radicand_format_known)] }
def ConvertToIntSaid : Prop := convertToIntRow.holds Tryz.pinned (OpenSpec.ofChange convertToIntSpec)

/-- ITS FALSE NEIGHBOUR: 'it returns false'. Refute it at one input. -/
def convertToIntWrong : ChangeSpec := { name := "convertToInt", fn := fun _ => fun
  | [d1, d2, d3] => { results := [.lit (.bool false)], args := [d1, d2, d3] }
  | _ => none }
def ConvertToIntWrongFalsely : Prop := convertToIntRow.holds Tryz.pinned (OpenSpec.ofChange convertToIntWrong)

/- THE SECOND FORM. 'bulk': how many values and letters a reading holds, each counted each time it is reached (what is shared counts as often as it is met; a slice's spare places count too). A statement '..UptoSaid' is the law's where the arguments, and the package variables that the reading takes, are together of bulk at most 1048576: NARROWER than '..Said'. Prove '..Said' where nothing that the law and all that it calls make is longer than what came in: it says more and counts as full. Else prove '..UptoSaid'. A law counts once. -/
mutual
def uptoBulk {H : Type} : DataW H → Nat
  | .lit (.string bytes) => bytes.length + 1
  | .lit _ => 1
  | .nil => 1
  | .ptr d => uptoBulk d + 1
  | .slice elems spare => uptoBulkAll elems + uptoBulkAll spare + 1
  | .agg parts => uptoBulkAll parts + 1
  | .iface _ d => uptoBulk d + 1
  | .map entries => uptoBulkEntries entries + 1
  | .held _ => 1
def uptoBulkAll {H : Type} : List (DataW H) → Nat
  | [] => 0
  | d :: r => uptoBulk d + uptoBulkAll r
def uptoBulkEntries {H : Type} : List (Lit × DataW H) → Nat
  | [] => 0
  | x :: r => uptoBulkEntry x + uptoBulkEntries r
def uptoBulkEntry {H : Type} : Lit × DataW H → Nat
  | (.string bytes, d) => bytes.length + uptoBulk d + 1
  | (_, d) => uptoBulk d + 1
 end
def uptoSmall : (H : Type) → List (DataW H) → Bool := fun _ ds => decide (uptoBulkAll ds ≤ 1048576)
def OpenSpec.upto (s : _root_.Go.ChangeSpec) : _root_.Go.OpenSpec := { _root_.Go.OpenSpec.ofChange s with cond := some uptoSmall }

/-- 'radicandlaw32.IntegralRounds', WHERE WHAT IT READS IS OF BULK AT MOST 1048576: true; the input reads as it did. -/
def integralRoundsUptoRow : OpenClaim := { program := "ytghinobkekkopaagreatdoor", sum := "ff71dc3f2e783860bd2e1e9bb30cb7a016218338a8ca9d6c8adc88fcc775ccb3", func := "radicand/radicandlaw32.IntegralRounds", spec := "integralRounds", inPlace := ["math/bits.Sub64", "math/bits.Add64"], unfollowed := true, recurses := true, named := ["radicand/format.known"], apart := false, laid := [("radicand/format.known", laid_radicand_format_known)], narrowed := true }
def IntegralRoundsUptoSaid : Prop := integralRoundsUptoRow.holds Tryz.pinned (OpenSpec.upto integralRoundsSpec)

/-- 'radicandlaw32.IntegralSplits', WHERE WHAT IT READS IS OF BULK AT MOST 1048576: true; the input reads as it did. -/
def integralSplitsUptoRow : OpenClaim := { program := "ytghinobkekkopaagreatdoor", sum := "ff71dc3f2e783860bd2e1e9bb30cb7a016218338a8ca9d6c8adc88fcc775ccb3", func := "radicand/radicandlaw32.IntegralSplits", spec := "integralSplits", inPlace := ["math/bits.Sub64", "math/bits.Add64"], unfollowed := true, recurses := true, named := ["radicand/format.known"], apart := false, laid := [("radicand/format.known", laid_radicand_format_known)], narrowed := true }
def IntegralSplitsUptoSaid : Prop := integralSplitsUptoRow.holds Tryz.pinned (OpenSpec.upto integralSplitsSpec)

/-- 'radicandlaw29.ConvertWords', WHERE WHAT IT READS IS OF BULK AT MOST 1048576: true; the input reads as it did. -/
def convertWordsUptoRow : OpenClaim := { program := "ytghinobkekkopaagreatdoor", sum := "ff71dc3f2e783860bd2e1e9bb30cb7a016218338a8ca9d6c8adc88fcc775ccb3", func := "radicand/radicandlaw29.ConvertWords", spec := "convertWords", inPlace := ["math/bits.Sub64", "math/bits.Add64"], unfollowed := true, recurses := true, named := ["radicand/format.known"], apart := false, laid := [("radicand/format.known", laid_radicand_format_known)], narrowed := true }
def ConvertWordsUptoSaid : Prop := convertWordsUptoRow.holds Tryz.pinned (OpenSpec.upto convertWordsSpec)

/-- 'radicandlaw29.ConvertInts', WHERE WHAT IT READS IS OF BULK AT MOST 1048576: true; the input reads as it did. -/
def convertIntsUptoRow : OpenClaim := { program := "ytghinobkekkopaagreatdoor", sum := "ff71dc3f2e783860bd2e1e9bb30cb7a016218338a8ca9d6c8adc88fcc775ccb3", func := "radicand/radicandlaw29.ConvertInts", spec := "convertInts", inPlace := ["math/bits.Add64", "math/bits.Sub64"], unfollowed := true, recurses := true, named := ["radicand/format.known"], apart := false, laid := [("radicand/format.known", laid_radicand_format_known)], narrowed := true }
def ConvertIntsUptoSaid : Prop := convertIntsUptoRow.holds Tryz.pinned (OpenSpec.upto convertIntsSpec)

/-- 'radicandlaw29.ConvertToInt', WHERE WHAT IT READS IS OF BULK AT MOST 1048576: true; the input reads as it did. -/
def convertToIntUptoRow : OpenClaim := { program := "ytghinobkekkopaagreatdoor", sum := "ff71dc3f2e783860bd2e1e9bb30cb7a016218338a8ca9d6c8adc88fcc775ccb3", func := "radicand/radicandlaw29.ConvertToInt", spec := "convertToInt", inPlace := ["math/bits.Sub64", "math/bits.Add64"], unfollowed := true, recurses := true, named := ["radicand/format.known"], apart := false, laid := [("radicand/format.known", laid_radicand_format_known)], narrowed := true }
def ConvertToIntUptoSaid : Prop := convertToIntUptoRow.holds Tryz.pinned (OpenSpec.upto convertToIntSpec)

end Rows
end Go.Proofs.YtghinobkekkopaaGreatDoor
