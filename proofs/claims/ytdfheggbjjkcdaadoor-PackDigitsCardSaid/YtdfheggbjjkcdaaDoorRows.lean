/-
  NARROWER THAN 'FOR EVERY INPUT', by the rows' own cells (each row's printed sentence says how): UnpackValues: laid · UnpackExact: laid · OrderSteps: laid · UnpackOrder: laid · OrderPlaces: laid · UnpackCmp: laid · OrderWalks: laid · PackDigits: laid · OrderCompares: laid · SpecialDivs: laid · SpecialRoots: laid.
  DERIVED. THE GIVEN ROWS OF THIS SEAT. 11 by the template 'for every input the law returns true; each argument reads behind the call as it read before'; 0 by the template 'total and deterministic' (their statements: YtdfheggbjjkcdaaDoorTotals.lean).
  GIVEN WITH THE SEED: the statements are not yours to turn. If you find one false, say at which input.
  Laid BY PROGRAM, IN A SANDBOX (cutbox-rows.mjs): the forced cells as the released guide's own fill.sh prints them over the translation ed54b29584804faa… (all of the seat's roots in one cut). By AI agents, Wed Nov 11 2026. No macro, syntax, notation, axiom, sorry.
-/
import Derived.Test.YtdfheggbjjkcdaaDoorChecked
import GoSem.Claim
import GoSem.ClaimJoined
import GoSem.ClaimMapViews
import Derived.JoinedTies
import Derived.KernelRfl
namespace Go.Proofs.YtdfheggbjjkcdaaDoor
/- THE CELL 'sum', in the pinned program and in every row, IS THE sha256 OF THE DUMP (.gsa) THAT YtdfheggbjjkcdaaDoorProg.lean LOADS. Nothing in Lean hashes anything: it is a label: what it is worth is what the hold of that sum in a sandbox is worth. -/
noncomputable def Tryd.pinned : Pinned := { name := "ytdfheggbjjkcdaadoor", sum := "ed54b29584804faa2102c30f352457a6acb4ab225f92341025a0a13385a0550d", checked := Tryd.checked }
namespace Rows
def none {H : Type} : Left H := { results := [], args := [] }

/- WHAT THE LISTED PACKAGE-LEVEL VARIABLES READ AS WHEN THE CALL BEGINS. Each datum BY PROGRAM (the guide's laid-datum.mjs) off the statement by which the dump's own 'gosem.cut.vars' lays the variable. In a bare row this is a premise. The card (YtdfheggbjjkcdaaDoorCards.lean) ties it to the program's text. -/
def laid_radicand_format_known {H : Type} : DataW H := .agg [.agg [.lit (.string []), .lit (.int .i64 0), .lit (.int .i64 0), .lit (.int .i64 0)], .agg [.lit (.string [98, 105, 110, 97, 114, 121, 49, 54]), .lit (.int .i64 16), .lit (.int .i64 11), .lit (.int .i64 5)], .agg [.lit (.string [98, 105, 110, 97, 114, 121, 51, 50]), .lit (.int .i64 32), .lit (.int .i64 24), .lit (.int .i64 8)], .agg [.lit (.string [98, 105, 110, 97, 114, 121, 54, 52]), .lit (.int .i64 64), .lit (.int .i64 53), .lit (.int .i64 11)], .agg [.lit (.string [98, 105, 110, 97, 114, 121, 49, 50, 56]), .lit (.int .i64 128), .lit (.int .i64 113), .lit (.int .i64 15)]]

/-- 'radicandlaw07.UnpackValues': WHATEVER THE INPUT: true; the input reads as it did. -/
def unpackValuesSpec : ChangeSpec := { name := "unpackValues", fn := fun _ => fun
  | [d1, d2] => { results := [.lit (.bool true)], args := [d1, d2] }
  | _ => none }
def unpackValuesRow : OpenClaim := { program := "ytdfheggbjjkcdaadoor", sum := "ed54b29584804faa2102c30f352457a6acb4ab225f92341025a0a13385a0550d", func := "radicand/radicandlaw07.UnpackValues", spec := "unpackValues", inPlace := ["math/bits.Sub64", "math/bits.Add64"], unfollowed := true, recurses := true, named := ["radicand/format.known"], apart := false, laid := [("radicand/format.known", laid_radicand_format_known)] }
def UnpackValuesSaid : Prop := unpackValuesRow.holds Tryd.pinned (OpenSpec.ofChange unpackValuesSpec)

/-- ITS FALSE NEIGHBOUR: 'it returns false'. Refute it at one input. -/
def unpackValuesWrong : ChangeSpec := { name := "unpackValues", fn := fun _ => fun
  | [d1, d2] => { results := [.lit (.bool false)], args := [d1, d2] }
  | _ => none }
def UnpackValuesWrongFalsely : Prop := unpackValuesRow.holds Tryd.pinned (OpenSpec.ofChange unpackValuesWrong)

/-- 'radicandlaw07.UnpackExact': WHATEVER THE INPUT: true; the input reads as it did. -/
def unpackExactSpec : ChangeSpec := { name := "unpackExact", fn := fun _ => fun
  | [d1, d2] => { results := [.lit (.bool true)], args := [d1, d2] }
  | _ => none }
def unpackExactRow : OpenClaim := { program := "ytdfheggbjjkcdaadoor", sum := "ed54b29584804faa2102c30f352457a6acb4ab225f92341025a0a13385a0550d", func := "radicand/radicandlaw07.UnpackExact", spec := "unpackExact", inPlace := ["math/bits.Add64", "math/bits.Sub64"], unfollowed := true, recurses := true, named := ["radicand/format.known"], apart := false, laid := [("radicand/format.known", laid_radicand_format_known)] }
def UnpackExactSaid : Prop := unpackExactRow.holds Tryd.pinned (OpenSpec.ofChange unpackExactSpec)

/-- ITS FALSE NEIGHBOUR: 'it returns false'. Refute it at one input. -/
def unpackExactWrong : ChangeSpec := { name := "unpackExact", fn := fun _ => fun
  | [d1, d2] => { results := [.lit (.bool false)], args := [d1, d2] }
  | _ => none }
def UnpackExactWrongFalsely : Prop := unpackExactRow.holds Tryd.pinned (OpenSpec.ofChange unpackExactWrong)

/-- 'radicandlaw28.OrderSteps': WHATEVER THE INPUT: true; the input reads as it did. -/
def orderStepsSpec : ChangeSpec := { name := "orderSteps", fn := fun _ => fun
  | [d1, d2, d3] => { results := [.lit (.bool true)], args := [d1, d2, d3] }
  | _ => none }
def orderStepsRow : OpenClaim := { program := "ytdfheggbjjkcdaadoor", sum := "ed54b29584804faa2102c30f352457a6acb4ab225f92341025a0a13385a0550d", func := "radicand/radicandlaw28.OrderSteps", spec := "orderSteps", inPlace := ["math/bits.Sub64", "math/bits.Add64"], unfollowed := true, recurses := true, named := ["radicand/format.known"], apart := false, laid := [("radicand/format.known", laid_radicand_format_known)] }
def OrderStepsSaid : Prop := orderStepsRow.holds Tryd.pinned (OpenSpec.ofChange orderStepsSpec)

/-- ITS FALSE NEIGHBOUR: 'it returns false'. Refute it at one input. -/
def orderStepsWrong : ChangeSpec := { name := "orderSteps", fn := fun _ => fun
  | [d1, d2, d3] => { results := [.lit (.bool false)], args := [d1, d2, d3] }
  | _ => none }
def OrderStepsWrongFalsely : Prop := orderStepsRow.holds Tryd.pinned (OpenSpec.ofChange orderStepsWrong)

/-- 'radicandlaw07.UnpackOrder': WHATEVER THE INPUT: true; the input reads as it did. -/
def unpackOrderSpec : ChangeSpec := { name := "unpackOrder", fn := fun _ => fun
  | [d1, d2, d3] => { results := [.lit (.bool true)], args := [d1, d2, d3] }
  | _ => none }
def unpackOrderRow : OpenClaim := { program := "ytdfheggbjjkcdaadoor", sum := "ed54b29584804faa2102c30f352457a6acb4ab225f92341025a0a13385a0550d", func := "radicand/radicandlaw07.UnpackOrder", spec := "unpackOrder", inPlace := ["math/bits.Sub64", "math/bits.Add64"], unfollowed := true, recurses := true, named := ["radicand/format.known"], apart := false, laid := [("radicand/format.known", laid_radicand_format_known)] }
def UnpackOrderSaid : Prop := unpackOrderRow.holds Tryd.pinned (OpenSpec.ofChange unpackOrderSpec)

/-- ITS FALSE NEIGHBOUR: 'it returns false'. Refute it at one input. -/
def unpackOrderWrong : ChangeSpec := { name := "unpackOrder", fn := fun _ => fun
  | [d1, d2, d3] => { results := [.lit (.bool false)], args := [d1, d2, d3] }
  | _ => none }
def UnpackOrderWrongFalsely : Prop := unpackOrderRow.holds Tryd.pinned (OpenSpec.ofChange unpackOrderWrong)

/-- 'radicandlaw28.OrderPlaces': WHATEVER THE INPUT: true; the input reads as it did. -/
def orderPlacesSpec : ChangeSpec := { name := "orderPlaces", fn := fun _ => fun
  | [d1, d2, d3] => { results := [.lit (.bool true)], args := [d1, d2, d3] }
  | _ => none }
def orderPlacesRow : OpenClaim := { program := "ytdfheggbjjkcdaadoor", sum := "ed54b29584804faa2102c30f352457a6acb4ab225f92341025a0a13385a0550d", func := "radicand/radicandlaw28.OrderPlaces", spec := "orderPlaces", inPlace := ["math/bits.Add64", "math/bits.Sub64"], unfollowed := true, recurses := true, named := ["radicand/format.known"], apart := false, laid := [("radicand/format.known", laid_radicand_format_known)] }
def OrderPlacesSaid : Prop := orderPlacesRow.holds Tryd.pinned (OpenSpec.ofChange orderPlacesSpec)

/-- ITS FALSE NEIGHBOUR: 'it returns false'. Refute it at one input. -/
def orderPlacesWrong : ChangeSpec := { name := "orderPlaces", fn := fun _ => fun
  | [d1, d2, d3] => { results := [.lit (.bool false)], args := [d1, d2, d3] }
  | _ => none }
def OrderPlacesWrongFalsely : Prop := orderPlacesRow.holds Tryd.pinned (OpenSpec.ofChange orderPlacesWrong)

/-- 'radicandlaw07.UnpackCmp': WHATEVER THE INPUT: true; the input reads as it did. -/
def unpackCmpSpec : ChangeSpec := { name := "unpackCmp", fn := fun _ => fun
  | [d1, d2] => { results := [.lit (.bool true)], args := [d1, d2] }
  | _ => none }
def unpackCmpRow : OpenClaim := { program := "ytdfheggbjjkcdaadoor", sum := "ed54b29584804faa2102c30f352457a6acb4ab225f92341025a0a13385a0550d", func := "radicand/radicandlaw07.UnpackCmp", spec := "unpackCmp", inPlace := ["math/bits.Sub64", "math/bits.Add64"], unfollowed := true, recurses := true, named := ["radicand/format.known"], apart := false, laid := [("radicand/format.known", laid_radicand_format_known)] }
def UnpackCmpSaid : Prop := unpackCmpRow.holds Tryd.pinned (OpenSpec.ofChange unpackCmpSpec)

/-- ITS FALSE NEIGHBOUR: 'it returns false'. Refute it at one input. -/
def unpackCmpWrong : ChangeSpec := { name := "unpackCmp", fn := fun _ => fun
  | [d1, d2] => { results := [.lit (.bool false)], args := [d1, d2] }
  | _ => none }
def UnpackCmpWrongFalsely : Prop := unpackCmpRow.holds Tryd.pinned (OpenSpec.ofChange unpackCmpWrong)

/-- 'radicandlaw28.OrderWalks': WHATEVER THE INPUT: true; the input reads as it did. -/
def orderWalksSpec : ChangeSpec := { name := "orderWalks", fn := fun _ => fun
  | [d1, d2, d3] => { results := [.lit (.bool true)], args := [d1, d2, d3] }
  | _ => none }
def orderWalksRow : OpenClaim := { program := "ytdfheggbjjkcdaadoor", sum := "ed54b29584804faa2102c30f352457a6acb4ab225f92341025a0a13385a0550d", func := "radicand/radicandlaw28.OrderWalks", spec := "orderWalks", inPlace := ["math/bits.Sub64", "math/bits.Add64"], unfollowed := true, recurses := true, named := ["radicand/format.known"], apart := false, laid := [("radicand/format.known", laid_radicand_format_known)] }
def OrderWalksSaid : Prop := orderWalksRow.holds Tryd.pinned (OpenSpec.ofChange orderWalksSpec)

/-- ITS FALSE NEIGHBOUR: 'it returns false'. Refute it at one input. -/
def orderWalksWrong : ChangeSpec := { name := "orderWalks", fn := fun _ => fun
  | [d1, d2, d3] => { results := [.lit (.bool false)], args := [d1, d2, d3] }
  | _ => none }
def OrderWalksWrongFalsely : Prop := orderWalksRow.holds Tryd.pinned (OpenSpec.ofChange orderWalksWrong)

/-- 'radicandlaw09.PackDigits': WHATEVER THE INPUT: true; the input reads as it did. -/
def packDigitsSpec : ChangeSpec := { name := "packDigits", fn := fun _ => fun
  | [d1, d2, d3] => { results := [.lit (.bool true)], args := [d1, d2, d3] }
  | _ => none }
def packDigitsRow : OpenClaim := { program := "ytdfheggbjjkcdaadoor", sum := "ed54b29584804faa2102c30f352457a6acb4ab225f92341025a0a13385a0550d", func := "radicand/radicandlaw09.PackDigits", spec := "packDigits", inPlace := ["math/bits.Sub64", "math/bits.Add64"], unfollowed := true, recurses := true, named := ["radicand/format.known"], apart := false, laid := [("radicand/format.known", laid_radicand_format_known)] }
def PackDigitsSaid : Prop := packDigitsRow.holds Tryd.pinned (OpenSpec.ofChange packDigitsSpec)

/-- ITS FALSE NEIGHBOUR: 'it returns false'. Refute it at one input. -/
def packDigitsWrong : ChangeSpec := { name := "packDigits", fn := fun _ => fun
  | [d1, d2, d3] => { results := [.lit (.bool false)], args := [d1, d2, d3] }
  | _ => none }
def PackDigitsWrongFalsely : Prop := packDigitsRow.holds Tryd.pinned (OpenSpec.ofChange packDigitsWrong)

/-- 'radicandlaw28.OrderCompares': WHATEVER THE INPUT: true; the input reads as it did. -/
def orderComparesSpec : ChangeSpec := { name := "orderCompares", fn := fun _ => fun
  | [d1, d2, d3] => { results := [.lit (.bool true)], args := [d1, d2, d3] }
  | _ => none }
def orderComparesRow : OpenClaim := { program := "ytdfheggbjjkcdaadoor", sum := "ed54b29584804faa2102c30f352457a6acb4ab225f92341025a0a13385a0550d", func := "radicand/radicandlaw28.OrderCompares", spec := "orderCompares", inPlace := ["math/bits.Sub64", "math/bits.Add64"], unfollowed := true, recurses := true, named := ["radicand/format.known"], apart := false, laid := [("radicand/format.known", laid_radicand_format_known)] }
def OrderComparesSaid : Prop := orderComparesRow.holds Tryd.pinned (OpenSpec.ofChange orderComparesSpec)

/-- ITS FALSE NEIGHBOUR: 'it returns false'. Refute it at one input. -/
def orderComparesWrong : ChangeSpec := { name := "orderCompares", fn := fun _ => fun
  | [d1, d2, d3] => { results := [.lit (.bool false)], args := [d1, d2, d3] }
  | _ => none }
def OrderComparesWrongFalsely : Prop := orderComparesRow.holds Tryd.pinned (OpenSpec.ofChange orderComparesWrong)

/-- 'radicandlaw26.SpecialDivs': WHATEVER THE INPUT: true; the input reads as it did. -/
def specialDivsSpec : ChangeSpec := { name := "specialDivs", fn := fun _ => fun
  | [d1, d2, d3] => { results := [.lit (.bool true)], args := [d1, d2, d3] }
  | _ => none }
def specialDivsRow : OpenClaim := { program := "ytdfheggbjjkcdaadoor", sum := "ed54b29584804faa2102c30f352457a6acb4ab225f92341025a0a13385a0550d", func := "radicand/radicandlaw26.SpecialDivs", spec := "specialDivs", inPlace := ["math/bits.Sub64", "math/bits.Add64"], unfollowed := true, recurses := true, named := ["radicand/format.known"], apart := false, laid := [("radicand/format.known", laid_radicand_format_known)] }
def SpecialDivsSaid : Prop := specialDivsRow.holds Tryd.pinned (OpenSpec.ofChange specialDivsSpec)

/-- ITS FALSE NEIGHBOUR: 'it returns false'. Refute it at one input. -/
def specialDivsWrong : ChangeSpec := { name := "specialDivs", fn := fun _ => fun
  | [d1, d2, d3] => { results := [.lit (.bool false)], args := [d1, d2, d3] }
  | _ => none }
def SpecialDivsWrongFalsely : Prop := specialDivsRow.holds Tryd.pinned (OpenSpec.ofChange specialDivsWrong)

/-- 'radicandlaw26.SpecialRoots': WHATEVER THE INPUT: true; the input reads as it did. -/
def specialRootsSpec : ChangeSpec := { name := "specialRoots", fn := fun _ => fun
  | [d1, d2] => { results := [.lit (.bool true)], args := [d1, d2] }
  | _ => none }
def specialRootsRow : OpenClaim := { program := "ytdfheggbjjkcdaadoor", sum := "ed54b29584804faa2102c30f352457a6acb4ab225f92341025a0a13385a0550d", func := "radicand/radicandlaw26.SpecialRoots", spec := "specialRoots", inPlace := ["math/bits.Sub64", "math/bits.Add64"], unfollowed := true, recurses := true, named := ["radicand/format.known"], apart := false, laid := [("radicand/format.known", laid_radicand_format_known)] }
def SpecialRootsSaid : Prop := specialRootsRow.holds Tryd.pinned (OpenSpec.ofChange specialRootsSpec)

/-- ITS FALSE NEIGHBOUR: 'it returns false'. Refute it at one input. -/
def specialRootsWrong : ChangeSpec := { name := "specialRoots", fn := fun _ => fun
  | [d1, d2] => { results := [.lit (.bool false)], args := [d1, d2] }
  | _ => none }
def SpecialRootsWrongFalsely : Prop := specialRootsRow.holds Tryd.pinned (OpenSpec.ofChange specialRootsWrong)

/- THE SECOND FORM. 'bulk': how many values and letters a reading holds, each counted each time it is reached (what is shared counts as often as it is met; a slice's spare places count too). A statement '..UptoSaid' is the law's where the arguments, and the package variables that the reading takes, are together of bulk at most 1048576: NARROWER than '..Said'. Prove '..Said' where nothing that the law and all that it calls make is longer than what came in: it says more and counts as full. Else prove '..UptoSaid'. A law counts once. -/
mutual
def uptoBulk {H : Type} : DataW H → Nat
  | .lit (.string bytes) => bytes.length + 1
  | .lit _ => 1
  | .nil => 1
  | .ptr d => uptoBulk d + 1
  | .slice elems spare => uptoBulkAll elems + uptoBulkAll spare + 1
  | .agg parts => uptoBulkAll parts + 1
  | .iface _ d => uptoBulk d + 1
  | .map entries => uptoBulkEntries entries + 1
  | .held _ => 1
def uptoBulkAll {H : Type} : List (DataW H) → Nat
  | [] => 0
  | d :: r => uptoBulk d + uptoBulkAll r
def uptoBulkEntries {H : Type} : List (Lit × DataW H) → Nat
  | [] => 0
  | x :: r => uptoBulkEntry x + uptoBulkEntries r
def uptoBulkEntry {H : Type} : Lit × DataW H → Nat
  | (.string bytes, d) => bytes.length + uptoBulk d + 1
  | (_, d) => uptoBulk d + 1
 end
def uptoSmall : (H : Type) → List (DataW H) → Bool := fun _ ds => decide (uptoBulkAll ds ≤ 1048576)
def OpenSpec.upto (s : _root_.Go.ChangeSpec) : _root_.Go.OpenSpec := { _root_.Go.OpenSpec.ofChange s with cond := some uptoSmall }

/-- 'radicandlaw07.UnpackValues', WHERE WHAT IT READS IS OF BULK AT MOST 1048576: true; the input reads as it did. -/
def unpackValuesUptoRow : OpenClaim := { program := "ytdfheggbjjkcdaadoor", sum := "ed54b29584804faa2102c30f352457a6acb4ab225f92341025a0a13385a0550d", func := "radicand/radicandlaw07.UnpackValues", spec := "unpackValues", inPlace := ["math/bits.Sub64", "math/bits.Add64"], unfollowed := true, recurses := true, named := ["radicand/format.known"], apart := false, laid := [("radicand/format.known", laid_radicand_format_known)], narrowed := true }
def UnpackValuesUptoSaid : Prop := unpackValuesUptoRow.holds Tryd.pinned (OpenSpec.upto unpackValuesSpec)

/-- 'radicandlaw07.UnpackExact', WHERE WHAT IT READS IS OF BULK AT MOST 1048576: true; the input reads as it did. -/
def unpackExactUptoRow : OpenClaim := { program := "ytdfheggbjjkcdaadoor", sum := "ed54b29584804faa2102c30f352457a6acb4ab225f92341025a0a13385a0550d", func := "radicand/radicandlaw07.UnpackExact", spec := "unpackExact", inPlace := ["math/bits.Add64", "math/bits.Sub64"], unfollowed := true, recurses := true, named := ["radicand/format.known"], apart := false, laid := [("radicand/format.known", laid_radicand_format_known)], narrowed := true }
def UnpackExactUptoSaid : Prop := unpackExactUptoRow.holds Tryd.pinned (OpenSpec.upto unpackExactSpec)

/-- 'radicandlaw28.OrderSteps', WHERE WHAT IT READS IS OF BULK AT MOST 1048576: true; the input reads as it did. -/
def orderStepsUptoRow : OpenClaim := { program := "ytdfheggbjjkcdaadoor", sum := "ed54b29584804faa2102c30f352457a6acb4ab225f92341025a0a13385a0550d", func := "radicand/radicandlaw28.OrderSteps", spec := "orderSteps", inPlace := ["math/bits.Sub64", "math/bits.Add64"], unfollowed := true, recurses := true, named := ["radicand/format.known"], apart := false, laid := [("radicand/format.known", laid_radicand_format_known)], narrowed := true }
def OrderStepsUptoSaid : Prop := orderStepsUptoRow.holds Tryd.pinned (OpenSpec.upto orderStepsSpec)

/-- 'radicandlaw07.UnpackOrder', WHERE WHAT IT READS IS OF BULK AT MOST 1048576: true; the input reads as it did. -/
def unpackOrderUptoRow : OpenClaim := { program := "ytdfheggbjjkcdaadoor", sum := "ed54b29584804faa2102c30f352457a6acb4ab225f92341025a0a13385a0550d", func := "radicand/radicandlaw07.UnpackOrder", spec := "unpackOrder", inPlace := ["math/bits.Sub64", "math/bits.Add64"], unfollowed := true, recurses := true, named := ["radicand/format.known"], apart := false, laid := [("radicand/format.known", laid_radicand_format_known)], narrowed := true }
def UnpackOrderUptoSaid : Prop := unpackOrderUptoRow.holds Tryd.pinned (OpenSpec.upto unpackOrderSpec)

/-- 'radicandlaw28.OrderPlaces', WHERE WHAT IT READS IS OF BULK AT MOST 1048576: true; the input reads as it did. -/
def orderPlacesUptoRow : OpenClaim := { program := "ytdfheggbjjkcdaadoor", sum := "ed54b29584804faa2102c30f352457a6acb4ab225f92341025a0a13385a0550d", func := "radicand/radicandlaw28.OrderPlaces", spec := "orderPlaces", inPlace := ["math/bits.Add64", "math/bits.Sub64"], unfollowed := true, recurses := true, named := ["radicand/format.known"], apart := false, laid := [("radicand/format.known", laid_radicand_format_known)], narrowed := true }
def OrderPlacesUptoSaid : Prop := orderPlacesUptoRow.holds Tryd.pinned (OpenSpec.upto orderPlacesSpec)

/-- 'radicandlaw07.UnpackCmp', WHERE WHAT IT READS IS OF BULK AT MOST 1048576: true; the input reads as it did. -/
def unpackCmpUptoRow : OpenClaim := { program := "ytdfheggbjjkcdaadoor", sum := "ed54b29584804faa2102c30f352457a6acb4ab225f92341025a0a13385a0550d", func := "radicand/radicandlaw07.UnpackCmp", spec := "unpackCmp", inPlace := ["math/bits.Sub64", "math/bits.Add64"], unfollowed := true, recurses := true, named := ["radicand/format.known"], apart := false, laid := [("radicand/format.known", laid_radicand_format_known)], narrowed := true }
def UnpackCmpUptoSaid : Prop := unpackCmpUptoRow.holds Tryd.pinned (OpenSpec.upto unpackCmpSpec)

/-- 'radicandlaw28.OrderWalks', WHERE WHAT IT READS IS OF BULK AT MOST 1048576: true; the input reads as it did. -/
def orderWalksUptoRow : OpenClaim := { program := "ytdfheggbjjkcdaadoor", sum := "ed54b29584804faa2102c30f352457a6acb4ab225f92341025a0a13385a0550d", func := "radicand/radicandlaw28.OrderWalks", spec := "orderWalks", inPlace := ["math/bits.Sub64", "math/bits.Add64"], unfollowed := true, recurses := true, named := ["radicand/format.known"], apart := false, laid := [("radicand/format.known", laid_radicand_format_known)], narrowed := true }
def OrderWalksUptoSaid : Prop := orderWalksUptoRow.holds Tryd.pinned (OpenSpec.upto orderWalksSpec)

/-- 'radicandlaw09.PackDigits', WHERE WHAT IT READS IS OF BULK AT MOST 1048576: true; the input reads as it did. -/
def packDigitsUptoRow : OpenClaim := { program := "ytdfheggbjjkcdaadoor", sum := "ed54b29584804faa2102c30f352457a6acb4ab225f92341025a0a13385a0550d", func := "radicand/radicandlaw09.PackDigits", spec := "packDigits", inPlace := ["math/bits.Sub64", "math/bits.Add64"], unfollowed := true, recurses := true, named := ["radicand/format.known"], apart := false, laid := [("radicand/format.known", laid_radicand_format_known)], narrowed := true }
def PackDigitsUptoSaid : Prop := packDigitsUptoRow.holds Tryd.pinned (OpenSpec.upto packDigitsSpec)

/-- 'radicandlaw28.OrderCompares', WHERE WHAT IT READS IS OF BULK AT MOST 1048576: true; the input reads as it did. -/
def orderComparesUptoRow : OpenClaim := { program := "ytdfheggbjjkcdaadoor", sum := "ed54b29584804faa2102c30f352457a6acb4ab225f92341025a0a13385a0550d", func := "radicand/radicandlaw28.OrderCompares", spec := "orderCompares", inPlace := ["math/bits.Sub64", "math/bits.Add64"], unfollowed := true, recurses := true, named := ["radicand/format.known"], apart := false, laid := [("radicand/format.known", laid_radicand_format_known)], narrowed := true }
def OrderComparesUptoSaid : Prop := orderComparesUptoRow.holds Tryd.pinned (OpenSpec.upto orderComparesSpec)

/-- 'radicandlaw26.SpecialDivs', WHERE WHAT IT READS IS OF BULK AT MOST 1048576: true; the input reads as it did. -/
def specialDivsUptoRow : OpenClaim := { program := "ytdfheggbjjkcdaadoor", sum := "ed54b29584804faa2102c30f352457a6acb4ab225f92341025a0a13385a0550d", func := "radicand/radicandlaw26.SpecialDivs", spec := "specialDivs", inPlace := ["math/bits.Sub64", "math/bits.Add64"], unfollowed := true, recurses := true, named := ["radicand/format.known"], apart := false, laid := [("radicand/format.known", laid_radicand_format_known)], narrowed := true }
def SpecialDivsUptoSaid : Prop := specialDivsUptoRow.holds Tryd.pinned (OpenSpec.upto specialDivsSpec)

/-- 'radicandlaw26.SpecialRoots', WHERE WHAT IT READS IS OF BULK AT MOST 1048576: true; the input reads as it did. -/
def specialRootsUptoRow : OpenClaim := { program := "ytdfheggbjjkcdaadoor", sum := "ed54b29584804faa2102c30f352457a6acb4ab225f92341025a0a13385a0550d", func := "radicand/radicandlaw26.SpecialRoots", spec := "specialRoots", inPlace := ["math/bits.Sub64", "math/bits.Add64"], unfollowed := true, recurses := true, named := ["radicand/format.known"], apart := false, laid := [("radicand/format.known", laid_radicand_format_known)], narrowed := true }
def SpecialRootsUptoSaid : Prop := specialRootsUptoRow.holds Tryd.pinned (OpenSpec.upto specialRootsSpec)

end Rows
end Go.Proofs.YtdfheggbjjkcdaaDoor
