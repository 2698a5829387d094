/-
  NARROWER THAN 'FOR EVERY INPUT', by the rows' own cells (each row's printed sentence says how): FormatWords: laid · FormatOf: laid · FormatNames: laid · ClassCounts: laid · ClassMakes: laid · ClassSigns: laid · ClassOf: laid · NanQuiets: laid · UnpackShort: laid · NanOf: laid · NanPayloads: laid · OrderNext: laid.
  DERIVED. THE GIVEN ROWS OF THIS SEAT. 12 by the template 'for every input the law returns true; each argument reads behind the call as it read before'; 0 by the template 'total and deterministic' (their statements: YtbaapenmfaccgaaDoorTotals.lean).
  GIVEN WITH THE SEED: the statements are not yours to turn. If you find one false, say at which input.
  Laid BY PROGRAM, IN A SANDBOX (cutbox-rows.mjs): the forced cells as the released guide's own fill.sh prints them over the translation 83407ec0f9858295… (all of the seat's roots in one cut). By AI agents, Wed Nov 11 2026. No macro, syntax, notation, axiom, sorry.
-/
import Derived.Test.YtbaapenmfaccgaaDoorChecked
import GoSem.Claim
import GoSem.ClaimJoined
import GoSem.ClaimMapViews
import Derived.JoinedTies
import Derived.KernelRfl
namespace Go.Proofs.YtbaapenmfaccgaaDoor
/- THE CELL 'sum', in the pinned program and in every row, IS THE sha256 OF THE DUMP (.gsa) THAT YtbaapenmfaccgaaDoorProg.lean LOADS. Nothing in Lean hashes anything: it is a label: what it is worth is what the hold of that sum in a sandbox is worth. -/
noncomputable def Tryd.pinned : Pinned := { name := "ytbaapenmfaccgaadoor", sum := "83407ec0f98582951c8971c8cc6557ffafe9ace3da7544a9475f7df6a896a90d", checked := Tryd.checked }
namespace Rows
def none {H : Type} : Left H := { results := [], args := [] }

/- WHAT THE LISTED PACKAGE-LEVEL VARIABLES READ AS WHEN THE CALL BEGINS. Each datum BY PROGRAM (the guide's laid-datum.mjs) off the statement by which the dump's own 'gosem.cut.vars' lays the variable. In a bare row this is a premise. The card (YtbaapenmfaccgaaDoorCards.lean) ties it to the program's text. -/
def laid_radicand_format_known {H : Type} : DataW H := .agg [.agg [.lit (.string []), .lit (.int .i64 0), .lit (.int .i64 0), .lit (.int .i64 0)], .agg [.lit (.string [98, 105, 110, 97, 114, 121, 49, 54]), .lit (.int .i64 16), .lit (.int .i64 11), .lit (.int .i64 5)], .agg [.lit (.string [98, 105, 110, 97, 114, 121, 51, 50]), .lit (.int .i64 32), .lit (.int .i64 24), .lit (.int .i64 8)], .agg [.lit (.string [98, 105, 110, 97, 114, 121, 54, 52]), .lit (.int .i64 64), .lit (.int .i64 53), .lit (.int .i64 11)], .agg [.lit (.string [98, 105, 110, 97, 114, 121, 49, 50, 56]), .lit (.int .i64 128), .lit (.int .i64 113), .lit (.int .i64 15)]]

/-- 'radicandlaw05.FormatWords': WHATEVER THE INPUT: true; the input reads as it did. -/
def formatWordsSpec : ChangeSpec := { name := "formatWords", fn := fun _ => fun
  | [d1, d2] => { results := [.lit (.bool true)], args := [d1, d2] }
  | _ => none }
def formatWordsRow : OpenClaim := { program := "ytbaapenmfaccgaadoor", sum := "83407ec0f98582951c8971c8cc6557ffafe9ace3da7544a9475f7df6a896a90d", func := "radicand/radicandlaw05.FormatWords", spec := "formatWords", inPlace := ["math/bits.Add64", "math/bits.Sub64"], unfollowed := true, recurses := true, named := ["radicand/format.known"], apart := false, laid := [("radicand/format.known", laid_radicand_format_known)] }
def FormatWordsSaid : Prop := formatWordsRow.holds Tryd.pinned (OpenSpec.ofChange formatWordsSpec)

/-- ITS FALSE NEIGHBOUR: 'it returns false'. Refute it at one input. -/
def formatWordsWrong : ChangeSpec := { name := "formatWords", fn := fun _ => fun
  | [d1, d2] => { results := [.lit (.bool false)], args := [d1, d2] }
  | _ => none }
def FormatWordsWrongFalsely : Prop := formatWordsRow.holds Tryd.pinned (OpenSpec.ofChange formatWordsWrong)

/-- 'radicandlaw05.FormatOf': WHATEVER THE INPUT: true; the input reads as it did. -/
def formatOfSpec : ChangeSpec := { name := "formatOf", fn := fun _ => fun
  | [d] => { results := [.lit (.bool true)], args := [d] }
  | _ => none }
def formatOfRow : OpenClaim := { program := "ytbaapenmfaccgaadoor", sum := "83407ec0f98582951c8971c8cc6557ffafe9ace3da7544a9475f7df6a896a90d", func := "radicand/radicandlaw05.FormatOf", spec := "formatOf", inPlace := ["math/bits.Add64", "math/bits.Sub64"], unfollowed := true, recurses := true, named := ["radicand/format.known"], apart := false, laid := [("radicand/format.known", laid_radicand_format_known)] }
def FormatOfSaid : Prop := formatOfRow.holds Tryd.pinned (OpenSpec.ofChange formatOfSpec)

/-- ITS FALSE NEIGHBOUR: 'it returns false'. Refute it at one input. -/
def formatOfWrong : ChangeSpec := { name := "formatOf", fn := fun _ => fun
  | [d] => { results := [.lit (.bool false)], args := [d] }
  | _ => none }
def FormatOfWrongFalsely : Prop := formatOfRow.holds Tryd.pinned (OpenSpec.ofChange formatOfWrong)

/-- 'radicandlaw05.FormatNames': WHATEVER THE INPUT: true; the input reads as it did. -/
def formatNamesSpec : ChangeSpec := { name := "formatNames", fn := fun _ => fun
  | [d1, d2, d3] => { results := [.lit (.bool true)], args := [d1, d2, d3] }
  | _ => none }
def formatNamesRow : OpenClaim := { program := "ytbaapenmfaccgaadoor", sum := "83407ec0f98582951c8971c8cc6557ffafe9ace3da7544a9475f7df6a896a90d", func := "radicand/radicandlaw05.FormatNames", spec := "formatNames", inPlace := ["math/bits.Add64", "math/bits.Sub64"], unfollowed := true, recurses := true, named := ["radicand/format.known"], apart := false, laid := [("radicand/format.known", laid_radicand_format_known)] }
def FormatNamesSaid : Prop := formatNamesRow.holds Tryd.pinned (OpenSpec.ofChange formatNamesSpec)

/-- ITS FALSE NEIGHBOUR: 'it returns false'. Refute it at one input. -/
def formatNamesWrong : ChangeSpec := { name := "formatNames", fn := fun _ => fun
  | [d1, d2, d3] => { results := [.lit (.bool false)], args := [d1, d2, d3] }
  | _ => none }
def FormatNamesWrongFalsely : Prop := formatNamesRow.holds Tryd.pinned (OpenSpec.ofChange formatNamesWrong)

/-- 'radicandlaw06.ClassCounts': WHATEVER THE INPUT: true; the input reads as it did. -/
def classCountsSpec : ChangeSpec := { name := "classCounts", fn := fun _ => fun
  | [d1, d2] => { results := [.lit (.bool true)], args := [d1, d2] }
  | _ => none }
def classCountsRow : OpenClaim := { program := "ytbaapenmfaccgaadoor", sum := "83407ec0f98582951c8971c8cc6557ffafe9ace3da7544a9475f7df6a896a90d", func := "radicand/radicandlaw06.ClassCounts", spec := "classCounts", inPlace := ["math/bits.Sub64"], unfollowed := true, recurses := true, named := ["radicand/format.known"], apart := false, laid := [("radicand/format.known", laid_radicand_format_known)] }
def ClassCountsSaid : Prop := classCountsRow.holds Tryd.pinned (OpenSpec.ofChange classCountsSpec)

/-- ITS FALSE NEIGHBOUR: 'it returns false'. Refute it at one input. -/
def classCountsWrong : ChangeSpec := { name := "classCounts", fn := fun _ => fun
  | [d1, d2] => { results := [.lit (.bool false)], args := [d1, d2] }
  | _ => none }
def ClassCountsWrongFalsely : Prop := classCountsRow.holds Tryd.pinned (OpenSpec.ofChange classCountsWrong)

/-- 'radicandlaw06.ClassMakes': WHATEVER THE INPUT: true; the input reads as it did. -/
def classMakesSpec : ChangeSpec := { name := "classMakes", fn := fun _ => fun
  | [d1, d2] => { results := [.lit (.bool true)], args := [d1, d2] }
  | _ => none }
def classMakesRow : OpenClaim := { program := "ytbaapenmfaccgaadoor", sum := "83407ec0f98582951c8971c8cc6557ffafe9ace3da7544a9475f7df6a896a90d", func := "radicand/radicandlaw06.ClassMakes", spec := "classMakes", inPlace := ["math/bits.Add64", "math/bits.Sub64"], unfollowed := true, recurses := true, named := ["radicand/format.known"], apart := false, laid := [("radicand/format.known", laid_radicand_format_known)] }
def ClassMakesSaid : Prop := classMakesRow.holds Tryd.pinned (OpenSpec.ofChange classMakesSpec)

/-- ITS FALSE NEIGHBOUR: 'it returns false'. Refute it at one input. -/
def classMakesWrong : ChangeSpec := { name := "classMakes", fn := fun _ => fun
  | [d1, d2] => { results := [.lit (.bool false)], args := [d1, d2] }
  | _ => none }
def ClassMakesWrongFalsely : Prop := classMakesRow.holds Tryd.pinned (OpenSpec.ofChange classMakesWrong)

/-- 'radicandlaw06.ClassSigns': WHATEVER THE INPUT: true; the input reads as it did. -/
def classSignsSpec : ChangeSpec := { name := "classSigns", fn := fun _ => fun
  | [d1, d2] => { results := [.lit (.bool true)], args := [d1, d2] }
  | _ => none }
def classSignsRow : OpenClaim := { program := "ytbaapenmfaccgaadoor", sum := "83407ec0f98582951c8971c8cc6557ffafe9ace3da7544a9475f7df6a896a90d", func := "radicand/radicandlaw06.ClassSigns", spec := "classSigns", inPlace := ["math/bits.Sub64", "math/bits.Add64"], unfollowed := true, recurses := true, named := ["radicand/format.known"], apart := false, laid := [("radicand/format.known", laid_radicand_format_known)] }
def ClassSignsSaid : Prop := classSignsRow.holds Tryd.pinned (OpenSpec.ofChange classSignsSpec)

/-- ITS FALSE NEIGHBOUR: 'it returns false'. Refute it at one input. -/
def classSignsWrong : ChangeSpec := { name := "classSigns", fn := fun _ => fun
  | [d1, d2] => { results := [.lit (.bool false)], args := [d1, d2] }
  | _ => none }
def ClassSignsWrongFalsely : Prop := classSignsRow.holds Tryd.pinned (OpenSpec.ofChange classSignsWrong)

/-- 'radicandlaw06.ClassOf': WHATEVER THE INPUT: true; the input reads as it did. -/
def classOfSpec : ChangeSpec := { name := "classOf", fn := fun _ => fun
  | [d1, d2] => { results := [.lit (.bool true)], args := [d1, d2] }
  | _ => none }
def classOfRow : OpenClaim := { program := "ytbaapenmfaccgaadoor", sum := "83407ec0f98582951c8971c8cc6557ffafe9ace3da7544a9475f7df6a896a90d", func := "radicand/radicandlaw06.ClassOf", spec := "classOf", inPlace := ["math/bits.Sub64", "math/bits.Add64"], unfollowed := true, recurses := true, named := ["radicand/format.known"], apart := false, laid := [("radicand/format.known", laid_radicand_format_known)] }
def ClassOfSaid : Prop := classOfRow.holds Tryd.pinned (OpenSpec.ofChange classOfSpec)

/-- ITS FALSE NEIGHBOUR: 'it returns false'. Refute it at one input. -/
def classOfWrong : ChangeSpec := { name := "classOf", fn := fun _ => fun
  | [d1, d2] => { results := [.lit (.bool false)], args := [d1, d2] }
  | _ => none }
def ClassOfWrongFalsely : Prop := classOfRow.holds Tryd.pinned (OpenSpec.ofChange classOfWrong)

/-- 'radicandlaw10.NanQuiets': WHATEVER THE INPUT: true; the input reads as it did. -/
def nanQuietsSpec : ChangeSpec := { name := "nanQuiets", fn := fun _ => fun
  | [d1, d2] => { results := [.lit (.bool true)], args := [d1, d2] }
  | _ => none }
def nanQuietsRow : OpenClaim := { program := "ytbaapenmfaccgaadoor", sum := "83407ec0f98582951c8971c8cc6557ffafe9ace3da7544a9475f7df6a896a90d", func := "radicand/radicandlaw10.NanQuiets", spec := "nanQuiets", inPlace := ["math/bits.Sub64", "math/bits.Add64"], unfollowed := true, recurses := true, named := ["radicand/format.known"], apart := false, laid := [("radicand/format.known", laid_radicand_format_known)] }
def NanQuietsSaid : Prop := nanQuietsRow.holds Tryd.pinned (OpenSpec.ofChange nanQuietsSpec)

/-- ITS FALSE NEIGHBOUR: 'it returns false'. Refute it at one input. -/
def nanQuietsWrong : ChangeSpec := { name := "nanQuiets", fn := fun _ => fun
  | [d1, d2] => { results := [.lit (.bool false)], args := [d1, d2] }
  | _ => none }
def NanQuietsWrongFalsely : Prop := nanQuietsRow.holds Tryd.pinned (OpenSpec.ofChange nanQuietsWrong)

/-- 'radicandlaw07.UnpackShort': WHATEVER THE INPUT: true; the input reads as it did. -/
def unpackShortSpec : ChangeSpec := { name := "unpackShort", fn := fun _ => fun
  | [d] => { results := [.lit (.bool true)], args := [d] }
  | _ => none }
def unpackShortRow : OpenClaim := { program := "ytbaapenmfaccgaadoor", sum := "83407ec0f98582951c8971c8cc6557ffafe9ace3da7544a9475f7df6a896a90d", func := "radicand/radicandlaw07.UnpackShort", spec := "unpackShort", inPlace := ["math/bits.Sub64", "math/bits.Add64"], unfollowed := true, recurses := true, named := ["radicand/format.known"], apart := false, laid := [("radicand/format.known", laid_radicand_format_known)] }
def UnpackShortSaid : Prop := unpackShortRow.holds Tryd.pinned (OpenSpec.ofChange unpackShortSpec)

/-- ITS FALSE NEIGHBOUR: 'it returns false'. Refute it at one input. -/
def unpackShortWrong : ChangeSpec := { name := "unpackShort", fn := fun _ => fun
  | [d] => { results := [.lit (.bool false)], args := [d] }
  | _ => none }
def UnpackShortWrongFalsely : Prop := unpackShortRow.holds Tryd.pinned (OpenSpec.ofChange unpackShortWrong)

/-- 'radicandlaw10.NanOf': WHATEVER THE INPUT: true; the input reads as it did. -/
def nanOfSpec : ChangeSpec := { name := "nanOf", fn := fun _ => fun
  | [d1, d2] => { results := [.lit (.bool true)], args := [d1, d2] }
  | _ => none }
def nanOfRow : OpenClaim := { program := "ytbaapenmfaccgaadoor", sum := "83407ec0f98582951c8971c8cc6557ffafe9ace3da7544a9475f7df6a896a90d", func := "radicand/radicandlaw10.NanOf", spec := "nanOf", inPlace := ["math/bits.Sub64", "math/bits.Add64"], unfollowed := true, recurses := true, named := ["radicand/format.known"], apart := false, laid := [("radicand/format.known", laid_radicand_format_known)] }
def NanOfSaid : Prop := nanOfRow.holds Tryd.pinned (OpenSpec.ofChange nanOfSpec)

/-- ITS FALSE NEIGHBOUR: 'it returns false'. Refute it at one input. -/
def nanOfWrong : ChangeSpec := { name := "nanOf", fn := fun _ => fun
  | [d1, d2] => { results := [.lit (.bool false)], args := [d1, d2] }
  | _ => none }
def NanOfWrongFalsely : Prop := nanOfRow.holds Tryd.pinned (OpenSpec.ofChange nanOfWrong)

/-- 'radicandlaw10.NanPayloads': WHATEVER THE INPUT: true; the input reads as it did. -/
def nanPayloadsSpec : ChangeSpec := { name := "nanPayloads", fn := fun _ => fun
  | [d1, d2, d3] => { results := [.lit (.bool true)], args := [d1, d2, d3] }
  | _ => none }
def nanPayloadsRow : OpenClaim := { program := "ytbaapenmfaccgaadoor", sum := "83407ec0f98582951c8971c8cc6557ffafe9ace3da7544a9475f7df6a896a90d", func := "radicand/radicandlaw10.NanPayloads", spec := "nanPayloads", inPlace := ["math/bits.Add64", "math/bits.Sub64"], unfollowed := true, recurses := true, named := ["radicand/format.known"], apart := false, laid := [("radicand/format.known", laid_radicand_format_known)] }
def NanPayloadsSaid : Prop := nanPayloadsRow.holds Tryd.pinned (OpenSpec.ofChange nanPayloadsSpec)

/-- ITS FALSE NEIGHBOUR: 'it returns false'. Refute it at one input. -/
def nanPayloadsWrong : ChangeSpec := { name := "nanPayloads", fn := fun _ => fun
  | [d1, d2, d3] => { results := [.lit (.bool false)], args := [d1, d2, d3] }
  | _ => none }
def NanPayloadsWrongFalsely : Prop := nanPayloadsRow.holds Tryd.pinned (OpenSpec.ofChange nanPayloadsWrong)

/-- 'radicandlaw28.OrderNext': WHATEVER THE INPUT: true; the input reads as it did. -/
def orderNextSpec : ChangeSpec := { name := "orderNext", fn := fun _ => fun
  | [d1, d2, d3] => { results := [.lit (.bool true)], args := [d1, d2, d3] }
  | _ => none }
def orderNextRow : OpenClaim := { program := "ytbaapenmfaccgaadoor", sum := "83407ec0f98582951c8971c8cc6557ffafe9ace3da7544a9475f7df6a896a90d", func := "radicand/radicandlaw28.OrderNext", spec := "orderNext", inPlace := ["math/bits.Sub64", "math/bits.Add64"], unfollowed := true, recurses := true, named := ["radicand/format.known"], apart := false, laid := [("radicand/format.known", laid_radicand_format_known)] }
def OrderNextSaid : Prop := orderNextRow.holds Tryd.pinned (OpenSpec.ofChange orderNextSpec)

/-- ITS FALSE NEIGHBOUR: 'it returns false'. Refute it at one input. -/
def orderNextWrong : ChangeSpec := { name := "orderNext", fn := fun _ => fun
  | [d1, d2, d3] => { results := [.lit (.bool false)], args := [d1, d2, d3] }
  | _ => none }
def OrderNextWrongFalsely : Prop := orderNextRow.holds Tryd.pinned (OpenSpec.ofChange orderNextWrong)

/- THE SECOND FORM. 'bulk': how many values and letters a reading holds, each counted each time it is reached (what is shared counts as often as it is met; a slice's spare places count too). A statement '..UptoSaid' is the law's where the arguments, and the package variables that the reading takes, are together of bulk at most 1048576: NARROWER than '..Said'. Prove '..Said' where nothing that the law and all that it calls make is longer than what came in: it says more and counts as full. Else prove '..UptoSaid'. A law counts once. -/
mutual
def uptoBulk {H : Type} : DataW H → Nat
  | .lit (.string bytes) => bytes.length + 1
  | .lit _ => 1
  | .nil => 1
  | .ptr d => uptoBulk d + 1
  | .slice elems spare => uptoBulkAll elems + uptoBulkAll spare + 1
  | .agg parts => uptoBulkAll parts + 1
  | .iface _ d => uptoBulk d + 1
  | .map entries => uptoBulkEntries entries + 1
  | .held _ => 1
def uptoBulkAll {H : Type} : List (DataW H) → Nat
  | [] => 0
  | d :: r => uptoBulk d + uptoBulkAll r
def uptoBulkEntries {H : Type} : List (Lit × DataW H) → Nat
  | [] => 0
  | x :: r => uptoBulkEntry x + uptoBulkEntries r
def uptoBulkEntry {H : Type} : Lit × DataW H → Nat
  | (.string bytes, d) => bytes.length + uptoBulk d + 1
  | (_, d) => uptoBulk d + 1
 end
def uptoSmall : (H : Type) → List (DataW H) → Bool := fun _ ds => decide (uptoBulkAll ds ≤ 1048576)
def OpenSpec.upto (s : _root_.Go.ChangeSpec) : _root_.Go.OpenSpec := { _root_.Go.OpenSpec.ofChange s with cond := some uptoSmall }

/-- 'radicandlaw05.FormatWords', WHERE WHAT IT READS IS OF BULK AT MOST 1048576: true; the input reads as it did. -/
def formatWordsUptoRow : OpenClaim := { program := "ytbaapenmfaccgaadoor", sum := "83407ec0f98582951c8971c8cc6557ffafe9ace3da7544a9475f7df6a896a90d", func := "radicand/radicandlaw05.FormatWords", spec := "formatWords", inPlace := ["math/bits.Add64", "math/bits.Sub64"], unfollowed := true, recurses := true, named := ["radicand/format.known"], apart := false, laid := [("radicand/format.known", laid_radicand_format_known)], narrowed := true }
def FormatWordsUptoSaid : Prop := formatWordsUptoRow.holds Tryd.pinned (OpenSpec.upto formatWordsSpec)

/-- 'radicandlaw05.FormatOf', WHERE WHAT IT READS IS OF BULK AT MOST 1048576: true; the input reads as it did. -/
def formatOfUptoRow : OpenClaim := { program := "ytbaapenmfaccgaadoor", sum := "83407ec0f98582951c8971c8cc6557ffafe9ace3da7544a9475f7df6a896a90d", func := "radicand/radicandlaw05.FormatOf", spec := "formatOf", inPlace := ["math/bits.Add64", "math/bits.Sub64"], unfollowed := true, recurses := true, named := ["radicand/format.known"], apart := false, laid := [("radicand/format.known", laid_radicand_format_known)], narrowed := true }
def FormatOfUptoSaid : Prop := formatOfUptoRow.holds Tryd.pinned (OpenSpec.upto formatOfSpec)

/-- 'radicandlaw05.FormatNames', WHERE WHAT IT READS IS OF BULK AT MOST 1048576: true; the input reads as it did. -/
def formatNamesUptoRow : OpenClaim := { program := "ytbaapenmfaccgaadoor", sum := "83407ec0f98582951c8971c8cc6557ffafe9ace3da7544a9475f7df6a896a90d", func := "radicand/radicandlaw05.FormatNames", spec := "formatNames", inPlace := ["math/bits.Add64", "math/bits.Sub64"], unfollowed := true, recurses := true, named := ["radicand/format.known"], apart := false, laid := [("radicand/format.known", laid_radicand_format_known)], narrowed := true }
def FormatNamesUptoSaid : Prop := formatNamesUptoRow.holds Tryd.pinned (OpenSpec.upto formatNamesSpec)

/-- 'radicandlaw06.ClassCounts', WHERE WHAT IT READS IS OF BULK AT MOST 1048576: true; the input reads as it did. -/
def classCountsUptoRow : OpenClaim := { program := "ytbaapenmfaccgaadoor", sum := "83407ec0f98582951c8971c8cc6557ffafe9ace3da7544a9475f7df6a896a90d", func := "radicand/radicandlaw06.ClassCounts", spec := "classCounts", inPlace := ["math/bits.Sub64"], unfollowed := true, recurses := true, named := ["radicand/format.known"], apart := false, laid := [("radicand/format.known", laid_radicand_format_known)], narrowed := true }
def ClassCountsUptoSaid : Prop := classCountsUptoRow.holds Tryd.pinned (OpenSpec.upto classCountsSpec)

/-- 'radicandlaw06.ClassMakes', WHERE WHAT IT READS IS OF BULK AT MOST 1048576: true; the input reads as it did. -/
def classMakesUptoRow : OpenClaim := { program := "ytbaapenmfaccgaadoor", sum := "83407ec0f98582951c8971c8cc6557ffafe9ace3da7544a9475f7df6a896a90d", func := "radicand/radicandlaw06.ClassMakes", spec := "classMakes", inPlace := ["math/bits.Add64", "math/bits.Sub64"], unfollowed := true, recurses := true, named := ["radicand/format.known"], apart := false, laid := [("radicand/format.known", laid_radicand_format_known)], narrowed := true }
def ClassMakesUptoSaid : Prop := classMakesUptoRow.holds Tryd.pinned (OpenSpec.upto classMakesSpec)

/-- 'radicandlaw06.ClassSigns', WHERE WHAT IT READS IS OF BULK AT MOST 1048576: true; the input reads as it did. -/
def classSignsUptoRow : OpenClaim := { program := "ytbaapenmfaccgaadoor", sum := "83407ec0f98582951c8971c8cc6557ffafe9ace3da7544a9475f7df6a896a90d", func := "radicand/radicandlaw06.ClassSigns", spec := "classSigns", inPlace := ["math/bits.Sub64", "math/bits.Add64"], unfollowed := true, recurses := true, named := ["radicand/format.known"], apart := false, laid := [("radicand/format.known", laid_radicand_format_known)], narrowed := true }
def ClassSignsUptoSaid : Prop := classSignsUptoRow.holds Tryd.pinned (OpenSpec.upto classSignsSpec)

/-- 'radicandlaw06.ClassOf', WHERE WHAT IT READS IS OF BULK AT MOST 1048576: true; the input reads as it did. -/
def classOfUptoRow : OpenClaim := { program := "ytbaapenmfaccgaadoor", sum := "83407ec0f98582951c8971c8cc6557ffafe9ace3da7544a9475f7df6a896a90d", func := "radicand/radicandlaw06.ClassOf", spec := "classOf", inPlace := ["math/bits.Sub64", "math/bits.Add64"], unfollowed := true, recurses := true, named := ["radicand/format.known"], apart := false, laid := [("radicand/format.known", laid_radicand_format_known)], narrowed := true }
def ClassOfUptoSaid : Prop := classOfUptoRow.holds Tryd.pinned (OpenSpec.upto classOfSpec)

/-- 'radicandlaw10.NanQuiets', WHERE WHAT IT READS IS OF BULK AT MOST 1048576: true; the input reads as it did. -/
def nanQuietsUptoRow : OpenClaim := { program := "ytbaapenmfaccgaadoor", sum := "83407ec0f98582951c8971c8cc6557ffafe9ace3da7544a9475f7df6a896a90d", func := "radicand/radicandlaw10.NanQuiets", spec := "nanQuiets", inPlace := ["math/bits.Sub64", "math/bits.Add64"], unfollowed := true, recurses := true, named := ["radicand/format.known"], apart := false, laid := [("radicand/format.known", laid_radicand_format_known)], narrowed := true }
def NanQuietsUptoSaid : Prop := nanQuietsUptoRow.holds Tryd.pinned (OpenSpec.upto nanQuietsSpec)

/-- 'radicandlaw07.UnpackShort', WHERE WHAT IT READS IS OF BULK AT MOST 1048576: true; the input reads as it did. -/
def unpackShortUptoRow : OpenClaim := { program := "ytbaapenmfaccgaadoor", sum := "83407ec0f98582951c8971c8cc6557ffafe9ace3da7544a9475f7df6a896a90d", func := "radicand/radicandlaw07.UnpackShort", spec := "unpackShort", inPlace := ["math/bits.Sub64", "math/bits.Add64"], unfollowed := true, recurses := true, named := ["radicand/format.known"], apart := false, laid := [("radicand/format.known", laid_radicand_format_known)], narrowed := true }
def UnpackShortUptoSaid : Prop := unpackShortUptoRow.holds Tryd.pinned (OpenSpec.upto unpackShortSpec)

/-- 'radicandlaw10.NanOf', WHERE WHAT IT READS IS OF BULK AT MOST 1048576: true; the input reads as it did. -/
def nanOfUptoRow : OpenClaim := { program := "ytbaapenmfaccgaadoor", sum := "83407ec0f98582951c8971c8cc6557ffafe9ace3da7544a9475f7df6a896a90d", func := "radicand/radicandlaw10.NanOf", spec := "nanOf", inPlace := ["math/bits.Sub64", "math/bits.Add64"], unfollowed := true, recurses := true, named := ["radicand/format.known"], apart := false, laid := [("radicand/format.known", laid_radicand_format_known)], narrowed := true }
def NanOfUptoSaid : Prop := nanOfUptoRow.holds Tryd.pinned (OpenSpec.upto nanOfSpec)

/-- 'radicandlaw10.NanPayloads', WHERE WHAT IT READS IS OF BULK AT MOST 1048576: true; the input reads as it did. -/
def nanPayloadsUptoRow : OpenClaim := { program := "ytbaapenmfaccgaadoor", sum := "83407ec0f98582951c8971c8cc6557ffafe9ace3da7544a9475f7df6a896a90d", func := "radicand/radicandlaw10.NanPayloads", spec := "nanPayloads", inPlace := ["math/bits.Add64", "math/bits.Sub64"], unfollowed := true, recurses := true, named := ["radicand/format.known"], apart := false, laid := [("radicand/format.known", laid_radicand_format_known)], narrowed := true }
def NanPayloadsUptoSaid : Prop := nanPayloadsUptoRow.holds Tryd.pinned (OpenSpec.upto nanPayloadsSpec)

/-- 'radicandlaw28.OrderNext', WHERE WHAT IT READS IS OF BULK AT MOST 1048576: true; the input reads as it did. -/
def orderNextUptoRow : OpenClaim := { program := "ytbaapenmfaccgaadoor", sum := "83407ec0f98582951c8971c8cc6557ffafe9ace3da7544a9475f7df6a896a90d", func := "radicand/radicandlaw28.OrderNext", spec := "orderNext", inPlace := ["math/bits.Sub64", "math/bits.Add64"], unfollowed := true, recurses := true, named := ["radicand/format.known"], apart := false, laid := [("radicand/format.known", laid_radicand_format_known)], narrowed := true }
def OrderNextUptoSaid : Prop := orderNextUptoRow.holds Tryd.pinned (OpenSpec.upto orderNextSpec)

end Rows
end Go.Proofs.YtbaapenmfaccgaaDoor
