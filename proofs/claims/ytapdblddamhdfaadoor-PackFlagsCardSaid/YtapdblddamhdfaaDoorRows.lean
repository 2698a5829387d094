/-
  NARROWER THAN 'FOR EVERY INPUT', by the rows' own cells (each row's printed sentence says how): PackFlags: laid.
  DERIVED. THE GIVEN ROWS OF THIS SEAT. 1 by the template 'for every input the law returns true; each argument reads behind the call as it read before'; 0 by the template 'total and deterministic' (their statements: YtapdblddamhdfaaDoorTotals.lean).
  GIVEN WITH THE SEED: the statements are not yours to turn. If you find one false, say at which input.
  Laid BY PROGRAM, IN A SANDBOX (cutbox-rows.mjs): the forced cells as the released guide's own fill.sh prints them over the translation ff46d36190f793f3… (all of the seat's roots in one cut). By AI agents, Wed Nov 11 2026. No macro, syntax, notation, axiom, sorry.
-/
import Derived.Test.YtapdblddamhdfaaDoorChecked
import GoSem.Claim
import GoSem.ClaimJoined
import GoSem.ClaimMapViews
import Derived.JoinedTies
import Derived.KernelRfl
namespace Go.Proofs.YtapdblddamhdfaaDoor
/- THE CELL 'sum', in the pinned program and in every row, IS THE sha256 OF THE DUMP (.gsa) THAT YtapdblddamhdfaaDoorProg.lean LOADS. Nothing in Lean hashes anything: it is a label: what it is worth is what the hold of that sum in a sandbox is worth. -/
noncomputable def Tryd.pinned : Pinned := { name := "ytapdblddamhdfaadoor", sum := "ff46d36190f793f3d0bfd5e0a8eec42dfd2cd956469d7cbb7ccce27d016e88cc", checked := Tryd.checked }
namespace Rows
def none {H : Type} : Left H := { results := [], args := [] }

/- WHAT THE LISTED PACKAGE-LEVEL VARIABLES READ AS WHEN THE CALL BEGINS. Each datum BY PROGRAM (the guide's laid-datum.mjs) off the statement by which the dump's own 'gosem.cut.vars' lays the variable. In a bare row this is a premise. The card (YtapdblddamhdfaaDoorCards.lean) ties it to the program's text. -/
def laid_radicand_format_known {H : Type} : DataW H := .agg [.agg [.lit (.string []), .lit (.int .i64 0), .lit (.int .i64 0), .lit (.int .i64 0)], .agg [.lit (.string [98, 105, 110, 97, 114, 121, 49, 54]), .lit (.int .i64 16), .lit (.int .i64 11), .lit (.int .i64 5)], .agg [.lit (.string [98, 105, 110, 97, 114, 121, 51, 50]), .lit (.int .i64 32), .lit (.int .i64 24), .lit (.int .i64 8)], .agg [.lit (.string [98, 105, 110, 97, 114, 121, 54, 52]), .lit (.int .i64 64), .lit (.int .i64 53), .lit (.int .i64 11)], .agg [.lit (.string [98, 105, 110, 97, 114, 121, 49, 50, 56]), .lit (.int .i64 128), .lit (.int .i64 113), .lit (.int .i64 15)]]
def laid_radicand_pack_letters {H : Type} : DataW H := .agg [.agg [.lit (.string [105]), .lit (.int .i64 1)], .agg [.lit (.string [122]), .lit (.int .i64 2)], .agg [.lit (.string [111]), .lit (.int .i64 4)], .agg [.lit (.string [117]), .lit (.int .i64 8)], .agg [.lit (.string [120]), .lit (.int .i64 16)]]

/-- 'radicandlaw09.PackFlags': WHATEVER THE INPUT: true; the input reads as it did. -/
def packFlagsSpec : ChangeSpec := { name := "packFlags", fn := fun _ => fun
  | [d1, d2] => { results := [.lit (.bool true)], args := [d1, d2] }
  | _ => none }
def packFlagsRow : OpenClaim := { program := "ytapdblddamhdfaadoor", sum := "ff46d36190f793f3d0bfd5e0a8eec42dfd2cd956469d7cbb7ccce27d016e88cc", func := "radicand/radicandlaw09.PackFlags", spec := "packFlags", inPlace := ["math/bits.Add64", "math/bits.Sub64", "internal/abi.NoEscape", "internal/bytealg.IndexByteString", "internal/bytealg.IndexString"], unfollowed := true, recurses := true, named := ["radicand/format.known", "radicand/pack.letters", "internal/bytealg.MaxLen"], apart := false, laid := [("radicand/format.known", laid_radicand_format_known), ("radicand/pack.letters", laid_radicand_pack_letters)] }
def PackFlagsSaid : Prop := packFlagsRow.holds Tryd.pinned (OpenSpec.ofChange packFlagsSpec)

/-- ITS FALSE NEIGHBOUR: 'it returns false'. Refute it at one input. -/
def packFlagsWrong : ChangeSpec := { name := "packFlags", fn := fun _ => fun
  | [d1, d2] => { results := [.lit (.bool false)], args := [d1, d2] }
  | _ => none }
def PackFlagsWrongFalsely : Prop := packFlagsRow.holds Tryd.pinned (OpenSpec.ofChange packFlagsWrong)

/- THE SECOND FORM. 'bulk': how many values and letters a reading holds, each counted each time it is reached (what is shared counts as often as it is met; a slice's spare places count too). A statement '..UptoSaid' is the law's where the arguments, and the package variables that the reading takes, are together of bulk at most 1048576: NARROWER than '..Said'. Prove '..Said' where nothing that the law and all that it calls make is longer than what came in: it says more and counts as full. Else prove '..UptoSaid'. A law counts once. -/
mutual
def uptoBulk {H : Type} : DataW H → Nat
  | .lit (.string bytes) => bytes.length + 1
  | .lit _ => 1
  | .nil => 1
  | .ptr d => uptoBulk d + 1
  | .slice elems spare => uptoBulkAll elems + uptoBulkAll spare + 1
  | .agg parts => uptoBulkAll parts + 1
  | .iface _ d => uptoBulk d + 1
  | .map entries => uptoBulkEntries entries + 1
  | .held _ => 1
def uptoBulkAll {H : Type} : List (DataW H) → Nat
  | [] => 0
  | d :: r => uptoBulk d + uptoBulkAll r
def uptoBulkEntries {H : Type} : List (Lit × DataW H) → Nat
  | [] => 0
  | x :: r => uptoBulkEntry x + uptoBulkEntries r
def uptoBulkEntry {H : Type} : Lit × DataW H → Nat
  | (.string bytes, d) => bytes.length + uptoBulk d + 1
  | (_, d) => uptoBulk d + 1
 end
def uptoSmall : (H : Type) → List (DataW H) → Bool := fun _ ds => decide (uptoBulkAll ds ≤ 1048576)
def OpenSpec.upto (s : _root_.Go.ChangeSpec) : _root_.Go.OpenSpec := { _root_.Go.OpenSpec.ofChange s with cond := some uptoSmall }

/-- 'radicandlaw09.PackFlags', WHERE WHAT IT READS IS OF BULK AT MOST 1048576: true; the input reads as it did. -/
def packFlagsUptoRow : OpenClaim := { program := "ytapdblddamhdfaadoor", sum := "ff46d36190f793f3d0bfd5e0a8eec42dfd2cd956469d7cbb7ccce27d016e88cc", func := "radicand/radicandlaw09.PackFlags", spec := "packFlags", inPlace := ["math/bits.Add64", "math/bits.Sub64", "internal/abi.NoEscape", "internal/bytealg.IndexByteString", "internal/bytealg.IndexString"], unfollowed := true, recurses := true, named := ["radicand/format.known", "radicand/pack.letters", "internal/bytealg.MaxLen"], apart := false, laid := [("radicand/format.known", laid_radicand_format_known), ("radicand/pack.letters", laid_radicand_pack_letters)], narrowed := true }
def PackFlagsUptoSaid : Prop := packFlagsUptoRow.holds Tryd.pinned (OpenSpec.upto packFlagsSpec)

end Rows
end Go.Proofs.YtapdblddamhdfaaDoor
