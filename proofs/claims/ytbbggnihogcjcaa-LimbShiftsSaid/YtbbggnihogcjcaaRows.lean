/-
  No cell of these rows narrows 'for every input' (looked for: loops, veiled, ifaces, maps, wideKeys, modest, calm, conditions, laid).
  DERIVED. THE GIVEN ROWS OF THIS SEAT. 4 by the template 'for every input the law returns true; each argument reads behind the call as it read before'; 0 by the template 'total and deterministic' (their statements: YtbbggnihogcjcaaTotals.lean).
  GIVEN WITH THE SEED: the statements are not yours to turn. If you find one false, say at which input.
  Laid BY PROGRAM, IN A SANDBOX (cutbox-rows.mjs): the forced cells as the released guide's own fill.sh prints them over the translation b3f3800ad1739ba5… (all of the seat's roots in one cut). By AI agents, Wed Nov 11 2026. No macro, syntax, notation, axiom, sorry.
-/
import Derived.Test.YtbbggnihogcjcaaChecked
import GoSem.Claim
import GoSem.ClaimJoined
import GoSem.ClaimMapViews
import Derived.JoinedTies
import Derived.KernelRfl
namespace Go.Proofs.Ytbbggnihogcjcaa
/- THE CELL 'sum', in the pinned program and in every row, IS THE sha256 OF THE DUMP (.gsa) THAT YtbbggnihogcjcaaProg.lean LOADS. Nothing in Lean hashes anything: it is a label: what it is worth is what the hold of that sum in a sandbox is worth. -/
noncomputable def Try.pinned : Pinned := { name := "ytbbggnihogcjcaa", sum := "b3f3800ad1739ba5afe61fc1da561e94fa2a9ba682a51b40bbdd3de349890ddb", checked := Try.checked }
namespace Rows
def none {H : Type} : Left H := { results := [], args := [] }

/-- 'radicandlaw01.LimbShifts': WHATEVER THE INPUT: true; the input reads as it did. -/
def limbShiftsSpec : ChangeSpec := { name := "limbShifts", fn := fun _ => fun
  | [d1, d2] => { results := [.lit (.bool true)], args := [d1, d2] }
  | _ => none }
def limbShiftsRow : OpenClaim := { program := "ytbbggnihogcjcaa", sum := "b3f3800ad1739ba5afe61fc1da561e94fa2a9ba682a51b40bbdd3de349890ddb", func := "radicand/radicandlaw01.LimbShifts", spec := "limbShifts", inPlace := ["math/bits.Add64"], unfollowed := true, recurses := true, apart := false }
def LimbShiftsSaid : Prop := limbShiftsRow.holds Try.pinned (OpenSpec.ofChange limbShiftsSpec)

/-- ITS FALSE NEIGHBOUR: 'it returns false'. Refute it at one input. -/
def limbShiftsWrong : ChangeSpec := { name := "limbShifts", fn := fun _ => fun
  | [d1, d2] => { results := [.lit (.bool false)], args := [d1, d2] }
  | _ => none }
def LimbShiftsWrongFalsely : Prop := limbShiftsRow.holds Try.pinned (OpenSpec.ofChange limbShiftsWrong)

/-- 'radicandlaw01.LimbSums': WHATEVER THE INPUT: true; the input reads as it did. -/
def limbSumsSpec : ChangeSpec := { name := "limbSums", fn := fun _ => fun
  | [d1, d2] => { results := [.lit (.bool true)], args := [d1, d2] }
  | _ => none }
def limbSumsRow : OpenClaim := { program := "ytbbggnihogcjcaa", sum := "b3f3800ad1739ba5afe61fc1da561e94fa2a9ba682a51b40bbdd3de349890ddb", func := "radicand/radicandlaw01.LimbSums", spec := "limbSums", inPlace := ["math/bits.Add64"], unfollowed := true, recurses := true, apart := false }
def LimbSumsSaid : Prop := limbSumsRow.holds Try.pinned (OpenSpec.ofChange limbSumsSpec)

/-- ITS FALSE NEIGHBOUR: 'it returns false'. Refute it at one input. -/
def limbSumsWrong : ChangeSpec := { name := "limbSums", fn := fun _ => fun
  | [d1, d2] => { results := [.lit (.bool false)], args := [d1, d2] }
  | _ => none }
def LimbSumsWrongFalsely : Prop := limbSumsRow.holds Try.pinned (OpenSpec.ofChange limbSumsWrong)

/-- 'radicandlaw01.LimbBack': WHATEVER THE INPUT: true; the input reads as it did. -/
def limbBackSpec : ChangeSpec := { name := "limbBack", fn := fun _ => fun
  | [d1, d2, d3] => { results := [.lit (.bool true)], args := [d1, d2, d3] }
  | _ => none }
def limbBackRow : OpenClaim := { program := "ytbbggnihogcjcaa", sum := "b3f3800ad1739ba5afe61fc1da561e94fa2a9ba682a51b40bbdd3de349890ddb", func := "radicand/radicandlaw01.LimbBack", spec := "limbBack", inPlace := ["math/bits.Add64"], unfollowed := true, recurses := true, apart := false }
def LimbBackSaid : Prop := limbBackRow.holds Try.pinned (OpenSpec.ofChange limbBackSpec)

/-- ITS FALSE NEIGHBOUR: 'it returns false'. Refute it at one input. -/
def limbBackWrong : ChangeSpec := { name := "limbBack", fn := fun _ => fun
  | [d1, d2, d3] => { results := [.lit (.bool false)], args := [d1, d2, d3] }
  | _ => none }
def LimbBackWrongFalsely : Prop := limbBackRow.holds Try.pinned (OpenSpec.ofChange limbBackWrong)

/-- 'radicandlaw01.LimbAdds': WHATEVER THE INPUT: true; the input reads as it did. -/
def limbAddsSpec : ChangeSpec := { name := "limbAdds", fn := fun _ => fun
  | [d1, d2, d3] => { results := [.lit (.bool true)], args := [d1, d2, d3] }
  | _ => none }
def limbAddsRow : OpenClaim := { program := "ytbbggnihogcjcaa", sum := "b3f3800ad1739ba5afe61fc1da561e94fa2a9ba682a51b40bbdd3de349890ddb", func := "radicand/radicandlaw01.LimbAdds", spec := "limbAdds", inPlace := ["math/bits.Add64", "math/bits.Sub64"], unfollowed := true, recurses := true, apart := false }
def LimbAddsSaid : Prop := limbAddsRow.holds Try.pinned (OpenSpec.ofChange limbAddsSpec)

/-- ITS FALSE NEIGHBOUR: 'it returns false'. Refute it at one input. -/
def limbAddsWrong : ChangeSpec := { name := "limbAdds", fn := fun _ => fun
  | [d1, d2, d3] => { results := [.lit (.bool false)], args := [d1, d2, d3] }
  | _ => none }
def LimbAddsWrongFalsely : Prop := limbAddsRow.holds Try.pinned (OpenSpec.ofChange limbAddsWrong)

/- THE SECOND FORM. 'bulk': how many values and letters a reading holds, each counted each time it is reached (what is shared counts as often as it is met; a slice's spare places count too). A statement '..UptoSaid' is the law's where the arguments, and the package variables that the reading takes, are together of bulk at most 1048576: NARROWER than '..Said'. Prove '..Said' where nothing that the law and all that it calls make is longer than what came in: it says more and counts as full. Else prove '..UptoSaid'. A law counts once. -/
mutual
def uptoBulk {H : Type} : DataW H → Nat
  | .lit (.string bytes) => bytes.length + 1
  | .lit _ => 1
  | .nil => 1
  | .ptr d => uptoBulk d + 1
  | .slice elems spare => uptoBulkAll elems + uptoBulkAll spare + 1
  | .agg parts => uptoBulkAll parts + 1
  | .iface _ d => uptoBulk d + 1
  | .map entries => uptoBulkEntries entries + 1
  | .held _ => 1
def uptoBulkAll {H : Type} : List (DataW H) → Nat
  | [] => 0
  | d :: r => uptoBulk d + uptoBulkAll r
def uptoBulkEntries {H : Type} : List (Lit × DataW H) → Nat
  | [] => 0
  | x :: r => uptoBulkEntry x + uptoBulkEntries r
def uptoBulkEntry {H : Type} : Lit × DataW H → Nat
  | (.string bytes, d) => bytes.length + uptoBulk d + 1
  | (_, d) => uptoBulk d + 1
 end
def uptoSmall : (H : Type) → List (DataW H) → Bool := fun _ ds => decide (uptoBulkAll ds ≤ 1048576)
def OpenSpec.upto (s : _root_.Go.ChangeSpec) : _root_.Go.OpenSpec := { _root_.Go.OpenSpec.ofChange s with cond := some uptoSmall }

/-- 'radicandlaw01.LimbShifts', WHERE WHAT IT READS IS OF BULK AT MOST 1048576: true; the input reads as it did. -/
def limbShiftsUptoRow : OpenClaim := { program := "ytbbggnihogcjcaa", sum := "b3f3800ad1739ba5afe61fc1da561e94fa2a9ba682a51b40bbdd3de349890ddb", func := "radicand/radicandlaw01.LimbShifts", spec := "limbShifts", inPlace := ["math/bits.Add64"], unfollowed := true, recurses := true, apart := false, narrowed := true }
def LimbShiftsUptoSaid : Prop := limbShiftsUptoRow.holds Try.pinned (OpenSpec.upto limbShiftsSpec)

/-- 'radicandlaw01.LimbSums', WHERE WHAT IT READS IS OF BULK AT MOST 1048576: true; the input reads as it did. -/
def limbSumsUptoRow : OpenClaim := { program := "ytbbggnihogcjcaa", sum := "b3f3800ad1739ba5afe61fc1da561e94fa2a9ba682a51b40bbdd3de349890ddb", func := "radicand/radicandlaw01.LimbSums", spec := "limbSums", inPlace := ["math/bits.Add64"], unfollowed := true, recurses := true, apart := false, narrowed := true }
def LimbSumsUptoSaid : Prop := limbSumsUptoRow.holds Try.pinned (OpenSpec.upto limbSumsSpec)

/-- 'radicandlaw01.LimbBack', WHERE WHAT IT READS IS OF BULK AT MOST 1048576: true; the input reads as it did. -/
def limbBackUptoRow : OpenClaim := { program := "ytbbggnihogcjcaa", sum := "b3f3800ad1739ba5afe61fc1da561e94fa2a9ba682a51b40bbdd3de349890ddb", func := "radicand/radicandlaw01.LimbBack", spec := "limbBack", inPlace := ["math/bits.Add64"], unfollowed := true, recurses := true, apart := false, narrowed := true }
def LimbBackUptoSaid : Prop := limbBackUptoRow.holds Try.pinned (OpenSpec.upto limbBackSpec)

/-- 'radicandlaw01.LimbAdds', WHERE WHAT IT READS IS OF BULK AT MOST 1048576: true; the input reads as it did. -/
def limbAddsUptoRow : OpenClaim := { program := "ytbbggnihogcjcaa", sum := "b3f3800ad1739ba5afe61fc1da561e94fa2a9ba682a51b40bbdd3de349890ddb", func := "radicand/radicandlaw01.LimbAdds", spec := "limbAdds", inPlace := ["math/bits.Add64", "math/bits.Sub64"], unfollowed := true, recurses := true, apart := false, narrowed := true }
def LimbAddsUptoSaid : Prop := limbAddsUptoRow.holds Try.pinned (OpenSpec.upto limbAddsSpec)

end Rows
end Go.Proofs.Ytbbggnihogcjcaa
