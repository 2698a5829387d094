/-
  NARROWER THAN 'FOR EVERY INPUT', by the rows' own cells (each row's printed sentence says how): TopNaN: laid · TopMirror: laid · TopSelf: laid.
  DERIVED. THE GIVEN ROWS OF THIS SEAT. 3 by the template 'for every input the law returns true; each argument reads behind the call as it read before'; 0 by the template 'total and deterministic' (their statements: YtnanihpaifaceaaGreatDoorTotals.lean).
  GIVEN WITH THE SEED: the statements are not yours to turn. If you find one false, say at which input.
  Laid BY PROGRAM, IN A SANDBOX (cutbox-rows.mjs): the forced cells as the released guide's own fill.sh prints them over the translation d981b9c2eff02cba… (all of the seat's roots in one cut). By AI agents, Wed Nov 11 2026. No macro, syntax, notation, axiom, sorry.
-/
import Derived.Test.YtnanihpaifaceaaGreatDoorChecked
import GoSem.Claim
import GoSem.ClaimJoined
import GoSem.ClaimMapViews
import Derived.JoinedTies
import Derived.KernelRfl
namespace Go.Proofs.YtnanihpaifaceaaGreatDoor
/- THE CELL 'sum', in the pinned program and in every row, IS THE sha256 OF THE DUMP (.gsa) THAT YtnanihpaifaceaaGreatDoorProg.lean LOADS. Nothing in Lean hashes anything: it is a label: what it is worth is what the hold of that sum in a sandbox is worth. -/
noncomputable def Tryz.pinned : Pinned := { name := "ytnanihpaifaceaagreatdoor", sum := "d981b9c2eff02cbaafd53761f0476dbdf7f1a7c861c42347d533fb90fcf8b379", checked := Tryz.checked }
namespace Rows
def none {H : Type} : Left H := { results := [], args := [] }

/- WHAT THE LISTED PACKAGE-LEVEL VARIABLES READ AS WHEN THE CALL BEGINS. Each datum BY PROGRAM (the guide's laid-datum.mjs) off the statement by which the dump's own 'gosem.cut.vars' lays the variable. In a bare row this is a premise. The card (YtnanihpaifaceaaGreatDoorCards.lean) ties it to the program's text. -/
def laid_radicand_format_known {H : Type} : DataW H := .agg [.agg [.lit (.string []), .lit (.int .i64 0), .lit (.int .i64 0), .lit (.int .i64 0)], .agg [.lit (.string [98, 105, 110, 97, 114, 121, 49, 54]), .lit (.int .i64 16), .lit (.int .i64 11), .lit (.int .i64 5)], .agg [.lit (.string [98, 105, 110, 97, 114, 121, 51, 50]), .lit (.int .i64 32), .lit (.int .i64 24), .lit (.int .i64 8)], .agg [.lit (.string [98, 105, 110, 97, 114, 121, 54, 52]), .lit (.int .i64 64), .lit (.int .i64 53), .lit (.int .i64 11)], .agg [.lit (.string [98, 105, 110, 97, 114, 121, 49, 50, 56]), .lit (.int .i64 128), .lit (.int .i64 113), .lit (.int .i64 15)]]
def laid_radicand_engine_names {H : Type} : DataW H := .agg [.lit (.string []), .lit (.string [114, 101, 115, 116, 111, 114, 105, 110, 103]), .lit (.string [115, 114, 116]), .lit (.string [110, 101, 119, 116, 111, 110]), .lit (.string [103, 111, 108, 100])]

/-- 'radicandtop.TopNaN': WHATEVER THE INPUT: true; the input reads as it did. -/
def topNaNSpec : ChangeSpec := { name := "topNaN", fn := fun _ => fun
  | [d1, d2, d3] => { results := [.lit (.bool true)], args := [d1, d2, d3] }
  | _ => none }
def topNaNRow : OpenClaim := { program := "ytnanihpaifaceaagreatdoor", sum := "d981b9c2eff02cbaafd53761f0476dbdf7f1a7c861c42347d533fb90fcf8b379", func := "radicand/radicandtop.TopNaN", spec := "topNaN", inPlace := ["math/bits.Sub64", "math/bits.Add64", "sync/atomic.LoadUint32", "(*internal/sync.Mutex).Lock", "internal/race.Disable", "sync/atomic.CompareAndSwapInt32", "internal/race.Enable", "internal/race.Acquire", "(*internal/sync.Mutex).lockSlow", "internal/sync.runtime_canSpin", "internal/sync.runtime_doSpin", "internal/sync.throw", "internal/sync.runtime_nanotime", "internal/sync.runtime_SemacquireMutex", "sync/atomic.AddInt32", "(*internal/sync.Mutex).Unlock", "internal/race.ReleaseMerge", "(*internal/sync.Mutex).unlockSlow", "internal/sync.fatal", "internal/sync.runtime_Semrelease", "sync/atomic.StoreUint32", "sync/atomic.AddInt64"], unfollowed := true, recurses := true, named := ["radicand/format.known", "radicand/engine.names"], apart := false, laid := [("radicand/format.known", laid_radicand_format_known), ("radicand/engine.names", laid_radicand_engine_names)] }
def TopNaNSaid : Prop := topNaNRow.holds Tryz.pinned (OpenSpec.ofChange topNaNSpec)

/-- ITS FALSE NEIGHBOUR: 'it returns false'. Refute it at one input. -/
def topNaNWrong : ChangeSpec := { name := "topNaN", fn := fun _ => fun
  | [d1, d2, d3] => { results := [.lit (.bool false)], args := [d1, d2, d3] }
  | _ => none }
def TopNaNWrongFalsely : Prop := topNaNRow.holds Tryz.pinned (OpenSpec.ofChange topNaNWrong)

/-- 'radicandtop.TopMirror': WHATEVER THE INPUT: true; the input reads as it did. -/
def topMirrorSpec : ChangeSpec := { name := "topMirror", fn := fun _ => fun
  | [d1, d2, d3] => { results := [.lit (.bool true)], args := [d1, d2, d3] }
  | _ => none }
def topMirrorRow : OpenClaim := { program := "ytnanihpaifaceaagreatdoor", sum := "d981b9c2eff02cbaafd53761f0476dbdf7f1a7c861c42347d533fb90fcf8b379", func := "radicand/radicandtop.TopMirror", spec := "topMirror", inPlace := ["math/bits.Sub64", "math/bits.Add64", "sync/atomic.LoadUint32", "(*internal/sync.Mutex).Lock", "internal/race.Disable", "sync/atomic.CompareAndSwapInt32", "internal/race.Enable", "internal/race.Acquire", "(*internal/sync.Mutex).lockSlow", "internal/sync.runtime_canSpin", "internal/sync.runtime_doSpin", "internal/sync.throw", "internal/sync.runtime_nanotime", "internal/sync.runtime_SemacquireMutex", "sync/atomic.AddInt32", "(*internal/sync.Mutex).Unlock", "internal/race.ReleaseMerge", "(*internal/sync.Mutex).unlockSlow", "internal/sync.fatal", "internal/sync.runtime_Semrelease", "sync/atomic.StoreUint32", "sync/atomic.AddInt64"], unfollowed := true, recurses := true, named := ["radicand/format.known", "radicand/engine.names"], apart := false, laid := [("radicand/format.known", laid_radicand_format_known), ("radicand/engine.names", laid_radicand_engine_names)] }
def TopMirrorSaid : Prop := topMirrorRow.holds Tryz.pinned (OpenSpec.ofChange topMirrorSpec)

/-- ITS FALSE NEIGHBOUR: 'it returns false'. Refute it at one input. -/
def topMirrorWrong : ChangeSpec := { name := "topMirror", fn := fun _ => fun
  | [d1, d2, d3] => { results := [.lit (.bool false)], args := [d1, d2, d3] }
  | _ => none }
def TopMirrorWrongFalsely : Prop := topMirrorRow.holds Tryz.pinned (OpenSpec.ofChange topMirrorWrong)

/-- 'radicandtop.TopSelf': WHATEVER THE INPUT: true; the input reads as it did. -/
def topSelfSpec : ChangeSpec := { name := "topSelf", fn := fun _ => fun
  | [d1, d2] => { results := [.lit (.bool true)], args := [d1, d2] }
  | _ => none }
def topSelfRow : OpenClaim := { program := "ytnanihpaifaceaagreatdoor", sum := "d981b9c2eff02cbaafd53761f0476dbdf7f1a7c861c42347d533fb90fcf8b379", func := "radicand/radicandtop.TopSelf", spec := "topSelf", inPlace := ["math/bits.Sub64", "math/bits.Add64", "sync/atomic.LoadUint32", "(*internal/sync.Mutex).Lock", "internal/race.Disable", "sync/atomic.CompareAndSwapInt32", "internal/race.Enable", "internal/race.Acquire", "(*internal/sync.Mutex).lockSlow", "internal/sync.runtime_canSpin", "internal/sync.runtime_doSpin", "internal/sync.throw", "internal/sync.runtime_nanotime", "internal/sync.runtime_SemacquireMutex", "sync/atomic.AddInt32", "(*internal/sync.Mutex).Unlock", "internal/race.ReleaseMerge", "(*internal/sync.Mutex).unlockSlow", "internal/sync.fatal", "internal/sync.runtime_Semrelease", "sync/atomic.StoreUint32", "sync/atomic.AddInt64"], unfollowed := true, recurses := true, named := ["radicand/format.known", "radicand/engine.names"], apart := false, laid := [("radicand/format.known", laid_radicand_format_known), ("radicand/engine.names", laid_radicand_engine_names)] }
def TopSelfSaid : Prop := topSelfRow.holds Tryz.pinned (OpenSpec.ofChange topSelfSpec)

/-- ITS FALSE NEIGHBOUR: 'it returns false'. Refute it at one input. -/
def topSelfWrong : ChangeSpec := { name := "topSelf", fn := fun _ => fun
  | [d1, d2] => { results := [.lit (.bool false)], args := [d1, d2] }
  | _ => none }
def TopSelfWrongFalsely : Prop := topSelfRow.holds Tryz.pinned (OpenSpec.ofChange topSelfWrong)

/- THE SECOND FORM. 'bulk': how many values and letters a reading holds, each counted each time it is reached (what is shared counts as often as it is met; a slice's spare places count too). A statement '..UptoSaid' is the law's where the arguments, and the package variables that the reading takes, are together of bulk at most 1048576: NARROWER than '..Said'. Prove '..Said' where nothing that the law and all that it calls make is longer than what came in: it says more and counts as full. Else prove '..UptoSaid'. A law counts once. -/
mutual
def uptoBulk {H : Type} : DataW H → Nat
  | .lit (.string bytes) => bytes.length + 1
  | .lit _ => 1
  | .nil => 1
  | .ptr d => uptoBulk d + 1
  | .slice elems spare => uptoBulkAll elems + uptoBulkAll spare + 1
  | .agg parts => uptoBulkAll parts + 1
  | .iface _ d => uptoBulk d + 1
  | .map entries => uptoBulkEntries entries + 1
  | .held _ => 1
def uptoBulkAll {H : Type} : List (DataW H) → Nat
  | [] => 0
  | d :: r => uptoBulk d + uptoBulkAll r
def uptoBulkEntries {H : Type} : List (Lit × DataW H) → Nat
  | [] => 0
  | x :: r => uptoBulkEntry x + uptoBulkEntries r
def uptoBulkEntry {H : Type} : Lit × DataW H → Nat
  | (.string bytes, d) => bytes.length + uptoBulk d + 1
  | (_, d) => uptoBulk d + 1
 end
def uptoSmall : (H : Type) → List (DataW H) → Bool := fun _ ds => decide (uptoBulkAll ds ≤ 1048576)
def OpenSpec.upto (s : _root_.Go.ChangeSpec) : _root_.Go.OpenSpec := { _root_.Go.OpenSpec.ofChange s with cond := some uptoSmall }

/-- 'radicandtop.TopNaN', WHERE WHAT IT READS IS OF BULK AT MOST 1048576: true; the input reads as it did. -/
def topNaNUptoRow : OpenClaim := { program := "ytnanihpaifaceaagreatdoor", sum := "d981b9c2eff02cbaafd53761f0476dbdf7f1a7c861c42347d533fb90fcf8b379", func := "radicand/radicandtop.TopNaN", spec := "topNaN", inPlace := ["math/bits.Sub64", "math/bits.Add64", "sync/atomic.LoadUint32", "(*internal/sync.Mutex).Lock", "internal/race.Disable", "sync/atomic.CompareAndSwapInt32", "internal/race.Enable", "internal/race.Acquire", "(*internal/sync.Mutex).lockSlow", "internal/sync.runtime_canSpin", "internal/sync.runtime_doSpin", "internal/sync.throw", "internal/sync.runtime_nanotime", "internal/sync.runtime_SemacquireMutex", "sync/atomic.AddInt32", "(*internal/sync.Mutex).Unlock", "internal/race.ReleaseMerge", "(*internal/sync.Mutex).unlockSlow", "internal/sync.fatal", "internal/sync.runtime_Semrelease", "sync/atomic.StoreUint32", "sync/atomic.AddInt64"], unfollowed := true, recurses := true, named := ["radicand/format.known", "radicand/engine.names"], apart := false, laid := [("radicand/format.known", laid_radicand_format_known), ("radicand/engine.names", laid_radicand_engine_names)], narrowed := true }
def TopNaNUptoSaid : Prop := topNaNUptoRow.holds Tryz.pinned (OpenSpec.upto topNaNSpec)

/-- 'radicandtop.TopMirror', WHERE WHAT IT READS IS OF BULK AT MOST 1048576: true; the input reads as it did. -/
def topMirrorUptoRow : OpenClaim := { program := "ytnanihpaifaceaagreatdoor", sum := "d981b9c2eff02cbaafd53761f0476dbdf7f1a7c861c42347d533fb90fcf8b379", func := "radicand/radicandtop.TopMirror", spec := "topMirror", inPlace := ["math/bits.Sub64", "math/bits.Add64", "sync/atomic.LoadUint32", "(*internal/sync.Mutex).Lock", "internal/race.Disable", "sync/atomic.CompareAndSwapInt32", "internal/race.Enable", "internal/race.Acquire", "(*internal/sync.Mutex).lockSlow", "internal/sync.runtime_canSpin", "internal/sync.runtime_doSpin", "internal/sync.throw", "internal/sync.runtime_nanotime", "internal/sync.runtime_SemacquireMutex", "sync/atomic.AddInt32", "(*internal/sync.Mutex).Unlock", "internal/race.ReleaseMerge", "(*internal/sync.Mutex).unlockSlow", "internal/sync.fatal", "internal/sync.runtime_Semrelease", "sync/atomic.StoreUint32", "sync/atomic.AddInt64"], unfollowed := true, recurses := true, named := ["radicand/format.known", "radicand/engine.names"], apart := false, laid := [("radicand/format.known", laid_radicand_format_known), ("radicand/engine.names", laid_radicand_engine_names)], narrowed := true }
def TopMirrorUptoSaid : Prop := topMirrorUptoRow.holds Tryz.pinned (OpenSpec.upto topMirrorSpec)

/-- 'radicandtop.TopSelf', WHERE WHAT IT READS IS OF BULK AT MOST 1048576: true; the input reads as it did. -/
def topSelfUptoRow : OpenClaim := { program := "ytnanihpaifaceaagreatdoor", sum := "d981b9c2eff02cbaafd53761f0476dbdf7f1a7c861c42347d533fb90fcf8b379", func := "radicand/radicandtop.TopSelf", spec := "topSelf", inPlace := ["math/bits.Sub64", "math/bits.Add64", "sync/atomic.LoadUint32", "(*internal/sync.Mutex).Lock", "internal/race.Disable", "sync/atomic.CompareAndSwapInt32", "internal/race.Enable", "internal/race.Acquire", "(*internal/sync.Mutex).lockSlow", "internal/sync.runtime_canSpin", "internal/sync.runtime_doSpin", "internal/sync.throw", "internal/sync.runtime_nanotime", "internal/sync.runtime_SemacquireMutex", "sync/atomic.AddInt32", "(*internal/sync.Mutex).Unlock", "internal/race.ReleaseMerge", "(*internal/sync.Mutex).unlockSlow", "internal/sync.fatal", "internal/sync.runtime_Semrelease", "sync/atomic.StoreUint32", "sync/atomic.AddInt64"], unfollowed := true, recurses := true, named := ["radicand/format.known", "radicand/engine.names"], apart := false, laid := [("radicand/format.known", laid_radicand_format_known), ("radicand/engine.names", laid_radicand_engine_names)], narrowed := true }
def TopSelfUptoSaid : Prop := topSelfUptoRow.holds Tryz.pinned (OpenSpec.upto topSelfSpec)

end Rows
end Go.Proofs.YtnanihpaifaceaaGreatDoor
