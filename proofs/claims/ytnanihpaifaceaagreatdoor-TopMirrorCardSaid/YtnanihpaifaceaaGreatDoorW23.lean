import Derived.Test.YtnanihpaifaceaaGreatDoorW22
import Derived.Test.YtnanihpaifaceaaGreatDoorLeQ
set_option linter.unusedVariables false
set_option linter.unusedSimpArgs false
namespace Go.LE
open Go Go.Proofs
structure OpsR where
  fits : Int → BitVec 128 → Bool
  neg : Int → BitVec 128 → Bool
  plW : Int → BitVec 128 → W
  osg : W → Bool → W → Bool → Int
  tot : Int → BitVec 128 → BitVec 128 → Int
  kn2 : Int → BitVec 128 → BitVec 128 → Bool
  cmpO : Int → BitVec 128 → BitVec 128 → Int
  stepW : Int → BitVec 128 → BitVec 128 → W
  minO : Int → BitVec 128 → BitVec 128 → BitVec 128
  maxO : Int → BitVec 128 → BitVec 128 → BitVec 128
  kY : Int → BitVec 128 → BitVec 128 → Prop
  kN : Int → BitVec 128 → BitVec 128 → Prop
noncomputable def ropsR : OpsR where
  fits := fFits
  neg := wNeg
  plW := plW
  osg := osg
  tot := totI
  kn2 := kn2
  cmpO := cmpO
  stepW := stepW
  minO := minO
  maxO := maxO
  kY := fun f a b => kn2 f a b = true
  kN := fun f a b => kn2 f a b = false
def s_place (S : OpsR) : List LV → R LV
  | [.int _ f, .word w] => .ok (.tup [.wide (S.plW f w), .bool (S.neg f w), .bool (S.fits f w)])
  | _ => .fail
def s_osign (S : OpsR) : List LV → R LV
  | [.wide a, .bool n, .wide b, .bool l] => .ok (.int .i64 (S.osg a n b l))
  | _ => .fail
def s_total (S : OpsR) : List LV → R LV
  | [.int _ f, .word a, .word b] => .ok (.int .i64 (S.tot f a b))
  | _ => .fail
def s_comp (S : OpsR) : List LV → R LV
  | [.int _ f, .word a, .word b] => .ok (.tup [.int .i64 (S.cmpO f a b), .bool (S.kn2 f a b)])
  | _ => .fail
def s_steps (S : OpsR) : List LV → R LV
  | [.int _ f, .word a, .word b] => .ok (.tup [.wide (S.stepW f a b), .bool (S.kn2 f a b)])
  | _ => .fail
def s_omin (S : OpsR) : List LV → R LV
  | [.int _ f, .word a, .word b] => .ok (.tup [.word (S.minO f a b), .bool (S.kn2 f a b)])
  | _ => .fail
def s_omax (S : OpsR) : List LV → R LV
  | [.int _ f, .word a, .word b] => .ok (.tup [.word (S.maxO f a b), .bool (S.kn2 f a b)])
  | _ => .fail
def s_OrderPlaces (_ : OpsR) : List LV → R LV := fun _ => .ok (.bool true)
def s_OrderCompares (_ : OpsR) : List LV → R LV := fun _ => .ok (.bool true)
def s_OrderSteps (_ : OpsR) : List LV → R LV := fun _ => .ok (.bool true)
def s_OrderWalks (_ : OpsR) : List LV → R LV := fun _ => .ok (.bool true)
def s_compY (S : OpsR) : List LV → R LV
  | [.int _ f, .word a, .word b] => .req (S.kY f a b) (.ok (.tup [.int .i64 (S.cmpO f a b), .blit true]))
  | _ => .fail
def s_ominY (S : OpsR) : List LV → R LV
  | [.int _ f, .word a, .word b] => .req (S.kY f a b) (.ok (.tup [.word (S.minO f a b), .blit true]))
  | _ => .fail
def s_omaxY (S : OpsR) : List LV → R LV
  | [.int _ f, .word a, .word b] => .req (S.kY f a b) (.ok (.tup [.word (S.maxO f a b), .blit true]))
  | _ => .fail
def s_compN (S : OpsR) : List LV → R LV
  | [.int _ f, .word a, .word b] => .req (S.kN f a b) (.ok (.tup [.lit .i64 0, .blit false]))
  | _ => .fail
def s_ominN (S : OpsR) : List LV → R LV
  | [.int _ f, .word a, .word b] => .req (S.kN f a b) (.ok (.tup [.word (S.minO f a b), .blit false]))
  | _ => .fail
def s_omaxN (S : OpsR) : List LV → R LV
  | [.int _ f, .word a, .word b] => .req (S.kN f a b) (.ok (.tup [.word (S.maxO f a b), .blit false]))
  | _ => .fail
def s_known28Y (S : OpsN) : List LV → R LV
  | [.int _ f, .word w] => .req (S.knw f w) (.ok (.blit true))
  | _ => .fail
theorem same_two {k : LV} {b : Bool} : Same (.tup [k, .bool b]) (.tup [k, .blit b]) := fun ρ w v h => by
  simp only [VV, VVs] at h ⊢
  obtain ⟨vs, h0, h1⟩ := h
  refine ⟨vs, h0, ?_⟩
  match vs, h1 with
  | [a, c], h1 => simpa only [VVs, VV] using h1
theorem same_zero {k : IntKind} {b : Bool} : Same (.tup [.int k 0, .bool b]) (.tup [.lit k 0, .blit b]) := fun ρ w v h => by
  simp only [VV, VVs] at h ⊢
  obtain ⟨vs, h0, h1⟩ := h
  refine ⟨vs, h0, ?_⟩
  match vs, h1 with
  | [a, c], h1 => simpa only [VVs, VV] using h1
def s_OrderComparesY (S : OpsR) : List LV → R LV
  | [.int _ f, .word a, .word b] => .req (S.kY f a b) (.ok (.bool true))
  | _ => .fail
def s_OrderComparesN (S : OpsR) : List LV → R LV
  | [.int _ f, .word a, .word b] => .req (S.kN f a b) (.ok (.bool true))
  | _ => .fail
end Go.LE
namespace Go.LE
open Go Go.Proofs
def s_nextY (S : OpsN) : List LV → R LV
  | [.int _ f, .word w, .bool up] => .req (S.knw f w) (.ok (.tup [.word (S.onx f w up), .blit true]))
  | _ => .fail
def s_stepsY (S : OpsR) : List LV → R LV
  | [.int _ f, .word a, .word b] => .req (S.kY f a b) (.ok (.tup [.wide (S.stepW f a b), .blit true]))
  | _ => .fail
end Go.LE