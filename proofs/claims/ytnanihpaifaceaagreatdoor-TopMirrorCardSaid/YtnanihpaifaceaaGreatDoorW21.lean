import Derived.Test.YtnanihpaifaceaaGreatDoorW20
import Derived.Test.YtnanihpaifaceaaGreatDoorLeQ
set_option linter.unusedVariables false
set_option linter.unusedSimpArgs false
namespace Go.LE
open Go Go.Proofs
structure OpsP where
  isF : Int → Prop
  okN : Nat → Int → Prop
  rgt : Int → Prop
  fW : Int → Nat → Int → BitVec 128
  exW : Int → Bool → Int → W → BitVec 128
  exOk : Int → Int → W → Bool
noncomputable def ropsP : OpsP where
  isF := fun f => 1 ≤ f ∧ f ≤ 4
  okN := okN
  rgt := fun e => rgtE e = true
  fW := fun f a e => wM f (findM f a e)
  exW := exW
  exOk := exOk
def refT : Ty := .struct [.bool, .slice (.int .u32), .int .i64]
def s_find07 (S : OpsP) : List LV → R LV
  | [.int _ f, .agg [_, .big a, .int _ e]] => .req (S.isF f) (.req (S.okN a e) (.ok (.word (S.fW f a e))))
  | _ => .fail
def s_exact07 (S : OpsP) : List LV → R LV
  | [.int _ f, .agg [.bool b, .int _ e, .wide s]] => .req (S.isF f) (.req (S.rgt e) (.ok (.tup [.word (S.exW f b e s), .bool (S.exOk f e s)])))
  | _ => .fail
def s_exact (S : OpsP) : List LV → R LV
  | [.int _ f, .agg [.bool b, .int _ e, .wide s]] => .ok (.tup [.word (S.exW f b e s), .bool (S.exOk f e s)])
  | _ => .fail
def s_UnpackValues (_ : OpsP) : List LV → R LV := fun _ => .ok (.bool true)
def s_UnpackExact (_ : OpsP) : List LV → R LV := fun _ => .ok (.bool true)
end Go.LE