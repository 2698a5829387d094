import Derived.Test.YtapdblddamhdfaaDoorW14
import Derived.Test.YtapdblddamhdfaaDoorLeP
set_option linter.unusedVariables false
set_option linter.unusedSimpArgs false
namespace Go.LE
open Go Go.Proofs
structure OpsL where
  fin : Int → BitVec 128 → Prop
  nof : Int → BitVec 128 → Prop
  vNeg : Int → BitVec 128 → Bool
  vExp : Int → BitVec 128 → Int
  vSig : Int → BitVec 128 → W
  vOk : Int → BitVec 128 → Bool
  uExp : Int → BitVec 128 → Int
  uSig : Int → BitVec 128 → W
  uOk : Int → BitVec 128 → Bool
  uNeg : Int → BitVec 128 → Bool
  sNeg : Bool → Int → W → Bool
  sExp : Int → W → Int
  sSig : Int → W → W
  top : Int → W → Int
  topOk : Int → W → Bool
  size : Nat → Int → Nat → Int → Int
  okN : Nat → Int → Prop
  pNeg : Bool → W → Bool
  pExp : Int → Int → W → Int
  pSig : Int → W → W
  pOk : W → Bool
noncomputable def ropsL : OpsL where
  fin := fun f w => wFin f w = true
  nof := fun f w => wFin f w = false
  vNeg := vNeg
  vExp := vExp
  vSig := vSig
  vOk := wFin
  uExp := uExp
  uSig := uSig
  uOk := uOk
  uNeg := uNeg
  sNeg := shNeg
  sExp := shExp
  sSig := shSig
  top := topE
  topOk := topOk
  size := sizeN
  okN := okN
  pNeg := upNeg
  pExp := upExp
  pSig := upSig
  pOk := upOk
def s_valueP (_ : OpsL) : List LV → R LV
  | [_, .agg [.bool b, .int _ e, .wide s]] => .ok (.tup [.agg [.bool b, .int .i64 e, .wide s], .bool true])
  | _ => .fail
def s_unpackP (S : OpsL) : List LV → R LV
  | [.agg [_, .int _ p, _, _, _], .agg [.bool b, .int _ e, .wide s]] => .ok (.tup [.agg [.bool (S.pNeg b s), .int .i64 (S.pExp p e s), .wide (S.pSig p s)], .bool (S.pOk s)])
  | _ => .fail
def s_value (S : OpsL) : List LV → R LV
  | [.int _ f, .word w] => .ok (.tup [.agg [.bool (S.vNeg f w), .int .i64 (S.vExp f w), .wide (S.vSig f w)], .bool (S.vOk f w)])
  | _ => .fail
def s_unpack (S : OpsL) : List LV → R LV
  | [.int _ f, .word w] => .ok (.tup [.agg [.bool (S.uNeg f w), .int .i64 (S.uExp f w), .wide (S.uSig f w)], .bool (S.uOk f w)])
  | _ => .fail
def s_short (S : OpsL) : List LV → R LV
  | [.agg [.bool b, .int _ e, .wide s]] => .ok (.agg [.bool (S.sNeg b e s), .int .i64 (S.sExp e s), .wide (S.sSig e s)])
  | _ => .fail
def s_top (S : OpsL) : List LV → R LV
  | [.agg [.bool _, .int _ e, .wide s]] => .ok (.tup [.int .i64 (S.top e s), .bool (S.topOk e s)])
  | _ => .fail
def s_of07 (S : OpsK) : List LV → R LV
  | [.agg [.bool b, .int _ e, .wide s]] => .ok (.agg [.bool b, .big (S.wn s), .int .i64 e])
  | _ => .fail
def s_size07 (S : OpsL) : List LV → R LV
  | [.agg [.bool _, .big a, .int _ e], .agg [.bool _, .big b, .int _ g]] => .req (S.okN a e) (.req (S.okN b g) (.ok (.int .i64 (S.size a e b g))))
  | _ => .fail
def s_awake07 (_ : OpsL) : List LV → R LV := fun _ => .ok (.bool true)
def s_UnpackShort (_ : OpsL) : List LV → R LV := fun _ => .ok (.bool true)
theorem min_if (x y : Int) : (if y < x then y else x) = min x y := by split <;> omega
def numT : Ty := .struct [.bool, .int .i64, .arr 8 (.int .u64)]
end Go.LE