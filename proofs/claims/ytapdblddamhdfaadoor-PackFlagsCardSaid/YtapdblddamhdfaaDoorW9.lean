import Derived.Test.YtapdblddamhdfaaDoorW8
import Derived.Test.YtapdblddamhdfaaDoorLeN
set_option linter.unusedVariables false
set_option linter.unusedSimpArgs false
namespace Go.LE
open Go Go.Proofs
structure OpsC where
  isF : Int → Prop
  fld : Int → BitVec 128 → Int
  frc : Int → BitVec 128 → W
  wneg : Int → BitVec 128 → Bool
  wfld : Int → BitVec 128 → Int
  wfrc : Int → BitVec 128 → W
  cls : Int → BitVec 128 → Int
  sgn : Int → BitVec 128 → Bool → BitVec 128
noncomputable def ropsC : OpsC where
  isF := fun f => 1 ≤ f ∧ f ≤ 4
  fld := bFld
  frc := bFrc
  wneg := wNeg
  wfld := wFld
  wfrc := wFrc
  cls := cls
  sgn := sgn
def s_field06 (S : OpsC) : List LV → R LV
  | [.int _ f, .word w] => .req (S.isF f) (.ok (.int .i64 (S.fld f w)))
  | _ => .fail
def s_frac06 (S : OpsC) : List LV → R LV
  | [.int _ f, .word w] => .req (S.isF f) (.ok (.wide (S.frc f w)))
  | _ => .fail
def s_neg06 (S : OpsC) : List LV → R LV
  | [.int _ f, .word w] => .ok (.bool (S.wneg f w))
  | _ => .fail
def s_class06 (S : OpsC) : List LV → R LV
  | [.int _ f, .word w] => .ok (.int .i64 (S.cls f w))
  | _ => .fail
def s_signed06 (S : OpsC) : List LV → R LV
  | [.int _ f, .word w, .bool b] => .req (S.isF f) (.ok (.word (S.sgn f w b)))
  | _ => .fail
end Go.LE