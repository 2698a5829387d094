import Derived.Test.YtnanihpaifaceaaGreatDoorW19
import Derived.Test.YtnanihpaifaceaaGreatDoorLeP
set_option linter.unusedVariables false
set_option linter.unusedSimpArgs false
namespace Go.LE
open Go Go.Proofs
structure OpsN where
  fits : Int → BitVec 128 → Prop
  isF : Int → Prop
  knw : Int → BitVec 128 → Prop
  sml : Nat → Prop
  wd : Int → Nat → BitVec 128
  pl : Int → BitVec 128 → Nat
  w512 : Nat → W
  g16 : Nat → Bool
  c28 : Int → BitVec 128 → BitVec 128 → Int
  isK : Int → BitVec 128 → Bool
  wgt : Int → BitVec 128 → Bool → Int
  nx : Int → Bool → BitVec 128 → BitVec 128
  onx : Int → BitVec 128 → Bool → BitVec 128
  amt : Int → BitVec 128 → W
  lt0 : Int → BitVec 128 → Bool
noncomputable def ropsN : OpsN where
  fits := fun f w => fFits f w = true
  isF := fun f => 1 ≤ f ∧ f ≤ 4
  knw := fun f w => 3 ≤ cls f w
  sml := small
  wd := wdN
  pl := plN
  w512 := w512
  g16 := fun n => cmpR .gtr ((dig n).length : Int) 16
  c28 := c28
  isK := fun f w => decide (3 ≤ cls f w)
  wgt := wgt
  nx := fun f up w => nxR f up 3 w
  onx := onx
  amt := fun f w => BitVec.ofNat 512 (magN f w)
  lt0 := fun f w => wNeg f w && !decide (magN f w = 0)
def s_wide02 (S : OpsN) : List LV → R LV
  | [.big a] => .ok (.tup [.wide (S.w512 a), .bool (S.g16 a)])
  | _ => .fail
def s_place28 (S : OpsN) : List LV → R LV
  | [.int _ f, .word w] => .req (S.fits f w) (.ok (.big (S.pl f w)))
  | _ => .fail
def s_word28 (S : OpsN) : List LV → R LV
  | [.int _ f, .big a] => .req (S.isF f) (.req (S.sml a) (.ok (.word (S.wd f a))))
  | _ => .fail
def s_known28 (S : OpsN) : List LV → R LV
  | [.int _ f, .word w] => .ok (.bool (S.isK f w))
  | _ => .fail
def s_weight28 (S : OpsN) : List LV → R LV
  | [.int _ f, .word w, .bool b] => .ok (.int .i64 (S.wgt f w b))
  | _ => .fail
def s_cmp28 (S : OpsN) : List LV → R LV
  | [.int _ f, .word a, .word b] => .req (S.knw f a) (.req (S.knw f b) (.ok (.int .i64 (S.c28 f a b))))
  | _ => .fail
def s_next28 (S : OpsN) : List LV → R LV
  | [.int _ f, .word w, .bool up] => .req (S.knw f w) (.ok (.word (S.nx f up w)))
  | _ => .fail
def s_amount (S : OpsN) : List LV → R LV
  | [.int _ f, .word w] => .req (S.fits f w) (.ok (.tup [.wide (S.amt f w), .bool (S.lt0 f w)]))
  | _ => .fail
def s_next (S : OpsN) : List LV → R LV
  | [.int _ f, .word w, .bool up] => .ok (.tup [.word (S.onx f w up), .bool (S.isK f w)])
  | _ => .fail
def s_awake28 (_ : OpsN) : List LV → R LV := fun _ => .ok (.bool true)
def s_OrderNext (_ : OpsN) : List LV → R LV := fun _ => .ok (.bool true)
end Go.LE