import Derived.Test.YtnanihpaifaceaaGreatDoorW27
import Derived.Test.YtnanihpaifaceaaGreatDoorW13m
import Derived.Test.YtnanihpaifaceaaGreatDoorLeR
set_option linter.unusedVariables false
set_option linter.unusedSimpArgs false
namespace Go.LE
open Go Go.Proofs
structure OpsU where
  small : Nat → Prop
  mul : Nat → Nat → Nat
  odd : Nat → Bool
  rng : Int → Prop
  k1 : Int → Nat → Prop
  okN : Nat → Int → Prop
  more : W → Bool → Nat
  moreG : Int → Bool → Int
  size : Nat → Int → Nat → Int → Int
  eq1 : Int → Prop
  okR : Nat → Int → Prop
  top : Nat → Int → Int
  fits : Nat → Int → Int → Int → Prop
  flo : Nat → Int → Int → Nat
  res : Nat → Int → Int → Int
  up : Int → Bool → Nat → Int → Int → Nat
  upX : Nat → Int → Int → Bool
  isF : Int → Prop
  rdW : Int → Int → Bool → Nat → Int → BitVec 128
  rdX : Int → Int → Bool → Nat → Int → Int
noncomputable def ropsU : OpsU where
  small := small
  mul := fun a b => a * b
  odd := oddN
  rng := fun x => -1099511627776 ≤ x ∧ x ≤ 1099511627776
  k1 := fun k d => k = 1 ∧ d = 1
  okN := okN
  more := fun s more => moreA s.toNat more
  moreG := moreG
  size := sizeN
  eq1 := fun b => b = 1
  okR := okR
  top := topQ
  fits := fun a g p d => okR a g ∧ (-268435456 ≤ p ∧ p ≤ 268435456) ∧ (0 ≤ d ∧ d ≤ 268435456) ∧ floorQ a g p < 2 ^ d.toNat
  flo := floorQ
  res := restQ
  up := upQ
  upX := fun a g p => !decide (restQ a g p = 0)
  isF := fun f => 1 ≤ f ∧ f ≤ 4
  rdW := rdW
  rdX := rdX
def s_of09 (S : OpsU) : List LV → R LV
  | [.agg [.bool b, .int _ e, .wide s], .bool more] => .req (S.rng e) (.ok (.agg [.bool b, .int .i64 1, .big (S.more s more), .big 1, .int .i64 (S.moreG e more)]))
  | _ => .fail
def s_cmp09 (S : OpsU) : List LV → R LV
  | [.big m, .int _ k, .agg [.bool _, .int _ kd, .big a, .big d, .int _ g]] => .req (S.k1 kd d) (.req (S.okN m k) (.req (S.okN a g) (.ok (.int .i64 (S.size m k a g)))))
  | _ => .fail
def s_floor09 (S : OpsU) : List LV → R LV
  | [.int _ a, .int _ b] => .req (S.eq1 b) (.req (S.rng a) (.ok (.int .i64 a)))
  | _ => .fail
def s_top09 (S : OpsU) : List LV → R LV
  | [.agg [.bool _, .int _ kd, .big a, .big d, .int _ g]] => .req (S.k1 kd d) (.req (S.okR a g) (.ok (.int .i64 (S.top a g))))
  | _ => .fail
def s_down09 (S : OpsU) : List LV → R LV
  | [.agg [.bool _, .int _ kd, .big a, .big d, .int _ g], .int _ p, .int _ n] => .req (S.k1 kd d) (.req (S.fits a g p n) (.ok (.tup [.big (S.flo a g p), .int .i64 (S.res a g p)])))
  | _ => .fail
def s_at09 (S : OpsU) : List LV → R LV
  | [.agg [.bool b, .int _ kd, .big a, .big d, .int _ g], .int _ p, .int _ n, .int _ m] => .req (S.k1 kd d) (.req (S.fits a g p n) (.ok (.tup [.big (S.up m b a g p), .bool (S.upX a g p)])))
  | _ => .fail
def s_round09 (S : OpsU) : List LV → R LV
  | [.int _ f, .int _ m, .agg [.bool b, .int _ kd, .big a, .big d, .int _ g]] => .req (S.isF f) (.req (S.k1 kd d) (.req (S.okR a g) (.ok (.tup [.word (S.rdW f m b a g), .int .i64 (S.rdX f m b a g)]))))
  | _ => .fail
theorem quo_one {a : Int} (h : -9223372036854775808 ≤ a ∧ a ≤ 9223372036854775807) : arithR .quo .i64 a 1 = a := by
  show IntKind.i64.wrap (a.tdiv 1) = a
  rw [Int.tdiv_one, wrap_i64_of h.1 h.2]
def realT : Ty := .struct [.bool, .int .i64, .slice (.int .u32), .slice (.int .u32), .int .i64]
end Go.LE