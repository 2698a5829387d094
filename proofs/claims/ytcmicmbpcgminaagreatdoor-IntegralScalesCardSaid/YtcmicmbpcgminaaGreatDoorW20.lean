import Derived.Test.YtcmicmbpcgminaaGreatDoorW19
import Derived.Test.YtcmicmbpcgminaaGreatDoorLeP
set_option linter.unusedVariables false
set_option linter.unusedSimpArgs false
namespace Go.LE
open Go Go.Proofs
structure OpsN where
  fits : Int → BitVec 128 → Prop
  isF : Int → Prop
  knw : Int → BitVec 128 → Prop
  sml : Nat → Prop
  wd : Int → Nat → BitVec 128
  pl : Int → BitVec 128 → Nat
  w512 : Nat → W
  g16 : Nat → Bool
  c28 : Int → BitVec 128 → BitVec 128 → Int
  isK : Int → BitVec 128 → Bool
  wgt : Int → BitVec 128 → Bool → Int
  nx : Int → Bool → BitVec 128 → BitVec 128
  onx : Int → BitVec 128 → Bool → BitVec 128
  amt : Int → BitVec 128 → W
  lt0 : Int → BitVec 128 → Bool
noncomputable def ropsN : OpsN where
  fits := fun f w => fFits f w = true
  isF := fun f => 1 ≤ f ∧ f ≤ 4
  knw := fun f w => 3 ≤ cls f w
  sml := small
  wd := wdN
  pl := plN
  w512 := w512
  g16 := fun n => cmpR .gtr ((dig n).length : Int) 16
  c28 := c28
  isK := fun f w => decide (3 ≤ cls f w)
  wgt := wgt
  nx := fun f up w => nxR f up 3 w
  onx := onx
  amt := fun f w => BitVec.ofNat 512 (magN f w)
  lt0 := fun f w => wNeg f w && !decide (magN f w = 0)
def s_wide02 (S : OpsN) : List LV → R LV
  | [.big a] => .ok (.tup [.wide (S.w512 a), .bool (S.g16 a)])
  | _ => .fail
def s_place28 (S : OpsN) : List LV → R LV
  | [.int _ f, .word w] => .req (S.fits f w) (.ok (.big (S.pl f w)))
  | _ => .fail
def s_word28 (S : OpsN) : List LV → R LV
  | [.int _ f, .big a] => .req (S.isF f) (.req (S.sml a) (.ok (.word (S.wd f a))))
  | _ => .fail
def s_known28 (S : OpsN) : List LV → R LV
  | [.int _ f, .word w] => .ok (.bool (S.isK f w))
  | _ => .fail
def s_weight28 (S : OpsN) : List LV → R LV
  | [.int _ f, .word w, .bool b] => .ok (.int .i64 (S.wgt f w b))
  | _ => .fail
def s_cmp28 (S : OpsN) : List LV → R LV
  | [.int _ f, .word a, .word b] => .req (S.knw f a) (.req (S.knw f b) (.ok (.int .i64 (S.c28 f a b))))
  | _ => .fail
def s_next28 (S : OpsN) : List LV → R LV
  | [.int _ f, .word w, .bool up] => .req (S.knw f w) (.ok (.word (S.nx f up w)))
  | _ => .fail
def s_amount (S : OpsN) : List LV → R LV
  | [.int _ f, .word w] => .req (S.fits f w) (.ok (.tup [.wide (S.amt f w), .bool (S.lt0 f w)]))
  | _ => .fail
def s_next (S : OpsN) : List LV → R LV
  | [.int _ f, .word w, .bool up] => .ok (.tup [.word (S.onx f w up), .bool (S.isK f w)])
  | _ => .fail
def s_awake28 (_ : OpsN) : List LV → R LV := fun _ => .ok (.bool true)
def s_OrderNext (_ : OpsN) : List LV → R LV := fun _ => .ok (.bool true)
theorem p_power02 : SpecOk Tryz.prog globs 188 (mkSpec real [.int .i64] (s_power02 ropsK)) := by
  have hfns : FnsOk Tryz.prog globs [(57, .spec (mkSpec real [.int .u64] (s_small01 ropsH))), (56, .spec (mkSpec real [.big, .int .i64] (s_shl01 ropsH)))] := (fnsCons (fnSpec (p_small01)) (fnsCons (fnSpec (p_shl01)) fnsNil))
  refine spec0 hfns (by kernel_rfl) Tryz.func188 (by kernel_rfl) (by kernel_rfl) (by kernel_rfl) 4 _ _ (.big) ?_
  clear hfns
  generalize hEE : env0 [(57, .spec (mkSpec real [.int .u64] (s_small01 ropsH))), (56, .spec (mkSpec real [.big, .int .i64] (s_shl01 ropsH)))] = EE
  intro l r hl hr
  simp only [Forms, Form] at hl
  obtain ⟨_, _, rfl, ⟨x1, rfl, x1lo, x1hi⟩, rfl⟩ := hl
  subst hEE
  generalize hK : kR (.big) r = K
  generalize hO : real = O
  generalize hS0 : rops = S0
  generalize hS1 : ropsB = S1
  generalize hS2 : ropsC = S2
  generalize hS3 : ropsD = S3
  generalize hS4 : ropsE = S4
  generalize hS5 : ropsF = S5
  generalize hS6 : ropsG = S6
  generalize hS7 : ropsH = S7
  generalize hS8 : ropsI = S8
  generalize hS9 : ropsJ = S9
  generalize hS10 : ropsK = S10
  generalize hS11 : ropsL = S11
  generalize hS12 : ropsM = S12
  generalize hS13 : ropsN = S13
  set_option maxRecDepth 100000 in cbv
  subst hO hK hS0 hS1 hS2 hS3 hS4 hS5 hS6 hS7 hS8 hS9 hS10 hS11 hS12 hS13
  simp only [s_power02, R.Y] at hr
  try dsimp only [real, rops, ropsB, ropsC, ropsD, ropsE, ropsF, ropsG, ropsH, ropsI, ropsJ, ropsK, ropsL, ropsM, ropsN]
  obtain ⟨hq, hr⟩ := hr
  subst hr
  refine ⟨small_lt (k := 1) (by decide) (by decide), hq, ?_⟩
  simp only [kR, canon, canons, ekEq, numE, getW, getWord, allInts8, asInt, isK, kindEq, isArgB, strOf, cBig, cInts, cWords, allInts, allWords, r_ofLimbs, r_mkWord, Option.some.injEq, LV.wide.injEq, LV.word.injEq, LV.int.injEq, LV.bool.injEq, LV.str.injEq, LV.big.injEq, LV.tup.injEq, LV.agg.injEq, List.cons.injEq, and_true, true_and]
  show Int.toNat 1 * 2 ^ x1.toNat = 2 ^ x1.toNat
  rw [show Int.toNat 1 = 1 from rfl, Nat.one_mul]
end Go.LE