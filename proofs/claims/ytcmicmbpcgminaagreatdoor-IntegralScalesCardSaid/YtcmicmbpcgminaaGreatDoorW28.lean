import Derived.Test.YtcmicmbpcgminaaGreatDoorW27
import Derived.Test.YtcmicmbpcgminaaGreatDoorW13m
import Derived.Test.YtcmicmbpcgminaaGreatDoorLeR
set_option linter.unusedVariables false
set_option linter.unusedSimpArgs false
namespace Go.LE
open Go Go.Proofs
structure OpsU where
  small : Nat → Prop
  mul : Nat → Nat → Nat
  odd : Nat → Bool
  rng : Int → Prop
  k1 : Int → Nat → Prop
  okN : Nat → Int → Prop
  more : W → Bool → Nat
  moreG : Int → Bool → Int
  size : Nat → Int → Nat → Int → Int
  eq1 : Int → Prop
  okR : Nat → Int → Prop
  top : Nat → Int → Int
  fits : Nat → Int → Int → Int → Prop
  flo : Nat → Int → Int → Nat
  res : Nat → Int → Int → Int
  up : Int → Bool → Nat → Int → Int → Nat
  upX : Nat → Int → Int → Bool
  isF : Int → Prop
  rdW : Int → Int → Bool → Nat → Int → BitVec 128
  rdX : Int → Int → Bool → Nat → Int → Int
noncomputable def ropsU : OpsU where
  small := small
  mul := fun a b => a * b
  odd := oddN
  rng := fun x => -1099511627776 ≤ x ∧ x ≤ 1099511627776
  k1 := fun k d => k = 1 ∧ d = 1
  okN := okN
  more := fun s more => moreA s.toNat more
  moreG := moreG
  size := sizeN
  eq1 := fun b => b = 1
  okR := okR
  top := topQ
  fits := fun a g p d => okR a g ∧ (-268435456 ≤ p ∧ p ≤ 268435456) ∧ (0 ≤ d ∧ d ≤ 268435456) ∧ floorQ a g p < 2 ^ d.toNat
  flo := floorQ
  res := restQ
  up := upQ
  upX := fun a g p => !decide (restQ a g p = 0)
  isF := fun f => 1 ≤ f ∧ f ≤ 4
  rdW := rdW
  rdX := rdX
def s_of09 (S : OpsU) : List LV → R LV
  | [.agg [.bool b, .int _ e, .wide s], .bool more] => .req (S.rng e) (.ok (.agg [.bool b, .int .i64 1, .big (S.more s more), .big 1, .int .i64 (S.moreG e more)]))
  | _ => .fail
def s_cmp09 (S : OpsU) : List LV → R LV
  | [.big m, .int _ k, .agg [.bool _, .int _ kd, .big a, .big d, .int _ g]] => .req (S.k1 kd d) (.req (S.okN m k) (.req (S.okN a g) (.ok (.int .i64 (S.size m k a g)))))
  | _ => .fail
def s_floor09 (S : OpsU) : List LV → R LV
  | [.int _ a, .int _ b] => .req (S.eq1 b) (.req (S.rng a) (.ok (.int .i64 a)))
  | _ => .fail
def s_top09 (S : OpsU) : List LV → R LV
  | [.agg [.bool _, .int _ kd, .big a, .big d, .int _ g]] => .req (S.k1 kd d) (.req (S.okR a g) (.ok (.int .i64 (S.top a g))))
  | _ => .fail
def s_down09 (S : OpsU) : List LV → R LV
  | [.agg [.bool _, .int _ kd, .big a, .big d, .int _ g], .int _ p, .int _ n] => .req (S.k1 kd d) (.req (S.fits a g p n) (.ok (.tup [.big (S.flo a g p), .int .i64 (S.res a g p)])))
  | _ => .fail
def s_at09 (S : OpsU) : List LV → R LV
  | [.agg [.bool b, .int _ kd, .big a, .big d, .int _ g], .int _ p, .int _ n, .int _ m] => .req (S.k1 kd d) (.req (S.fits a g p n) (.ok (.tup [.big (S.up m b a g p), .bool (S.upX a g p)])))
  | _ => .fail
def s_round09 (S : OpsU) : List LV → R LV
  | [.int _ f, .int _ m, .agg [.bool b, .int _ kd, .big a, .big d, .int _ g]] => .req (S.isF f) (.req (S.k1 kd d) (.req (S.okR a g) (.ok (.tup [.word (S.rdW f m b a g), .int .i64 (S.rdX f m b a g)]))))
  | _ => .fail
theorem p_of09 : SpecOk Tryz.prog globs 61 (mkSpec real [.st [.bool, .int .i64, .wide], .bool] (s_of09 ropsU)) := by
  have hfns : FnsOk Tryz.prog globs [(20, .spec (mkSpec real [.wide] (s_big02 ropsK))), (57, .spec (mkSpec real [.int .u64] (s_small01 ropsH))), (56, .spec (mkSpec real [.big, .int .i64] (s_shl01 ropsH))), (55, .spec (mkSpec real [.big, .big] (s_add01 ropsH)))] := (fnsCons (fnSpec (p_big02)) (fnsCons (fnSpec (p_small01)) (fnsCons (fnSpec (p_shl01)) (fnsCons (fnSpec (p_add01)) fnsNil))))
  refine spec0 hfns (by kernel_rfl) Tryz.func61 (by kernel_rfl) (by kernel_rfl) (by kernel_rfl) 4 _ _ (.st [.bool, .int .i64, .big, .big, .int .i64]) ?_
  clear hfns
  generalize hEE : env0 [(20, .spec (mkSpec real [.wide] (s_big02 ropsK))), (57, .spec (mkSpec real [.int .u64] (s_small01 ropsH))), (56, .spec (mkSpec real [.big, .int .i64] (s_shl01 ropsH))), (55, .spec (mkSpec real [.big, .big] (s_add01 ropsH)))] = EE
  intro l r hl hr
  simp only [Forms, Form] at hl
  obtain ⟨_, _, rfl, ⟨_, rfl, ⟨_, _, rfl, ⟨x1_1, rfl⟩, _, _, rfl, ⟨x1_2, rfl, x1_2lo, x1_2hi⟩, _, _, rfl, ⟨x1_3, rfl⟩, rfl⟩⟩, _, _, rfl, ⟨x2, rfl⟩, rfl⟩ := hl
  subst hEE
  generalize hK : kR (.st [.bool, .int .i64, .big, .big, .int .i64]) r = K
  generalize hO : real = O
  generalize hS0 : rops = S0
  generalize hS1 : ropsB = S1
  generalize hS2 : ropsC = S2
  generalize hS3 : ropsD = S3
  generalize hS4 : ropsE = S4
  generalize hS5 : ropsF = S5
  generalize hS6 : ropsG = S6
  generalize hS7 : ropsH = S7
  generalize hS8 : ropsI = S8
  generalize hS9 : ropsJ = S9
  generalize hS10 : ropsK = S10
  generalize hS11 : ropsL = S11
  generalize hS12 : ropsM = S12
  generalize hS13 : ropsN = S13
  generalize hS14 : ropsP = S14
  generalize hS15 : ropsQ = S15
  generalize hS16 : ropsT = S16
  generalize hS17 : ropsUm = S17
  generalize hS18 : ropsU = S18
  set_option maxRecDepth 100000 in cbv
  subst hO hK hS0 hS1 hS2 hS3 hS4 hS5 hS6 hS7 hS8 hS9 hS10 hS11 hS12 hS13 hS14 hS15 hS16 hS17 hS18
  simp only [s_of09, R.Y] at hr
  try dsimp only [real, rops, ropsB, ropsC, ropsD, ropsE, ropsF, ropsG, ropsH, ropsI, ropsJ, ropsK, ropsL, ropsM, ropsN, ropsP, ropsQ, ropsT, ropsUm, ropsU]
  obtain ⟨he, hr⟩ := hr
  subst hr
  replace he : -1099511627776 ≤ x1_2 ∧ x1_2 ≤ 1099511627776 := he
  dsimp only [real, ropsU, ropsK, ropsH]
  have hs := small_wide x1_3
  have hs2 : small (x1_3.toNat * 2 ^ Int.toNat 1) := by
    refine small_bits (k := 17) ?_ (by decide)
    have := x1_3.isLt
    rw [bitN_le, show Int.toNat 1 = 1 from rfl]
    omega
  have h1 : Int.toNat 1 = 1 := rfl
  refine ⟨imp_f fun h => ⟨hs, by decide, hs2, small_lt (k := 1) (by decide) (by decide), ?_⟩, imp_t fun h => ?_⟩
  · subst h
    rw [sub_i64 (by omega) (by omega)]
    simp only [kR, canon, canons, ekEq, numE, getW, getWord, allInts8, asInt, isK, kindEq, isArgB, strOf, cBig, cInts, cWords, allInts, allWords, r_ofLimbs, r_mkWord, Option.some.injEq, LV.wide.injEq, LV.word.injEq, LV.int.injEq, LV.bool.injEq, LV.str.injEq, LV.big.injEq, LV.tup.injEq, LV.agg.injEq, List.cons.injEq, and_true, true_and]
    unfold moreA moreG
    refine ⟨?_, rfl, rfl⟩
    rw [h1]
    show _ = 2 * x1_3.toNat + 1
    omega
  · subst h
    simp only [kR, canon, canons, ekEq, numE, getW, getWord, allInts8, asInt, isK, kindEq, isArgB, strOf, cBig, cInts, cWords, allInts, allWords, r_ofLimbs, r_mkWord, Option.some.injEq, LV.wide.injEq, LV.word.injEq, LV.int.injEq, LV.bool.injEq, LV.str.injEq, LV.big.injEq, LV.tup.injEq, LV.agg.injEq, List.cons.injEq, and_true, true_and]
    exact ⟨rfl, rfl, rfl⟩
theorem quo_one {a : Int} (h : -9223372036854775808 ≤ a ∧ a ≤ 9223372036854775807) : arithR .quo .i64 a 1 = a := by
  show IntKind.i64.wrap (a.tdiv 1) = a
  rw [Int.tdiv_one, wrap_i64_of h.1 h.2]
theorem p_floor09 : SpecOk Tryz.prog globs 157 (mkSpec real [.int .i64, .int .i64] (s_floor09 ropsU)) := by
  have hfns : FnsOk Tryz.prog globs [] := fnsNil
  refine spec0 hfns (by kernel_rfl) Tryz.func157 (by kernel_rfl) (by kernel_rfl) (by kernel_rfl) 4 _ _ (.int .i64) ?_
  clear hfns
  generalize hEE : env0 [] = EE
  intro l r hl hr
  simp only [Forms, Form] at hl
  obtain ⟨_, _, rfl, ⟨x1, rfl, x1lo, x1hi⟩, _, _, rfl, ⟨x2, rfl, x2lo, x2hi⟩, rfl⟩ := hl
  subst hEE
  generalize hK : kR (.int .i64) r = K
  generalize hO : real = O
  set_option maxRecDepth 100000 in cbv
  subst hO hK 
  simp only [s_floor09, R.Y] at hr
  try dsimp only [real, rops, ropsB, ropsC, ropsD, ropsE, ropsF, ropsG, ropsH, ropsI, ropsJ, ropsK, ropsL, ropsM, ropsN, ropsP, ropsQ, ropsT, ropsUm, ropsU]
  obtain ⟨hb, ha, hr⟩ := hr
  subst hr
  replace hb : x2 = 1 := hb
  replace ha : -1099511627776 ≤ x1 ∧ x1 ≤ 1099511627776 := ha
  subst hb
  have e1 : unR .neg .i64 x1 = -x1 := neg_i64 (by omega)
  have e2 : arithR .add .i64 (-x1) 1 = -x1 + 1 := add_i64 (by omega) (by omega)
  have e3 : arithR .sub .i64 (-x1 + 1) 1 = -x1 := by rw [sub_i64 (by omega) (by omega)]; omega
  have e4 : arithR .quo .i64 (-x1) 1 = -x1 := quo_one (by omega)
  have e5 : arithR .quo .i64 x1 1 = x1 := quo_one (by omega)
  have e6 : unR .neg .i64 (-x1) = x1 := by rw [neg_i64 (by omega)]; omega
  rw [e1, e2, e3, e4, e5, e6]
  refine ⟨imp_f fun h => ⟨by decide, ?_⟩, imp_t fun h => ⟨by decide, ?_⟩⟩
  · simp only [kR, canon, canons, ekEq, numE, getW, getWord, allInts8, asInt, isK, kindEq, isArgB, strOf, cBig, cInts, cWords, allInts, allWords, r_ofLimbs, r_mkWord, Option.some.injEq, LV.wide.injEq, LV.word.injEq, LV.int.injEq, LV.bool.injEq, LV.str.injEq, LV.big.injEq, LV.tup.injEq, LV.agg.injEq, List.cons.injEq, and_true, true_and]
  · simp only [kR, canon, canons, ekEq, numE, getW, getWord, allInts8, asInt, isK, kindEq, isArgB, strOf, cBig, cInts, cWords, allInts, allWords, r_ofLimbs, r_mkWord, Option.some.injEq, LV.wide.injEq, LV.word.injEq, LV.int.injEq, LV.bool.injEq, LV.str.injEq, LV.big.injEq, LV.tup.injEq, LV.agg.injEq, List.cons.injEq, and_true, true_and]
theorem p_cmp09 : SpecOk Tryz.prog globs 158 (mkSpec real [.big, .int .i64, .st [.bool, .int .i64, .big, .big, .int .i64]] (s_cmp09 ropsU)) := by
  have hfns : FnsOk Tryz.prog globs [(187, .spec (mkSpec real [.big, .big] (s_mul01 ropsUm))), (36, .spec (mkSpec real [.st [.bool, .big, .int .i64], .st [.bool, .big, .int .i64]] (s_size07 ropsL)))] := (fnsCons (fnSpec (p_mul01)) (fnsCons (fnSpec (p_size07)) fnsNil))
  refine spec0 hfns (by kernel_rfl) Tryz.func158 (by kernel_rfl) (by kernel_rfl) (by kernel_rfl) 4 _ _ (.int .i64) ?_
  clear hfns
  generalize hEE : env0 [(187, .spec (mkSpec real [.big, .big] (s_mul01 ropsUm))), (36, .spec (mkSpec real [.st [.bool, .big, .int .i64], .st [.bool, .big, .int .i64]] (s_size07 ropsL)))] = EE
  intro l r hl hr
  simp only [Forms, Form] at hl
  obtain ⟨_, _, rfl, ⟨x1, rfl, x1len⟩, _, _, rfl, ⟨x2, rfl, x2lo, x2hi⟩, _, _, rfl, ⟨_, rfl, ⟨_, _, rfl, ⟨x3_1, rfl⟩, _, _, rfl, ⟨x3_2, rfl, x3_2lo, x3_2hi⟩, _, _, rfl, ⟨x3_3, rfl, x3_3len⟩, _, _, rfl, ⟨x3_4, rfl, x3_4len⟩, _, _, rfl, ⟨x3_5, rfl, x3_5lo, x3_5hi⟩, rfl⟩⟩, rfl⟩ := hl
  subst hEE
  generalize hK : kR (.int .i64) r = K
  generalize hO : real = O
  generalize hS0 : rops = S0
  generalize hS1 : ropsB = S1
  generalize hS2 : ropsC = S2
  generalize hS3 : ropsD = S3
  generalize hS4 : ropsE = S4
  generalize hS5 : ropsF = S5
  generalize hS6 : ropsG = S6
  generalize hS7 : ropsH = S7
  generalize hS8 : ropsI = S8
  generalize hS9 : ropsJ = S9
  generalize hS10 : ropsK = S10
  generalize hS11 : ropsL = S11
  generalize hS12 : ropsM = S12
  generalize hS13 : ropsN = S13
  generalize hS14 : ropsP = S14
  generalize hS15 : ropsQ = S15
  generalize hS16 : ropsT = S16
  generalize hS17 : ropsUm = S17
  generalize hS18 : ropsU = S18
  set_option maxRecDepth 100000 in cbv
  subst hO hK hS0 hS1 hS2 hS3 hS4 hS5 hS6 hS7 hS8 hS9 hS10 hS11 hS12 hS13 hS14 hS15 hS16 hS17 hS18
  simp only [s_cmp09, R.Y] at hr
  try dsimp only [real, rops, ropsB, ropsC, ropsD, ropsE, ropsF, ropsG, ropsH, ropsI, ropsJ, ropsK, ropsL, ropsM, ropsN, ropsP, ropsQ, ropsT, ropsUm, ropsU]
  obtain ⟨⟨hk, hd⟩, h1, h2, hr⟩ := hr
  subst hr hk hd
  refine ⟨imp_f fun h => by rw [c_eql_t] at h; omega, imp_t fun _ => ⟨imp_f fun h => by rw [c_eql_t] at h; omega, imp_t fun _ => ⟨okN_small h1, small_lt (k := 1) (by decide) (by decide), by rw [Nat.mul_one]; exact h1, h2, ?_⟩⟩⟩
  rw [Nat.mul_one]
  simp only [kR, canon, canons, ekEq, numE, getW, getWord, allInts8, asInt, isK, kindEq, isArgB, strOf, cBig, cInts, cWords, allInts, allWords, r_ofLimbs, r_mkWord, Option.some.injEq, LV.wide.injEq, LV.word.injEq, LV.int.injEq, LV.bool.injEq, LV.str.injEq, LV.big.injEq, LV.tup.injEq, LV.agg.injEq, List.cons.injEq, and_true, true_and]
  rfl
def realT : Ty := .struct [.bool, .int .i64, .slice (.int .u32), .slice (.int .u32), .int .i64]
theorem p_top09 : SpecOk Tryz.prog globs 110 (mkSpec real [.st [.bool, .int .i64, .big, .big, .int .i64]] (s_top09 ropsU)) := by
  have hfns : FnsOk Tryz.prog globs [(19, .spec (mkSpec real [.big] (s_len01 ropsH))), (157, .spec (mkSpec real [.int .i64, .int .i64] (s_floor09 ropsU))), (57, .spec (mkSpec real [.int .u64] (s_small01 ropsH))), (158, .spec (mkSpec real [.big, .int .i64, .st [.bool, .int .i64, .big, .big, .int .i64]] (s_cmp09 ropsU)))] := (fnsCons (fnSpec (p_len01)) (fnsCons (fnSpec (p_floor09)) (fnsCons (fnSpec (p_small01)) (fnsCons (fnSpec (p_cmp09)) fnsNil))))
  refine specL (fun _ => [1,3]) hfns (by kernel_rfl) Tryz.func110 (by kernel_rfl) (by kernel_rfl) (by kernel_rfl) 4 _ _ (.int .i64) ?_
  clear hfns
  generalize hEE : envL (fun _ => [1,3]) [(19, .spec (mkSpec real [.big] (s_len01 ropsH))), (157, .spec (mkSpec real [.int .i64, .int .i64] (s_floor09 ropsU))), (57, .spec (mkSpec real [.int .u64] (s_small01 ropsH))), (158, .spec (mkSpec real [.big, .int .i64, .st [.bool, .int .i64, .big, .big, .int .i64]] (s_cmp09 ropsU)))] = EE
  intro l r hl hr
  simp only [Forms, Form] at hl
  obtain ⟨_, _, rfl, ⟨_, rfl, ⟨_, _, rfl, ⟨x1_1, rfl⟩, _, _, rfl, ⟨x1_2, rfl, x1_2lo, x1_2hi⟩, _, _, rfl, ⟨x1_3, rfl, x1_3len⟩, _, _, rfl, ⟨x1_4, rfl, x1_4len⟩, _, _, rfl, ⟨x1_5, rfl, x1_5lo, x1_5hi⟩, rfl⟩⟩, rfl⟩ := hl
  subst hEE
  generalize hK : kR (.int .i64) r = K
  generalize hO : real = O
  generalize hS0 : rops = S0
  generalize hS1 : ropsB = S1
  generalize hS2 : ropsC = S2
  generalize hS3 : ropsD = S3
  generalize hS4 : ropsE = S4
  generalize hS5 : ropsF = S5
  generalize hS6 : ropsG = S6
  generalize hS7 : ropsH = S7
  generalize hS8 : ropsI = S8
  generalize hS9 : ropsJ = S9
  generalize hS10 : ropsK = S10
  generalize hS11 : ropsL = S11
  generalize hS12 : ropsM = S12
  generalize hS13 : ropsN = S13
  generalize hS14 : ropsP = S14
  generalize hS15 : ropsQ = S15
  generalize hS16 : ropsT = S16
  generalize hS17 : ropsUm = S17
  generalize hS18 : ropsU = S18
  set_option maxRecDepth 100000 in cbv
  simp only [s_top09, R.Y] at hr
  obtain ⟨hk, ho, hr⟩ := hr
  subst hO hK hS0 hS1 hS2 hS3 hS4 hS5 hS6 hS7 hS8 hS9 hS10 hS11 hS12 hS13 hS14 hS15 hS16 hS17 hS18
  subst hr
  obtain ⟨hk, hd⟩ := hk
  subst hk hd
  have ho : okR x1_3 x1_5 := ho
  obtain ⟨ho1, ho2⟩ := okR_ok ho
  obtain ⟨hne, hb, hg1, hg2⟩ := id ho
  have hb1 := bitN_pos hne
  have l1 : lenN x1_3 = ((bitN x1_3 : Nat) : Int) := rfl
  have l2 : lenN 1 = 1 := rfl
  have hT : topQ x1_3 x1_5 = x1_5 + (bitN x1_3 : Int) - 1 := rfl
  have hTr := okR_top ho
  have e0 : real.arith .sub .i64 (real.arith .add .i64 (ropsH.len x1_3) x1_5) (ropsH.len 1) = topQ x1_3 x1_5 := by
    show arithR .sub .i64 (arithR .add .i64 (lenN x1_3) x1_5) (lenN 1) = _
    rw [l1, l2, add_i64 (by omega) (by omega), sub_i64 (by omega) (by omega), hT]
    omega
  have e1 : real.arith .add .i64 (topQ x1_3 x1_5) 3 = topQ x1_3 x1_5 + 3 := add_i64 (by omega) (by omega)
  refine ⟨ho2, small_lt (k := 1) (by decide) (by decide), rfl, ?_, ?_⟩
  · show -1099511627776 ≤ real.arith .sub .i64 (real.arith .add .i64 (ropsH.len x1_3) x1_5) (ropsH.len 1) ∧ real.arith .sub .i64 (real.arith .add .i64 (ropsH.len x1_3) x1_5) (ropsH.len 1) ≤ 1099511627776
    rw [e0]; omega
  refine loop_rule (α := Int) (fun e => ⟨[.undef, .ptr 0 0, .undef, .int .i64 e, .undef, .undef, .undef, .undef, .undef, .undef, .undef, .undef, .undef, .undef, .undef, .undef, .undef, .undef, .undef, .undef, .undef, .undef, .undef, .undef, .undef, .undef, .undef], ofL [some (realT, .agg [.bool x1_1, .int .i64 1, .big x1_3, .big 1, .int .i64 x1_5]), none, none, none, none, none, none, none, none, none, none, none, none, none, none, none, none, none, none], 19⟩)
    (fun m e => topQ x1_3 x1_5 ≤ e ∧ e - topQ x1_3 x1_5 ≤ ((m : Nat) : Int) ∧ e ≤ topQ x1_3 x1_5 + 3) ?_ 3 _ ?_
  · rintro m e X ⟨h1, h2, h3⟩ hX
    (generalize hK : kR _ _ = K; generalize hO : real = O; generalize hS0 : rops = S0; generalize hS1 : ropsB = S1; generalize hS2 : ropsC = S2; generalize hS3 : ropsD = S3; generalize hS4 : ropsE = S4; generalize hS5 : ropsF = S5; generalize hS6 : ropsG = S6; generalize hS7 : ropsH = S7; generalize hS8 : ropsI = S8; generalize hS9 : ropsJ = S9; generalize hS10 : ropsK = S10; generalize hS11 : ropsL = S11; generalize hS12 : ropsM = S12; generalize hS13 : ropsN = S13; generalize hS14 : ropsP = S14; generalize hS15 : ropsQ = S15; generalize hS16 : ropsT = S16; generalize hS17 : ropsUm = S17; generalize hS18 : ropsU = S18; set_option maxRecDepth 100000 in cbv; subst hO hK hS0 hS1 hS2 hS3 hS4 hS5 hS6 hS7 hS8 hS9 hS10 hS11 hS12 hS13 hS14 hS15 hS16 hS17 hS18; dsimp only [real, rops, ropsB, ropsC, ropsD, ropsE, ropsF, ropsG, ropsH, ropsI, ropsJ, ropsK, ropsL, ropsM, ropsN, ropsP, ropsQ, ropsT, ropsUm, ropsU])
    have h4 : e - topQ x1_3 x1_5 ≤ ((m : Nat) : Int) := h2
    clear h2
    refine ⟨⟨rfl, rfl⟩, ⟨by decide, by omega, by omega⟩, ho1, ?_⟩
    rw [show Int.toNat 1 = 1 from rfl, gtr_dec]
    have hs := sizeN_one (a := x1_3) (e := e) (g := x1_5) hne
    refine ⟨imp_f fun h => ?_, imp_t fun h => ?_⟩
    · rw [decide_eq_true_eq, hs] at h
      have hm : m = (m - 1) + 1 := by omega
      have e3 : arithR .sub .i64 e 1 = e - 1 := sub_i64 (by omega) (by omega)
      rw [e3]
      have g1 : topQ x1_3 x1_5 ≤ e - 1 := by omega
      have g2 : e - 1 - topQ x1_3 x1_5 ≤ ((m - 1 : Nat) : Int) := by omega
      have g3 : e - 1 ≤ topQ x1_3 x1_5 + 3 := by omega
      exact hX (m - 1) (e - 1) hm ⟨g1, g2, g3⟩
    · rw [decide_eq_false_iff_not, hs] at h
      simp only [kR, canon, canons, ekEq, numE, getW, getWord, allInts8, asInt, isK, kindEq, isArgB, strOf, cBig, cInts, cWords, allInts, allWords, r_ofLimbs, r_mkWord, Option.some.injEq, LV.wide.injEq, LV.word.injEq, LV.int.injEq, LV.bool.injEq, LV.str.injEq, LV.big.injEq, LV.tup.injEq, LV.agg.injEq, List.cons.injEq, and_true, true_and]
      show e = topQ x1_3 x1_5
      omega
  · have hv : ∀ v : Int, v = topQ x1_3 x1_5 + 3 → (topQ x1_3 x1_5 ≤ v ∧ v - topQ x1_3 x1_5 ≤ ((3 : Nat) : Int) ∧ v ≤ topQ x1_3 x1_5 + 3) := fun v hv => by subst hv; omega
    refine hv _ ?_
    show real.arith .add .i64 (real.arith .sub .i64 (real.arith .add .i64 (ropsH.len x1_3) x1_5) (ropsH.len 1)) 3 = _
    rw [e0, e1]
theorem p_down09 : SpecOk Tryz.prog globs 159 (mkSpec real [.st [.bool, .int .i64, .big, .big, .int .i64], .int .i64, .int .i64] (s_down09 ropsU)) := by
  have hfns : FnsOk Tryz.prog globs [(188, .spec (mkSpec real [.int .i64] (s_power02 ropsK))), (55, .spec (mkSpec real [.big, .big] (s_add01 ropsH))), (158, .spec (mkSpec real [.big, .int .i64, .st [.bool, .int .i64, .big, .big, .int .i64]] (s_cmp09 ropsU))), (56, .spec (mkSpec real [.big, .int .i64] (s_shl01 ropsH))), (57, .spec (mkSpec real [.int .u64] (s_small01 ropsH)))] := (fnsCons (fnSpec (p_power02)) (fnsCons (fnSpec (p_add01)) (fnsCons (fnSpec (p_cmp09)) (fnsCons (fnSpec (p_shl01)) (fnsCons (fnSpec (p_small01)) fnsNil)))))
  refine specL (fun _ => [1,3,8,9]) hfns (by kernel_rfl) Tryz.func159 (by kernel_rfl) (by kernel_rfl) (by kernel_rfl) 4 _ _ (.tup [.big, .int .i64]) ?_
  clear hfns
  generalize hEE : envL (fun _ => [1,3,8,9]) [(188, .spec (mkSpec real [.int .i64] (s_power02 ropsK))), (55, .spec (mkSpec real [.big, .big] (s_add01 ropsH))), (158, .spec (mkSpec real [.big, .int .i64, .st [.bool, .int .i64, .big, .big, .int .i64]] (s_cmp09 ropsU))), (56, .spec (mkSpec real [.big, .int .i64] (s_shl01 ropsH))), (57, .spec (mkSpec real [.int .u64] (s_small01 ropsH)))] = EE
  intro l r hl hr
  simp only [Forms, Form] at hl
  obtain ⟨_, _, rfl, ⟨_, rfl, ⟨_, _, rfl, ⟨x1_1, rfl⟩, _, _, rfl, ⟨x1_2, rfl, x1_2lo, x1_2hi⟩, _, _, rfl, ⟨x1_3, rfl, x1_3len⟩, _, _, rfl, ⟨x1_4, rfl, x1_4len⟩, _, _, rfl, ⟨x1_5, rfl, x1_5lo, x1_5hi⟩, rfl⟩⟩, _, _, rfl, ⟨x2, rfl, x2lo, x2hi⟩, _, _, rfl, ⟨x3, rfl, x3lo, x3hi⟩, rfl⟩ := hl
  subst hEE
  generalize hK : kR (.tup [.big, .int .i64]) r = K
  generalize hO : real = O
  generalize hS0 : rops = S0
  generalize hS1 : ropsB = S1
  generalize hS2 : ropsC = S2
  generalize hS3 : ropsD = S3
  generalize hS4 : ropsE = S4
  generalize hS5 : ropsF = S5
  generalize hS6 : ropsG = S6
  generalize hS7 : ropsH = S7
  generalize hS8 : ropsI = S8
  generalize hS9 : ropsJ = S9
  generalize hS10 : ropsK = S10
  generalize hS11 : ropsL = S11
  generalize hS12 : ropsM = S12
  generalize hS13 : ropsN = S13
  generalize hS14 : ropsP = S14
  generalize hS15 : ropsQ = S15
  generalize hS16 : ropsT = S16
  generalize hS17 : ropsUm = S17
  generalize hS18 : ropsU = S18
  set_option maxRecDepth 100000 in cbv
  simp only [s_down09, R.Y] at hr
  obtain ⟨hk, ho, hr⟩ := hr
  subst hO hK hS0 hS1 hS2 hS3 hS4 hS5 hS6 hS7 hS8 hS9 hS10 hS11 hS12 hS13 hS14 hS15 hS16 hS17 hS18
  subst hr
  obtain ⟨hk, hd⟩ := hk
  subst hk hd
  obtain ⟨ho, hp, hd, hfl⟩ := ho
  have ho : okR x1_3 x1_5 := ho
  have hp : -268435456 ≤ x2 ∧ x2 ≤ 268435456 := hp
  have hd : 0 ≤ x3 ∧ x3 ≤ 268435456 := hd
  have hfl : floorQ x1_3 x1_5 x2 < 2 ^ x3.toNat := hfl
  obtain ⟨ho1, ho2⟩ := okR_ok ho
  have h2p : ∀ q : Nat, q ≤ 2 ^ x3.toNat → small q ∧ bitN q ≤ 268435457 := fun q hq => by
    have := bitN_pow_le hq
    exact ⟨small_bits (k := 8388609) (by omega) (by decide), by omega⟩
  have hx1 : Int.toNat 1 = 1 := rfl
  refine loop_rule (α := LV × Nat × Int) (fun p => ⟨[.undef, .int .i64 x2, .undef, .ptr 0 0, .undef, .undef, .undef, .undef, p.1, .int .i64 p.2.2, .undef, .undef, .undef, .undef, .undef, .undef, .undef, .undef, .undef, .undef, .undef, .undef, .undef, .undef, .undef, .undef, .undef, .undef, .undef, .undef, .undef, .undef, .undef, .undef, .undef, .undef, .undef, .undef, .undef, .undef, .undef, .undef, .undef, .undef, .undef, .undef], ofL [some (realT, .agg [.bool x1_1, .int .i64 1, .big x1_3, .big 1, .int .i64 x1_5]), none, none, none, none, none, none, none], 8⟩)
    (fun m p => (p.1 = .big p.2.1 ∨ (p.1 = .im [] ∧ p.2.1 = 0)) ∧ downP x1_3 x1_5 x2 x3.toNat p.2.1 p.2.2 ∧ p.2.2 + 1 ≤ ((m : Nat) : Int)) ?_ x3.toNat (.im [], 0, _) ?_
  · rintro m ⟨lv, q, i⟩ X ⟨hlv, h1, h2⟩ hX
    have h4 : downP x1_3 x1_5 x2 x3.toNat q i := h1
    have h5 : i + 1 ≤ ((m : Nat) : Int) := h2
    clear h1 h2
    replace hlv : lv = .big q ∨ (lv = .im [] ∧ q = 0) := hlv
    have hi := h4.1
    have hi2 := h4.2.1
    have hi3 : i < x3 := by omega
    have hqm := h4.2.2.1
    have hq2 := Nat.two_pow_pos (i + 1).toNat
    have hqs := h2p q (by omega)
    have e3 : arithR .sub .i64 i 1 = i - 1 := sub_i64 (by omega) (by omega)
    have hmy : 0 ≤ i → m = (m - 1) + 1 := fun _ => by omega
    rcases hlv with rfl | ⟨rfl, rfl⟩
    all_goals (generalize hK : kR _ _ = K; generalize hO : real = O; generalize hS0 : rops = S0; generalize hS1 : ropsB = S1; generalize hS2 : ropsC = S2; generalize hS3 : ropsD = S3; generalize hS4 : ropsE = S4; generalize hS5 : ropsF = S5; generalize hS6 : ropsG = S6; generalize hS7 : ropsH = S7; generalize hS8 : ropsI = S8; generalize hS9 : ropsJ = S9; generalize hS10 : ropsK = S10; generalize hS11 : ropsL = S11; generalize hS12 : ropsM = S12; generalize hS13 : ropsN = S13; generalize hS14 : ropsP = S14; generalize hS15 : ropsQ = S15; generalize hS16 : ropsT = S16; generalize hS17 : ropsUm = S17; generalize hS18 : ropsU = S18; set_option maxRecDepth 100000 in cbv; subst hO hK hS0 hS1 hS2 hS3 hS4 hS5 hS6 hS7 hS8 hS9 hS10 hS11 hS12 hS13 hS14 hS15 hS16 hS17 hS18; dsimp only [real, rops, ropsB, ropsC, ropsD, ropsE, ropsF, ropsG, ropsH, ropsI, ropsJ, ropsK, ropsL, ropsM, ropsN, ropsP, ropsQ, ropsT, ropsUm, ropsU])
    all_goals (have h6 : i + 1 ≤ ((m : Nat) : Int) := h5)
    all_goals clear h5
    all_goals refine ⟨imp_f fun h => ?_, imp_t fun h => ?_⟩
    · replace h : cmpR .geq i 0 = true := h
      rw [c_geq_t] at h
      obtain ⟨k1, k2, k3⟩ := down_step h4 h
      have hp0 := Nat.two_pow_pos i.toNat
      have hp2 := h2p _ (show 2 ^ i.toNat ≤ 2 ^ x3.toNat by omega)
      have hp3 := h2p _ k1
      have hm : m = (m - 1) + 1 := by omega
      have g2 : i - 1 + 1 ≤ ((m - 1 : Nat) : Int) := by omega
      rw [e3]
      refine ⟨⟨h, by omega⟩, hqs.1, hp2.1, ⟨rfl, rfl⟩, ⟨by omega, by omega, by omega⟩, ho1, imp_f fun g => ?_, imp_t fun g => ?_⟩
      · rw [c_leq_t] at g
        exact hX (m - 1) (.big (q + 2 ^ i.toNat), q + 2 ^ i.toNat, i - 1) hm ⟨.inl rfl, k2 g, g2⟩
      · rw [c_leq_f] at g
        exact hX (m - 1) (.big q, q, i - 1) hm ⟨.inl rfl, k3 (by omega), g2⟩
    · replace h : cmpR .geq i 0 = false := h
      rw [c_geq_f] at h
      have hfl2 := down_end h4 h
      have hbq := hqs.2
      have hfe := floorQ_eq (a := x1_3) (g := x1_5) (p := x2)
      have hfh := floorQ_half (a := x1_3) (g := x1_5) (p := x2)
      have e4 : arithR .sub .i64 x2 1 = x2 - 1 := sub_i64 (by omega) (by omega)
      rw [← hfl2] at hfe hfh
      rw [e4, clamp1, hx1]
      rw [show q * 2 ^ 1 = 2 * q by omega]
      have hmx : ∀ z : Int, arithR .sub .i64 2 (max (-1) (min 1 z)) = 2 - max (-1) (min 1 z) := fun z => sub_i64 (by omega) (by omega)
      rw [hmx]
      have hsm : ∀ q : Nat, bitN q ≤ 268435457 → small q ∧ small (2 * q) ∧ bitN (2 * q + 1) ≤ 268435458 := fun q hq => by
        have hb : bitN (2 * q + 1) ≤ 268435458 := by
          rw [bitN_half (by omega), show (2 * q + 1) / 2 = q by omega]; omega
        exact ⟨small_bits (k := 8388609) (by omega) (by decide), small_mono (b := 2 * q + 1) (by omega) (small_bits (k := 8388609) (by omega) (by decide)), hb⟩
      obtain ⟨t1, t2, t3⟩ := hsm _ hbq
      refine ⟨⟨rfl, rfl⟩, ⟨by omega, by omega, by omega⟩, ho1, imp_f fun g => ?_, imp_t fun g => ⟨t1, by decide, t2, small_lt (k := 1) (by decide) (by decide), ⟨rfl, rfl⟩, ⟨by omega, by omega, by omega⟩, ho1, ?_⟩⟩
      · rw [c_eql_t] at g
        simp only [kR, canon, canons, ekEq, numE, getW, getWord, allInts8, asInt, isK, kindEq, isArgB, strOf, cBig, cInts, cWords, allInts, allWords, r_ofLimbs, r_mkWord, Option.some.injEq, LV.wide.injEq, LV.word.injEq, LV.int.injEq, LV.bool.injEq, LV.str.injEq, LV.big.injEq, LV.tup.injEq, LV.agg.injEq, List.cons.injEq, and_true, true_and]
        exact ⟨hfl2, (hfe.1 g).symm⟩
      · rw [c_eql_f] at g
        simp only [kR, canon, canons, ekEq, numE, getW, getWord, allInts8, asInt, isK, kindEq, isArgB, strOf, cBig, cInts, cWords, allInts, allWords, r_ofLimbs, r_mkWord, Option.some.injEq, LV.wide.injEq, LV.word.injEq, LV.int.injEq, LV.bool.injEq, LV.str.injEq, LV.big.injEq, LV.tup.injEq, LV.agg.injEq, List.cons.injEq, and_true, true_and]
        exact ⟨hfl2, (hfh (fun e => g (hfe.2 e))).symm⟩
    · replace h : cmpR .geq i 0 = true := h
      rw [c_geq_t] at h
      obtain ⟨k1, k2, k3⟩ := down_step h4 h
      have hp0 := Nat.two_pow_pos i.toNat
      have hp2 := h2p _ (show 2 ^ i.toNat ≤ 2 ^ x3.toNat by omega)
      have hp3 := h2p _ k1
      have hm : m = (m - 1) + 1 := by omega
      have g2 : i - 1 + 1 ≤ ((m - 1 : Nat) : Int) := by omega
      rw [e3]
      refine ⟨⟨h, by omega⟩, hqs.1, hp2.1, ⟨rfl, rfl⟩, ⟨by omega, by omega, by omega⟩, ho1, imp_f fun g => ?_, imp_t fun g => ?_⟩
      · rw [c_leq_t] at g
        exact hX (m - 1) (.big (0 + 2 ^ i.toNat), 0 + 2 ^ i.toNat, i - 1) hm ⟨.inl rfl, k2 g, g2⟩
      · rw [c_leq_f] at g
        exact hX (m - 1) (.im [], 0, i - 1) hm ⟨.inr ⟨rfl, rfl⟩, k3 (by omega), g2⟩
    · replace h : cmpR .geq i 0 = false := h
      rw [c_geq_f] at h
      have hfl2 := down_end h4 h
      have hbq := hqs.2
      have hfe := floorQ_eq (a := x1_3) (g := x1_5) (p := x2)
      have hfh := floorQ_half (a := x1_3) (g := x1_5) (p := x2)
      have e4 : arithR .sub .i64 x2 1 = x2 - 1 := sub_i64 (by omega) (by omega)
      rw [← hfl2] at hfe hfh
      rw [e4, clamp1, hx1]
      rw [show 0 * 2 ^ 1 = 2 * 0 by omega]
      have hmx : ∀ z : Int, arithR .sub .i64 2 (max (-1) (min 1 z)) = 2 - max (-1) (min 1 z) := fun z => sub_i64 (by omega) (by omega)
      rw [hmx]
      have hsm : ∀ q : Nat, bitN q ≤ 268435457 → small q ∧ small (2 * q) ∧ bitN (2 * q + 1) ≤ 268435458 := fun q hq => by
        have hb : bitN (2 * q + 1) ≤ 268435458 := by
          rw [bitN_half (by omega), show (2 * q + 1) / 2 = q by omega]; omega
        exact ⟨small_bits (k := 8388609) (by omega) (by decide), small_mono (b := 2 * q + 1) (by omega) (small_bits (k := 8388609) (by omega) (by decide)), hb⟩
      obtain ⟨t1, t2, t3⟩ := hsm _ hbq
      refine ⟨⟨rfl, rfl⟩, ⟨by omega, by omega, by omega⟩, ho1, imp_f fun g => ?_, imp_t fun g => ⟨t1, by decide, t2, small_lt (k := 1) (by decide) (by decide), ⟨rfl, rfl⟩, ⟨by omega, by omega, by omega⟩, ho1, ?_⟩⟩
      · rw [c_eql_t] at g
        simp only [kR, canon, canons, ekEq, numE, getW, getWord, allInts8, asInt, isK, kindEq, isArgB, strOf, cBig, cInts, cWords, allInts, allWords, r_ofLimbs, r_mkWord, Option.some.injEq, LV.wide.injEq, LV.word.injEq, LV.int.injEq, LV.bool.injEq, LV.str.injEq, LV.big.injEq, LV.tup.injEq, LV.agg.injEq, List.cons.injEq, and_true, true_and]
        exact ⟨hfl2, (hfe.1 g).symm⟩
      · rw [c_eql_f] at g
        simp only [kR, canon, canons, ekEq, numE, getW, getWord, allInts8, asInt, isK, kindEq, isArgB, strOf, cBig, cInts, cWords, allInts, allWords, r_ofLimbs, r_mkWord, Option.some.injEq, LV.wide.injEq, LV.word.injEq, LV.int.injEq, LV.bool.injEq, LV.str.injEq, LV.big.injEq, LV.tup.injEq, LV.agg.injEq, List.cons.injEq, and_true, true_and]
        exact ⟨hfl2, (hfh (fun e => g (hfe.2 e))).symm⟩
  · have e3 : arithR .sub .i64 x3 1 = x3 - 1 := sub_i64 (by omega) (by omega)
    refine ⟨.inr ⟨rfl, rfl⟩, ?_, ?_⟩
    · show downP x1_3 x1_5 x2 x3.toNat 0 (arithR .sub .i64 x3 1)
      rw [e3]
      have := down_zero hfl
      rwa [show ((x3.toNat : Nat) : Int) = x3 by omega] at this
    · show arithR .sub .i64 x3 1 + 1 ≤ _
      rw [e3]; omega
theorem p_at09 : SpecOk Tryz.prog globs 111 (mkSpec real [.st [.bool, .int .i64, .big, .big, .int .i64], .int .i64, .int .i64, .int .i64] (s_at09 ropsU)) := by
  have hfns : FnsOk Tryz.prog globs [(159, .spec (mkSpec real [.st [.bool, .int .i64, .big, .big, .int .i64], .int .i64, .int .i64] (s_down09 ropsU))), (68, .spec (mkSpec real [.big] (s_odd01 ropsUm))), (160, .spec (mkSpec real [.int .i64, .bool, .bool, .int .i64] (s_grows08 ropsT))), (57, .spec (mkSpec real [.int .u64] (s_small01 ropsH))), (55, .spec (mkSpec real [.big, .big] (s_add01 ropsH)))] := (fnsCons (fnSpec (p_down09)) (fnsCons (fnSpec (p_odd01)) (fnsCons (fnSpec (p_grows08)) (fnsCons (fnSpec (p_small01)) (fnsCons (fnSpec (p_add01)) fnsNil)))))
  refine spec0 hfns (by kernel_rfl) Tryz.func111 (by kernel_rfl) (by kernel_rfl) (by kernel_rfl) 4 _ _ (.tup [.big, .bool]) ?_
  clear hfns
  generalize hEE : env0 [(159, .spec (mkSpec real [.st [.bool, .int .i64, .big, .big, .int .i64], .int .i64, .int .i64] (s_down09 ropsU))), (68, .spec (mkSpec real [.big] (s_odd01 ropsUm))), (160, .spec (mkSpec real [.int .i64, .bool, .bool, .int .i64] (s_grows08 ropsT))), (57, .spec (mkSpec real [.int .u64] (s_small01 ropsH))), (55, .spec (mkSpec real [.big, .big] (s_add01 ropsH)))] = EE
  intro l r hl hr
  simp only [Forms, Form] at hl
  obtain ⟨_, _, rfl, ⟨_, rfl, ⟨_, _, rfl, ⟨x1_1, rfl⟩, _, _, rfl, ⟨x1_2, rfl, x1_2lo, x1_2hi⟩, _, _, rfl, ⟨x1_3, rfl, x1_3len⟩, _, _, rfl, ⟨x1_4, rfl, x1_4len⟩, _, _, rfl, ⟨x1_5, rfl, x1_5lo, x1_5hi⟩, rfl⟩⟩, _, _, rfl, ⟨x2, rfl, x2lo, x2hi⟩, _, _, rfl, ⟨x3, rfl, x3lo, x3hi⟩, _, _, rfl, ⟨x4, rfl, x4lo, x4hi⟩, rfl⟩ := hl
  subst hEE
  generalize hK : kR (.tup [.big, .bool]) r = K
  generalize hO : real = O
  generalize hS0 : rops = S0
  generalize hS1 : ropsB = S1
  generalize hS2 : ropsC = S2
  generalize hS3 : ropsD = S3
  generalize hS4 : ropsE = S4
  generalize hS5 : ropsF = S5
  generalize hS6 : ropsG = S6
  generalize hS7 : ropsH = S7
  generalize hS8 : ropsI = S8
  generalize hS9 : ropsJ = S9
  generalize hS10 : ropsK = S10
  generalize hS11 : ropsL = S11
  generalize hS12 : ropsM = S12
  generalize hS13 : ropsN = S13
  generalize hS14 : ropsP = S14
  generalize hS15 : ropsQ = S15
  generalize hS16 : ropsT = S16
  generalize hS17 : ropsUm = S17
  generalize hS18 : ropsU = S18
  set_option maxRecDepth 100000 in cbv
  subst hO hK hS0 hS1 hS2 hS3 hS4 hS5 hS6 hS7 hS8 hS9 hS10 hS11 hS12 hS13 hS14 hS15 hS16 hS17 hS18
  simp only [s_at09, R.Y] at hr
  try dsimp only [real, rops, ropsB, ropsC, ropsD, ropsE, ropsF, ropsG, ropsH, ropsI, ropsJ, ropsK, ropsL, ropsM, ropsN, ropsP, ropsQ, ropsT, ropsUm, ropsU]
  obtain ⟨hk, ho, hr⟩ := hr
  subst hr
  obtain ⟨o1, o2, o3, o4⟩ := id ho
  have o3 : 0 ≤ x3 ∧ x3 ≤ 268435456 := o3
  have o4 : floorQ x1_3 x1_5 x2 < 2 ^ x3.toNat := o4
  have hb := bitN_pow_le (Nat.le_of_lt o4)
  have hrr := restQ_rng x1_3 x1_5 x2
  have hg : cmpR .gtr (restQ x1_3 x1_5 x2) 0 = !decide (restQ x1_3 x1_5 x2 = 0) := by
    rw [gtr_dec]
    by_cases h : restQ x1_3 x1_5 x2 = 0
    · rw [decide_eq_true h, decide_eq_false (by omega)]; rfl
    · rw [decide_eq_false h, decide_eq_true (by omega)]; rfl
  dsimp only [ropsU]
  rw [hg]
  unfold upQ
  refine ⟨hk, ho, imp_f fun h => ⟨small_bits (k := 8388609) (by omega) (by decide), small_lt (k := 1) (by decide) (by decide), ?_⟩, imp_t fun h => ?_⟩
  · rw [h]
    simp only [kR, canon, canons, ekEq, numE, getW, getWord, allInts8, asInt, isK, kindEq, isArgB, strOf, cBig, cInts, cWords, allInts, allWords, r_ofLimbs, r_mkWord, Option.some.injEq, LV.wide.injEq, LV.word.injEq, LV.int.injEq, LV.bool.injEq, LV.str.injEq, LV.big.injEq, LV.tup.injEq, LV.agg.injEq, List.cons.injEq, and_true, true_and]
    rfl
  · rw [h]
    simp only [kR, canon, canons, ekEq, numE, getW, getWord, allInts8, asInt, isK, kindEq, isArgB, strOf, cBig, cInts, cWords, allInts, allWords, r_ofLimbs, r_mkWord, Option.some.injEq, LV.wide.injEq, LV.word.injEq, LV.int.injEq, LV.bool.injEq, LV.str.injEq, LV.big.injEq, LV.tup.injEq, LV.agg.injEq, List.cons.injEq, and_true, true_and]
    rfl
end Go.LE