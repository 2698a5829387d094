import Derived.Test.YtcmicmbpcgminaaGreatDoorW31
import Derived.Test.YtcmicmbpcgminaaGreatDoorW13s
import Derived.Test.YtcmicmbpcgminaaGreatDoorLeS
set_option linter.unusedVariables false
set_option linter.unusedSimpArgs false
namespace Go.LE
open Go Go.Proofs
structure OpsX where
  isF : Int → Prop
  rg : Int → Prop
  intB : Int → Bool → W → Int → Nat
  intX : W → Int → Bool
  fitN : Nat → Bool → Bool
  shr : Nat → Int → Nat
  okSh : Int → Prop
  small : Nat → Prop
  whS : Int → Bool → W → Int → W
  whE : Int → Int
  whX : Int → W → Int → Bool
  whI : Int → BitVec 128 → Bool
  odI : Int → BitVec 128 → Bool
  irW : Int → Int → BitVec 128 → BitVec 128
  irX : Int → Int → BitVec 128 → Int
  irE : Int → Int → BitVec 128 → Int
  some_ : Int → BitVec 128 → Bool
  someP : Int → BitVec 128 → Prop
  othW : Int → BitVec 128 → BitVec 128
  othX : Int → BitVec 128 → Int
  rrW : Int → Int → BitVec 128 → BitVec 128
  rrX : Int → Int → BitVec 128 → Int
  isMt : Int → Prop
noncomputable def ropsX : OpsX where
  isF := fun f => 1 ≤ f ∧ f ≤ 4
  rg := fun e => -1048576 ≤ e ∧ e ≤ 1048576
  intB := intB
  intX := intX
  fitN := fun n neg => bif neg then decide (n ≤ 2 ^ 63) else decide (n < 2 ^ 63)
  shr := fun a n => a / 2 ^ n.toNat
  okSh := fun n => 0 ≤ n ∧ n ≤ 17179869184
  small := small
  whS := whS
  whE := whE
  whX := whX
  whI := whI
  odI := odI
  irW := irW
  irX := irX
  irE := irE
  some_ := irSome
  someP := fun f w => irSome f w = true
  othW := fun f w => bif nanIs f [w] then nanV f [w] else w
  othX := fun f w => bif nanIs f [w] then nanX f [w] else 0
  rrW := fun f m w => fWordOf f (wNeg f w) (irMag f m w)
  rrX := fun f _ w => bif intX (vSig f w) (vExp f w) then 16 else 0
  isMt := fun m => isM m = true
def s_int29 (S : OpsX) : List LV → R LV
  | [.agg [.bool b, .int _ e, .wide s], .int _ m] => .req (S.rg e) (.ok (.tup [.big (S.intB m b s e), .bool (S.intX s e)]))
  | _ => .fail
def s_fits29 (S : OpsX) : List LV → R LV
  | [.big n, .bool b] => .req (S.small n) (.ok (.bool (S.fitN n b)))
  | _ => .fail
def s_iwhole (S : OpsX) : List LV → R LV
  | [.agg [.bool b, .int _ e, .wide s], .int _ m] => .req (S.rg e) (.ok (.tup [.agg [.bool b, .int .i64 (S.whE e), .wide (S.whS m b s e)], .bool (S.whX m s e)]))
  | _ => .fail
def s_iround (S : OpsX) : List LV → R LV
  | [.int _ f, .int _ m, .word w] => .ok (.tup [.word (S.irW f m w), .int .i64 (S.irX f m w), .int .i64 (S.irE f m w)])
  | _ => .fail
def s_iis (S : OpsX) : List LV → R LV
  | [.int _ f, .word w] => .ok (.bool (S.whI f w))
  | _ => .fail
def s_iodd (S : OpsX) : List LV → R LV
  | [.int _ f, .word w] => .ok (.bool (S.odI f w))
  | _ => .fail
def s_whole32 (S : OpsX) : List LV → R LV
  | [.int _ f, .word w] => .ok (.tup [.bool (S.whI f w), .bool (S.odI f w)])
  | _ => .fail
def s_some32 (S : OpsX) : List LV → R LV
  | [.int _ f, .word w] => .ok (.bool (S.some_ f w))
  | _ => .fail
def s_other32 (S : OpsX) : List LV → R LV
  | [.int _ f, .word w] => .ok (.tup [.word (S.othW f w), .int .i64 (S.othX f w)])
  | _ => .fail
def s_round32 (S : OpsX) : List LV → R LV
  | [.int _ f, .int _ m, .word w] => .req (S.someP f w) (.req (S.isMt m) (.ok (.tup [.word (S.rrW f m w), .int .i64 (S.rrX f m w)])))
  | _ => .fail
def s_awake32 (_ : OpsX) : List LV → R LV := fun _ => .ok (.bool true)
def s_IntegralRounds (_ : OpsX) : List LV → R LV := fun _ => .ok (.bool true)
theorem p_iwhole : SpecOk Tryz.prog globs 108 (mkSpec real [.st [.bool, .int .i64, .wide], .int .i64] (s_iwhole ropsX)) := by
  have hfns : FnsOk Tryz.prog globs [(155, .spec (mkSpec real [.wide, .int .i64, .bool, .int .i64, .bool] (s_cut ropsT)))] := (fnsCons (fnSpec (p_cut)) fnsNil)
  refine spec0 hfns (by kernel_rfl) Tryz.func108 (by kernel_rfl) (by kernel_rfl) (by kernel_rfl) 4 _ _ (.tup [.st [.bool, .int .i64, .wide], .bool]) ?_
  clear hfns
  generalize hEE : env0 [(155, .spec (mkSpec real [.wide, .int .i64, .bool, .int .i64, .bool] (s_cut ropsT)))] = EE
  intro l r hl hr
  simp only [Forms, Form] at hl
  obtain ⟨_, _, rfl, ⟨_, rfl, ⟨_, _, rfl, ⟨x1_1, rfl⟩, _, _, rfl, ⟨x1_2, rfl, x1_2lo, x1_2hi⟩, _, _, rfl, ⟨x1_3, rfl⟩, rfl⟩⟩, _, _, rfl, ⟨x2, rfl, x2lo, x2hi⟩, rfl⟩ := hl
  subst hEE
  generalize hK : kR (.tup [.st [.bool, .int .i64, .wide], .bool]) r = K
  generalize hO : real = O
  generalize hS0 : rops = S0
  generalize hS1 : ropsB = S1
  generalize hS2 : ropsC = S2
  generalize hS3 : ropsD = S3
  generalize hS4 : ropsE = S4
  generalize hS5 : ropsF = S5
  generalize hS6 : ropsG = S6
  generalize hS7 : ropsH = S7
  generalize hS8 : ropsI = S8
  generalize hS9 : ropsJ = S9
  generalize hS10 : ropsK = S10
  generalize hS11 : ropsL = S11
  generalize hS12 : ropsM = S12
  generalize hS13 : ropsN = S13
  generalize hS14 : ropsP = S14
  generalize hS15 : ropsQ = S15
  generalize hS16 : ropsT = S16
  generalize hS17 : ropsUm = S17
  generalize hS18 : ropsU = S18
  generalize hS19 : ropsV = S19
  generalize hS20 : ropsW = S20
  generalize hS21 : ropsQs = S21
  generalize hS22 : ropsX = S22
  set_option maxRecDepth 100000 in cbv
  subst hO hK hS0 hS1 hS2 hS3 hS4 hS5 hS6 hS7 hS8 hS9 hS10 hS11 hS12 hS13 hS14 hS15 hS16 hS17 hS18 hS19 hS20 hS21 hS22
  simp only [s_iwhole, R.Y] at hr
  try dsimp only [real, rops, ropsB, ropsC, ropsD, ropsE, ropsF, ropsG, ropsH, ropsI, ropsJ, ropsK, ropsL, ropsM, ropsN, ropsP, ropsQ, ropsT, ropsUm, ropsU, ropsV, ropsW, ropsQs, ropsX]
  obtain ⟨he, hr⟩ := hr
  subst hr
  dsimp only [ropsX]
  replace he : -1048576 ≤ x1_2 ∧ x1_2 ≤ 1048576 := he
  rw [neg_i64 (by omega)]
  unfold whE whS whX
  refine ⟨imp_f fun h => ?_, imp_t fun h => ?_⟩
  · rw [c_geq_t] at h
    rw [if_pos h, if_pos h, if_pos h]
    simp only [kR, canon, canons, ekEq, numE, getW, getWord, allInts8, asInt, isK, kindEq, isArgB, strOf, cBig, cInts, cWords, allInts, allWords, r_ofLimbs, r_mkWord, Option.some.injEq, LV.wide.injEq, LV.word.injEq, LV.int.injEq, LV.bool.injEq, LV.str.injEq, LV.big.injEq, LV.tup.injEq, LV.agg.injEq, List.cons.injEq, and_true, true_and]
  · rw [c_geq_f] at h
    rw [if_neg (by omega), if_neg (by omega), if_neg (by omega)]
    simp only [kR, canon, canons, ekEq, numE, getW, getWord, allInts8, asInt, isK, kindEq, isArgB, strOf, cBig, cInts, cWords, allInts, allWords, r_ofLimbs, r_mkWord, Option.some.injEq, LV.wide.injEq, LV.word.injEq, LV.int.injEq, LV.bool.injEq, LV.str.injEq, LV.big.injEq, LV.tup.injEq, LV.agg.injEq, List.cons.injEq, and_true, true_and]
theorem p_iround : SpecOk Tryz.prog globs 59 (mkSpec real [.int .i64, .int .i64, .word] (s_iround ropsX)) := by
  have hfns : FnsOk Tryz.prog globs [(49, inlF Tryz.f49), (107, inlF Tryz.f107), (87, .spec (mkSpec real [.int .i64] (s_mIs ropsT))), (88, .spec (mkSpec real [.int .i64, .word] (s_fits ropsB))), (96, .spec (mkSpec real [.int .i64, .words] (s_nanOf ropsG))), (44, .spec (mkSpec real [.int .i64, .word] (s_value ropsL))), (108, .spec (mkSpec real [.st [.bool, .int .i64, .wide], .int .i64] (s_iwhole ropsX))), (45, .spec (mkSpec real [.int .i64, .st [.bool, .int .i64, .wide]] (s_exact ropsP)))] := (fnsCons (inl_ok Tryz.func49 (by kernel_rfl) (by kernel_rfl)) (fnsCons (inl_ok Tryz.func107 (by kernel_rfl) (by kernel_rfl)) (fnsCons (fnSpec (p_mIs)) (fnsCons (fnSpec (p_fits)) (fnsCons (fnSpec (p_nanOf)) (fnsCons (fnSpec (p_value)) (fnsCons (fnSpec (p_iwhole)) (fnsCons (fnSpec (p_exact)) fnsNil))))))))
  refine spec0 hfns (by kernel_rfl) Tryz.func59 (by kernel_rfl) (by kernel_rfl) (by kernel_rfl) 6 _ _ (.tup [.word, .int .i64, .int .i64]) ?_
  clear hfns
  generalize hEE : env0 [(49, inlF Tryz.f49), (107, inlF Tryz.f107), (87, .spec (mkSpec real [.int .i64] (s_mIs ropsT))), (88, .spec (mkSpec real [.int .i64, .word] (s_fits ropsB))), (96, .spec (mkSpec real [.int .i64, .words] (s_nanOf ropsG))), (44, .spec (mkSpec real [.int .i64, .word] (s_value ropsL))), (108, .spec (mkSpec real [.st [.bool, .int .i64, .wide], .int .i64] (s_iwhole ropsX))), (45, .spec (mkSpec real [.int .i64, .st [.bool, .int .i64, .wide]] (s_exact ropsP)))] = EE
  intro l r hl hr
  simp only [Forms, Form] at hl
  obtain ⟨_, _, rfl, ⟨x1, rfl, x1lo, x1hi⟩, _, _, rfl, ⟨x2, rfl, x2lo, x2hi⟩, _, _, rfl, ⟨x3, rfl⟩, rfl⟩ := hl
  subst hEE
  generalize hK : kR (.tup [.word, .int .i64, .int .i64]) r = K
  generalize hO : real = O
  generalize hS0 : rops = S0
  generalize hS1 : ropsB = S1
  generalize hS2 : ropsC = S2
  generalize hS3 : ropsD = S3
  generalize hS4 : ropsE = S4
  generalize hS5 : ropsF = S5
  generalize hS6 : ropsG = S6
  generalize hS7 : ropsH = S7
  generalize hS8 : ropsI = S8
  generalize hS9 : ropsJ = S9
  generalize hS10 : ropsK = S10
  generalize hS11 : ropsL = S11
  generalize hS12 : ropsM = S12
  generalize hS13 : ropsN = S13
  generalize hS14 : ropsP = S14
  generalize hS15 : ropsQ = S15
  generalize hS16 : ropsT = S16
  generalize hS17 : ropsUm = S17
  generalize hS18 : ropsU = S18
  generalize hS19 : ropsV = S19
  generalize hS20 : ropsW = S20
  generalize hS21 : ropsQs = S21
  generalize hS22 : ropsX = S22
  set_option maxRecDepth 100000 in cbv
  subst hO hK hS0 hS1 hS2 hS3 hS4 hS5 hS6 hS7 hS8 hS9 hS10 hS11 hS12 hS13 hS14 hS15 hS16 hS17 hS18 hS19 hS20 hS21 hS22
  simp only [s_iround, R.Y] at hr
  subst hr
  try dsimp only [real, rops, ropsB, ropsC, ropsD, ropsE, ropsF, ropsG, ropsH, ropsI, ropsJ, ropsK, ropsL, ropsM, ropsN, ropsP, ropsQ, ropsT, ropsUm, ropsU, ropsV, ropsW, ropsQs, ropsX]
  have leaf0 : irOk x1 x2 x3 = false → kR (AT.tup [AT.word, AT.int IntKind.i64, AT.int IntKind.i64]) (LV.tup [LV.word (irW x1 x2 x3), LV.int IntKind.i64 (irX x1 x2 x3), LV.int IntKind.i64 (irE x1 x2 x3)])
      (LV.tup [LV.agg [LV.lit IntKind.u64 0, LV.lit IntKind.u64 0], LV.lit IntKind.i64 0, LV.lit IntKind.i64 1]) := fun h => by
    unfold irW irX irE
    rw [h]
    simp only [kR, canon, canons, ekEq, numE, getW, getWord, allInts8, asInt, isK, kindEq, isArgB, strOf, cBig, cInts, cWords, allInts, allWords, r_ofLimbs, r_mkWord, Option.some.injEq, LV.wide.injEq, LV.word.injEq, LV.int.injEq, LV.bool.injEq, LV.str.injEq, LV.big.injEq, LV.tup.injEq, LV.agg.injEq, List.cons.injEq, and_true, true_and]
    exact ⟨mkWord_0, rfl, rfl⟩
  cases hm : isM x2 with
  | false => exact ⟨imp_f fun _ => leaf0 (by unfold irOk; rw [hm]; rfl), imp_t fun h => by simp at h⟩
  | true =>
    refine ⟨imp_f fun h => by simp at h, imp_t fun _ => ?_⟩
    cases hF : fFits x1 x3 with
    | false => exact ⟨imp_f fun _ => leaf0 (by unfold irOk; rw [hm, hF]; rfl), imp_t fun h => by simp at h⟩
    | true =>
      refine ⟨imp_f fun h => by simp at h, imp_t fun _ => ?_⟩
      have ho : irOk x1 x2 x3 = true := by unfold irOk; rw [hm, hF]; rfl
      have hf := (fits_lt hF).1
      unfold irW irX irE irSome
      rw [ho, cond_true, cond_true, cond_true, ofLimbs_0]
      cases hn : nanIs x1 [x3] with
      | true =>
        refine ⟨imp_f fun _ => ?_, imp_t fun h => (by cases h)⟩
        simp only [kR, canon, canons, ekEq, numE, getW, getWord, allInts8, asInt, isK, kindEq, isArgB, strOf, cBig, cInts, cWords, allInts, allWords, r_ofLimbs, r_mkWord, Option.some.injEq, LV.wide.injEq, LV.word.injEq, LV.int.injEq, LV.bool.injEq, LV.str.injEq, LV.big.injEq, LV.tup.injEq, LV.agg.injEq, List.cons.injEq, and_true, true_and]
        exact ⟨rfl, rfl⟩
      | false =>
        refine ⟨imp_f fun h => (by cases h), imp_t fun _ => ?_⟩
        cases hfin : wFin x1 x3 with
        | false =>
          refine ⟨imp_f fun _ => ?_, imp_t fun h => by simp at h⟩
          simp only [kR, canon, canons, ekEq, numE, getW, getWord, allInts8, asInt, isK, kindEq, isArgB, strOf, cBig, cInts, cWords, allInts, allWords, r_ofLimbs, r_mkWord, Option.some.injEq, LV.wide.injEq, LV.word.injEq, LV.int.injEq, LV.bool.injEq, LV.str.injEq, LV.big.injEq, LV.tup.injEq, LV.agg.injEq, List.cons.injEq, and_true, true_and]
          exact ⟨rfl, rfl⟩
        | true =>
          refine ⟨imp_f fun h => by simp at h, imp_t fun _ => ?_⟩
          have hr := vExp_rng hfin
          obtain ⟨x1e, x2e, _⟩ := ir_exact hfin hm
          refine ⟨imp_f fun hz => ?_, imp_t fun hz => ⟨⟨by omega, by omega⟩, ?_⟩⟩
          · rw [hz]
            simp only [kR, canon, canons, ekEq, numE, getW, getWord, allInts8, asInt, isK, kindEq, isArgB, strOf, cBig, cInts, cWords, allInts, allWords, r_ofLimbs, r_mkWord, Option.some.injEq, LV.wide.injEq, LV.word.injEq, LV.int.injEq, LV.bool.injEq, LV.str.injEq, LV.big.injEq, LV.tup.injEq, LV.agg.injEq, List.cons.injEq, and_true, true_and]
            exact ⟨rfl, rfl⟩
          · rw [hz, x2e, whX_int hm]
            refine ⟨imp_f fun hx => ?_, imp_t fun hx => ?_⟩
            · rw [hx]
              simp only [kR, canon, canons, ekEq, numE, getW, getWord, allInts8, asInt, isK, kindEq, isArgB, strOf, cBig, cInts, cWords, allInts, allWords, r_ofLimbs, r_mkWord, Option.some.injEq, LV.wide.injEq, LV.word.injEq, LV.int.injEq, LV.bool.injEq, LV.str.injEq, LV.big.injEq, LV.tup.injEq, LV.agg.injEq, List.cons.injEq, and_true, true_and]
              exact ⟨rfl, rfl⟩
            · rw [hx]
              simp only [kR, canon, canons, ekEq, numE, getW, getWord, allInts8, asInt, isK, kindEq, isArgB, strOf, cBig, cInts, cWords, allInts, allWords, r_ofLimbs, r_mkWord, Option.some.injEq, LV.wide.injEq, LV.word.injEq, LV.int.injEq, LV.bool.injEq, LV.str.injEq, LV.big.injEq, LV.tup.injEq, LV.agg.injEq, List.cons.injEq, and_true, true_and]
              exact ⟨rfl, rfl⟩
theorem p_some32 : SpecOk Tryz.prog globs 18 (mkSpec real [.int .i64, .word] (s_some32 ropsX)) := by
  have hfns : FnsOk Tryz.prog globs [(9, .spec (mkSpec real [.int .i64, .word] (s_class06 ropsC)))] := (fnsCons (fnSpec (p_class06)) fnsNil)
  refine spec0 hfns (by kernel_rfl) Tryz.func18 (by kernel_rfl) (by kernel_rfl) (by kernel_rfl) 4 _ _ (.bool) ?_
  clear hfns
  generalize hEE : env0 [(9, .spec (mkSpec real [.int .i64, .word] (s_class06 ropsC)))] = EE
  intro l r hl hr
  simp only [Forms, Form] at hl
  obtain ⟨_, _, rfl, ⟨x1, rfl, x1lo, x1hi⟩, _, _, rfl, ⟨x2, rfl⟩, rfl⟩ := hl
  subst hEE
  generalize hK : kR (.bool) r = K
  generalize hO : real = O
  generalize hS0 : rops = S0
  generalize hS1 : ropsB = S1
  generalize hS2 : ropsC = S2
  generalize hS3 : ropsD = S3
  generalize hS4 : ropsE = S4
  generalize hS5 : ropsF = S5
  generalize hS6 : ropsG = S6
  generalize hS7 : ropsH = S7
  generalize hS8 : ropsI = S8
  generalize hS9 : ropsJ = S9
  generalize hS10 : ropsK = S10
  generalize hS11 : ropsL = S11
  generalize hS12 : ropsM = S12
  generalize hS13 : ropsN = S13
  generalize hS14 : ropsP = S14
  generalize hS15 : ropsQ = S15
  generalize hS16 : ropsT = S16
  generalize hS17 : ropsUm = S17
  generalize hS18 : ropsU = S18
  generalize hS19 : ropsV = S19
  generalize hS20 : ropsW = S20
  generalize hS21 : ropsQs = S21
  generalize hS22 : ropsX = S22
  set_option maxRecDepth 100000 in cbv
  subst hO hK hS0 hS1 hS2 hS3 hS4 hS5 hS6 hS7 hS8 hS9 hS10 hS11 hS12 hS13 hS14 hS15 hS16 hS17 hS18 hS19 hS20 hS21 hS22
  simp only [s_some32, R.Y] at hr
  subst hr
  try dsimp only [real, rops, ropsB, ropsC, ropsD, ropsE, ropsF, ropsG, ropsH, ropsI, ropsJ, ropsK, ropsL, ropsM, ropsN, ropsP, ropsQ, ropsT, ropsUm, ropsU, ropsV, ropsW, ropsQs, ropsX]
  rw [some_cls]
  simp only [eql_dec]
  refine ⟨imp_f fun h => ?_, imp_t fun h => ?_⟩
  · rw [decide_eq_true_eq] at h
    rw [decide_eq_true (.inl h)]
    simp only [kR, canon, canons, ekEq, numE, getW, getWord, allInts8, asInt, isK, kindEq, isArgB, strOf, cBig, cInts, cWords, allInts, allWords, r_ofLimbs, r_mkWord, Option.some.injEq, LV.wide.injEq, LV.word.injEq, LV.int.injEq, LV.bool.injEq, LV.str.injEq, LV.big.injEq, LV.tup.injEq, LV.agg.injEq, List.cons.injEq, and_true, true_and]
  · rw [decide_eq_false_iff_not] at h
    simp only [kR, canon, canons, ekEq, numE, getW, getWord, allInts8, asInt, isK, kindEq, isArgB, strOf, cBig, cInts, cWords, allInts, allWords, r_ofLimbs, r_mkWord, Option.some.injEq, LV.wide.injEq, LV.word.injEq, LV.int.injEq, LV.bool.injEq, LV.str.injEq, LV.big.injEq, LV.tup.injEq, LV.agg.injEq, List.cons.injEq, and_true, true_and]
    refine decide_eq_decide.2 ?_
    omega
theorem p_other32 : SpecOk Tryz.prog globs 24 (mkSpec real [.int .i64, .word] (s_other32 ropsX)) := by
  have hfns : FnsOk Tryz.prog globs [(60, .spec (mkSpec real [.int .i64, .words] (s_of10 ropsG)))] := (fnsCons (fnSpec (p_of10)) fnsNil)
  refine spec0 hfns (by kernel_rfl) Tryz.func24 (by kernel_rfl) (by kernel_rfl) (by kernel_rfl) 4 _ _ (.tup [.word, .int .i64]) ?_
  clear hfns
  generalize hEE : env0 [(60, .spec (mkSpec real [.int .i64, .words] (s_of10 ropsG)))] = EE
  intro l r hl hr
  simp only [Forms, Form] at hl
  obtain ⟨_, _, rfl, ⟨x1, rfl, x1lo, x1hi⟩, _, _, rfl, ⟨x2, rfl⟩, rfl⟩ := hl
  subst hEE
  generalize hK : kR (.tup [.word, .int .i64]) r = K
  generalize hO : real = O
  generalize hS0 : rops = S0
  generalize hS1 : ropsB = S1
  generalize hS2 : ropsC = S2
  generalize hS3 : ropsD = S3
  generalize hS4 : ropsE = S4
  generalize hS5 : ropsF = S5
  generalize hS6 : ropsG = S6
  generalize hS7 : ropsH = S7
  generalize hS8 : ropsI = S8
  generalize hS9 : ropsJ = S9
  generalize hS10 : ropsK = S10
  generalize hS11 : ropsL = S11
  generalize hS12 : ropsM = S12
  generalize hS13 : ropsN = S13
  generalize hS14 : ropsP = S14
  generalize hS15 : ropsQ = S15
  generalize hS16 : ropsT = S16
  generalize hS17 : ropsUm = S17
  generalize hS18 : ropsU = S18
  generalize hS19 : ropsV = S19
  generalize hS20 : ropsW = S20
  generalize hS21 : ropsQs = S21
  generalize hS22 : ropsX = S22
  set_option maxRecDepth 100000 in cbv
  subst hO hK hS0 hS1 hS2 hS3 hS4 hS5 hS6 hS7 hS8 hS9 hS10 hS11 hS12 hS13 hS14 hS15 hS16 hS17 hS18 hS19 hS20 hS21 hS22
  simp only [s_other32, R.Y] at hr
  subst hr
  try dsimp only [real, rops, ropsB, ropsC, ropsD, ropsE, ropsF, ropsG, ropsH, ropsI, ropsJ, ropsK, ropsL, ropsM, ropsN, ropsP, ropsQ, ropsT, ropsUm, ropsU, ropsV, ropsW, ropsQs, ropsX]
  cases h : nanIs x1 [x2] with
  | true =>
    refine ⟨imp_f fun _ => ?_, imp_t fun h => (by cases h)⟩
    simp only [kR, canon, canons, ekEq, numE, getW, getWord, allInts8, asInt, isK, kindEq, isArgB, strOf, cBig, cInts, cWords, allInts, allWords, r_ofLimbs, r_mkWord, Option.some.injEq, LV.wide.injEq, LV.word.injEq, LV.int.injEq, LV.bool.injEq, LV.str.injEq, LV.big.injEq, LV.tup.injEq, LV.agg.injEq, List.cons.injEq, and_true, true_and]
    exact ⟨rfl, rfl⟩
  | false =>
    refine ⟨imp_f fun h => (by cases h), imp_t fun _ => ?_⟩
    simp only [kR, canon, canons, ekEq, numE, getW, getWord, allInts8, asInt, isK, kindEq, isArgB, strOf, cBig, cInts, cWords, allInts, allWords, r_ofLimbs, r_mkWord, Option.some.injEq, LV.wide.injEq, LV.word.injEq, LV.int.injEq, LV.bool.injEq, LV.str.injEq, LV.big.injEq, LV.tup.injEq, LV.agg.injEq, List.cons.injEq, and_true, true_and]
    exact ⟨rfl, rfl⟩
theorem p_awake32 : SpecOk Tryz.prog globs 23 (mkSpec real [] (s_awake32 ropsX)) := by
  have hfns : FnsOk Tryz.prog globs [(59, .spec (mkSpec real [.int .i64, .int .i64, .word] (s_iround ropsX)))] := (fnsCons (fnSpec (p_iround)) fnsNil)
  refine spec0 hfns (by kernel_rfl) Tryz.func23 (by kernel_rfl) (by kernel_rfl) (by kernel_rfl) 4 _ _ (.bool) ?_
  clear hfns
  generalize hEE : env0 [(59, .spec (mkSpec real [.int .i64, .int .i64, .word] (s_iround ropsX)))] = EE
  intro l r hl hr
  simp only [Forms, Form] at hl
  obtain rfl := hl
  subst hEE
  generalize hK : kR (.bool) r = K
  generalize hO : real = O
  generalize hS0 : rops = S0
  generalize hS1 : ropsB = S1
  generalize hS2 : ropsC = S2
  generalize hS3 : ropsD = S3
  generalize hS4 : ropsE = S4
  generalize hS5 : ropsF = S5
  generalize hS6 : ropsG = S6
  generalize hS7 : ropsH = S7
  generalize hS8 : ropsI = S8
  generalize hS9 : ropsJ = S9
  generalize hS10 : ropsK = S10
  generalize hS11 : ropsL = S11
  generalize hS12 : ropsM = S12
  generalize hS13 : ropsN = S13
  generalize hS14 : ropsP = S14
  generalize hS15 : ropsQ = S15
  generalize hS16 : ropsT = S16
  generalize hS17 : ropsUm = S17
  generalize hS18 : ropsU = S18
  generalize hS19 : ropsV = S19
  generalize hS20 : ropsW = S20
  generalize hS21 : ropsQs = S21
  generalize hS22 : ropsX = S22
  set_option maxRecDepth 100000 in cbv
  subst hO hK hS0 hS1 hS2 hS3 hS4 hS5 hS6 hS7 hS8 hS9 hS10 hS11 hS12 hS13 hS14 hS15 hS16 hS17 hS18 hS19 hS20 hS21 hS22
  simp only [s_awake32, R.Y] at hr
  subst hr
  try dsimp only [real, rops, ropsB, ropsC, ropsD, ropsE, ropsF, ropsG, ropsH, ropsI, ropsJ, ropsK, ropsL, ropsM, ropsN, ropsP, ropsQ, ropsT, ropsUm, ropsU, ropsV, ropsW, ropsQs, ropsX]
  simp only [kb_t, kb_lt, kb_lf]; decide +kernel
end Go.LE