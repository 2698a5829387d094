import Derived.Test.YtghinobkekkopaaGreatDoorW31
import Derived.Test.YtghinobkekkopaaGreatDoorW32
set_option linter.unusedVariables false
set_option linter.unusedSimpArgs false
namespace Go.LE
open Go Go.Proofs
structure OpsY where
  fiW : Int → Int → Int → BitVec 128
  fiX : Int → Int → Int → Int
  fiE : Int → Int → Int
  cwS : Int → Bool → W → Int → W
  cwX : Int → W → Int → Bool
  cwF : Int → Bool → W → Int → Bool
  rg : Int → Prop
  tiN : Int → Int → BitVec 128 → Int
  tiX : Int → Int → BitVec 128 → Int
  tiE : Int → Int → BitVec 128 → Int
  tA : Int → Int → BitVec 128 → Prop
  tR : Int → Int → BitVec 128 → Prop
  tY : Int → Int → BitVec 128 → Prop
  fitY : Int → BitVec 128 → Prop
  fitF : Int → BitVec 128 → Prop
  lN1 : Int → Int → BitVec 128 → Prop
  lN2 : Int → Int → BitVec 128 → Prop
noncomputable def ropsY : OpsY where
  fiW := fun f m n => rW f m (decide (n < 0)) 0 (nS n) false
  fiX := fun f m n => rX f m (decide (n < 0)) 0 (nS n) false
  fiE := fun f m => bif fOk f && isM m then 0 else 1
  cwS := cwS
  cwX := whX
  cwF := cwF
  rg := fun e => -1048576 ≤ e ∧ e ≤ 1048576
  tiN := tiN
  tiX := tiX
  tiE := tiE
  tA := fun f m w => tiOk f m w = false
  tR := fun f m w => tiOk f m w = true ∧ tiFit f m w = false
  tY := fun f m w => tiOk f m w = true ∧ tiFit f m w = true
  fitY := fun f w => fFits f w = true
  fitF := fun f w => fFits f w = false
  lN1 := fun _ m _ => isM m = false
  lN2 := fun f m w => isM m = true ∧ fFits f w = false
def s_fromInt (S : OpsY) : List LV → R LV
  | [.int _ f, .int _ m, .int _ n] => .ok (.tup [.word (S.fiW f m n), .int .i64 (S.fiX f m n), .int .i64 (S.fiE f m)])
  | _ => .fail
def s_cwhole (S : OpsY) : List LV → R LV
  | [.agg [.bool b, .int _ e, .wide s], .int _ m] => .req (S.rg e) (.ok (.tup [.wide (S.cwS m b s e), .bool (S.cwX m s e), .bool (S.cwF m b s e)]))
  | _ => .fail
def s_toInt (S : OpsY) : List LV → R LV
  | [.int _ f, .int _ m, .word w] => .ok (.tup [.int .i64 (S.tiN f m w), .int .i64 (S.tiX f m w), .int .i64 (S.tiE f m w)])
  | _ => .fail
def s_toIntA (S : OpsY) : List LV → R LV
  | [.int _ f, .int _ m, .word w] => .req (S.tA f m w) (.ok (.tup [.lit .i64 0, .lit .i64 0, .lit .i64 1]))
  | _ => .fail
def s_toIntR (S : OpsY) : List LV → R LV
  | [.int _ f, .int _ m, .word w] => .req (S.tR f m w) (.ok (.tup [.lit .i64 0, .lit .i64 1, .lit .i64 4]))
  | _ => .fail
def s_toIntY (S : OpsY) : List LV → R LV
  | [.int _ f, .int _ m, .word w] => .req (S.tY f m w) (.ok (.tup [.int .i64 (S.tiN f m w), .int .i64 (S.tiX f m w), .lit .i64 0]))
  | _ => .fail
def s_fits05Y (S : OpsY) : List LV → R LV
  | [.int _ f, .word w] => .req (S.fitY f w) (.ok (.blit true))
  | _ => .fail
def s_fits05N (S : OpsY) : List LV → R LV
  | [.int _ f, .word w] => .req (S.fitF f w) (.ok (.blit false))
  | _ => .fail
def s_ConvertToIntN1 (S : OpsY) : List LV → R LV
  | [.int _ f, .int _ m, .word w] => .req (S.lN1 f m w) (.ok (.bool true))
  | _ => .fail
def s_ConvertToIntN2 (S : OpsY) : List LV → R LV
  | [.int _ f, .int _ m, .word w] => .req (S.lN2 f m w) (.ok (.bool true))
  | _ => .fail
def s_ConvertToIntR (S : OpsY) : List LV → R LV
  | [.int _ f, .int _ m, .word w] => .req (S.tR f m w) (.ok (.bool true))
  | _ => .fail
def s_ConvertToIntY (S : OpsY) : List LV → R LV
  | [.int _ f, .int _ m, .word w] => .req (S.tY f m w) (.ok (.bool true))
  | _ => .fail
def s_ConvertInts (_ : OpsY) : List LV → R LV := fun _ => .ok (.bool true)
def s_ConvertToInt (_ : OpsY) : List LV → R LV := fun _ => .ok (.bool true)
theorem wrap_i64_u {n : Int} (h : 0 ≤ n ∧ n < 18446744073709551616) : IntKind.i64.wrap n = if n < 9223372036854775808 then n else n - 18446744073709551616 := by
  simp only [IntKind.wrap, IntKind.signed, IntKind.bits]
  simp
  split <;> split <;> omega
theorem right_small {f : Int} (hk : fOk f = true) {s : W} (hs : wLen s ≤ 64) : rightN (fPrec f) 0 s false = true := by
  have hf : 1 ≤ f ∧ f ≤ 4 := of_decide_eq_true hk
  have hp := p_rng f hf
  unfold rightN
  rw [decide_eq_true (show 1 ≤ fPrec f ∧ fPrec f ≤ 500 by omega), decide_eq_true (show wLen s ≤ 511 by omega)]
  rfl
theorem nS_len {n : Int} (h : -9223372036854775808 ≤ n ∧ n ≤ 9223372036854775807) : wLen (nS n) ≤ 64 := by
  rw [len64_lt, nS_nat h]; omega
theorem p_fromInt : SpecOk Tryz.prog globs 33 (mkSpec real [.int .i64, .int .i64, .int .i64] (s_fromInt ropsY)) := by
  have hfns : FnsOk Tryz.prog globs [(82, .spec (mkSpec real [.ints .u64] (s_of rops))), (69, .spec (mkSpec real [.int .i64, .int .i64, .st [.bool, .int .i64, .wide], .bool] (s_round ropsT)))] := (fnsCons (fnSpec (p_of)) (fnsCons (fnSpec (p_round)) fnsNil))
  refine spec0 hfns (by kernel_rfl) Tryz.func33 (by kernel_rfl) (by kernel_rfl) (by kernel_rfl) 4 _ _ (.tup [.word, .int .i64, .int .i64]) ?_
  clear hfns
  generalize hEE : env0 [(82, .spec (mkSpec real [.ints .u64] (s_of rops))), (69, .spec (mkSpec real [.int .i64, .int .i64, .st [.bool, .int .i64, .wide], .bool] (s_round ropsT)))] = EE
  intro l r hl hr
  simp only [Forms, Form] at hl
  obtain ⟨_, _, rfl, ⟨x1, rfl, x1lo, x1hi⟩, _, _, rfl, ⟨x2, rfl, x2lo, x2hi⟩, _, _, rfl, ⟨x3, rfl, x3lo, x3hi⟩, rfl⟩ := hl
  subst hEE
  generalize hK : kR (.tup [.word, .int .i64, .int .i64]) r = K
  generalize hO : real = O
  generalize hS0 : rops = S0
  generalize hS1 : ropsB = S1
  generalize hS2 : ropsC = S2
  generalize hS3 : ropsD = S3
  generalize hS4 : ropsE = S4
  generalize hS5 : ropsF = S5
  generalize hS6 : ropsG = S6
  generalize hS7 : ropsH = S7
  generalize hS8 : ropsI = S8
  generalize hS9 : ropsJ = S9
  generalize hS10 : ropsK = S10
  generalize hS11 : ropsL = S11
  generalize hS12 : ropsM = S12
  generalize hS13 : ropsN = S13
  generalize hS14 : ropsP = S14
  generalize hS15 : ropsQ = S15
  generalize hS16 : ropsT = S16
  generalize hS17 : ropsU = S17
  generalize hS18 : ropsV = S18
  generalize hS19 : ropsW = S19
  generalize hS20 : ropsX = S20
  generalize hS21 : ropsY = S21
  set_option maxRecDepth 100000 in cbv
  subst hO hK hS0 hS1 hS2 hS3 hS4 hS5 hS6 hS7 hS8 hS9 hS10 hS11 hS12 hS13 hS14 hS15 hS16 hS17 hS18 hS19 hS20 hS21
  simp only [s_fromInt, R.Y] at hr
  subst hr
  try dsimp only [real, rops, ropsB, ropsC, ropsD, ropsE, ropsF, ropsG, ropsH, ropsI, ropsJ, ropsK, ropsL, ropsM, ropsN, ropsP, ropsQ, ropsT, ropsU, ropsV, ropsW, ropsX, ropsY]
  rw [i64_min] at x3lo
  rw [i64_max] at x3hi
  have hl := nS_len (n := x3) ⟨x3lo, x3hi⟩
  have hE : rE x1 x2 0 (nS x3) false = bif fOk x1 && isM x2 then 0 else 1 := by
    unfold rE rOk
    cases hk : fOk x1 with
    | false => rfl
    | true => rw [right_small hk hl]; cases isM x2 <;> rfl
  rw [lss_dec]
  refine ⟨imp_f fun h => ?_, imp_t fun h => ?_⟩
  · rw [decide_eq_true_eq] at h
    have e1 : unR .neg .u64 (IntKind.u64.wrap x3) = -x3 := by
      show IntKind.u64.wrap (-(IntKind.u64.wrap x3)) = -x3
      rw [wrap_u64, wrap_u64]; omega
    have e2 : ofLimbsR (-x3) 0 0 0 0 0 0 0 = nS x3 := by unfold nS; rw [if_pos h]
    rw [e1, e2, hE]
    simp only [kR, canon, canons, getW, getWord, allInts8, asInt, isK, kindEq, isArgB, strOf, cBig, cInts, cWords, allInts, allWords, r_ofLimbs, r_mkWord, Option.some.injEq, LV.wide.injEq, LV.word.injEq, LV.int.injEq, LV.bool.injEq, LV.str.injEq, LV.big.injEq, LV.tup.injEq, LV.agg.injEq, List.cons.injEq, and_true, true_and]
  · rw [decide_eq_false_iff_not] at h
    have e1 : IntKind.u64.wrap x3 = x3 := wrap_u64_of (by omega) (by omega)
    have e2 : ofLimbsR x3 0 0 0 0 0 0 0 = nS x3 := by unfold nS; rw [if_neg h]
    rw [e1, e2, hE]
    simp only [kR, canon, canons, getW, getWord, allInts8, asInt, isK, kindEq, isArgB, strOf, cBig, cInts, cWords, allInts, allWords, r_ofLimbs, r_mkWord, Option.some.injEq, LV.wide.injEq, LV.word.injEq, LV.int.injEq, LV.bool.injEq, LV.str.injEq, LV.big.injEq, LV.tup.injEq, LV.agg.injEq, List.cons.injEq, and_true, true_and]
theorem p_cwhole : SpecOk Tryz.prog globs 86 (mkSpec real [.st [.bool, .int .i64, .wide], .int .i64] (s_cwhole ropsY)) := by
  have hfns : FnsOk Tryz.prog globs [(56, .spec (mkSpec real [.wide, .int .i64] (s_shl rops))), (106, .spec (mkSpec real [.wide] (s_wLen rops))), (88, .spec (mkSpec real [.wide, .int .i64, .bool, .int .i64, .bool] (s_cut ropsT)))] := (fnsCons (fnSpec (p_shl)) (fnsCons (fnSpec (p_wLen)) (fnsCons (fnSpec (p_cut)) fnsNil)))
  refine spec0 hfns (by kernel_rfl) Tryz.func86 (by kernel_rfl) (by kernel_rfl) (by kernel_rfl) 4 _ _ (.tup [.wide, .bool, .bool]) ?_
  clear hfns
  generalize hEE : env0 [(56, .spec (mkSpec real [.wide, .int .i64] (s_shl rops))), (106, .spec (mkSpec real [.wide] (s_wLen rops))), (88, .spec (mkSpec real [.wide, .int .i64, .bool, .int .i64, .bool] (s_cut ropsT)))] = EE
  intro l r hl hr
  simp only [Forms, Form] at hl
  obtain ⟨_, _, rfl, ⟨_, rfl, ⟨_, _, rfl, ⟨x1_1, rfl⟩, _, _, rfl, ⟨x1_2, rfl, x1_2lo, x1_2hi⟩, _, _, rfl, ⟨x1_3, rfl⟩, rfl⟩⟩, _, _, rfl, ⟨x2, rfl, x2lo, x2hi⟩, rfl⟩ := hl
  subst hEE
  generalize hK : kR (.tup [.wide, .bool, .bool]) r = K
  generalize hO : real = O
  generalize hS0 : rops = S0
  generalize hS1 : ropsB = S1
  generalize hS2 : ropsC = S2
  generalize hS3 : ropsD = S3
  generalize hS4 : ropsE = S4
  generalize hS5 : ropsF = S5
  generalize hS6 : ropsG = S6
  generalize hS7 : ropsH = S7
  generalize hS8 : ropsI = S8
  generalize hS9 : ropsJ = S9
  generalize hS10 : ropsK = S10
  generalize hS11 : ropsL = S11
  generalize hS12 : ropsM = S12
  generalize hS13 : ropsN = S13
  generalize hS14 : ropsP = S14
  generalize hS15 : ropsQ = S15
  generalize hS16 : ropsT = S16
  generalize hS17 : ropsU = S17
  generalize hS18 : ropsV = S18
  generalize hS19 : ropsW = S19
  generalize hS20 : ropsX = S20
  generalize hS21 : ropsY = S21
  set_option maxRecDepth 100000 in cbv
  subst hO hK hS0 hS1 hS2 hS3 hS4 hS5 hS6 hS7 hS8 hS9 hS10 hS11 hS12 hS13 hS14 hS15 hS16 hS17 hS18 hS19 hS20 hS21
  simp only [s_cwhole, R.Y] at hr
  try dsimp only [real, rops, ropsB, ropsC, ropsD, ropsE, ropsF, ropsG, ropsH, ropsI, ropsJ, ropsK, ropsL, ropsM, ropsN, ropsP, ropsQ, ropsT, ropsU, ropsV, ropsW, ropsX, ropsY]
  obtain ⟨he, hr⟩ := hr
  subst hr
  dsimp only [ropsY]
  replace he : -1048576 ≤ x1_2 ∧ x1_2 ≤ 1048576 := he
  have hl := wLen_le x1_3
  rw [neg_i64 (by omega), add_i64 (by omega) (by omega), leq_dec, leq_dec]
  unfold cwS cwF whX
  refine ⟨imp_f fun h => ?_, imp_t fun h => ?_⟩
  · rw [c_geq_t] at h
    rw [if_pos h, if_pos h, if_pos h]
    simp only [kR, canon, canons, getW, getWord, allInts8, asInt, isK, kindEq, isArgB, strOf, cBig, cInts, cWords, allInts, allWords, r_ofLimbs, r_mkWord, Option.some.injEq, LV.wide.injEq, LV.word.injEq, LV.int.injEq, LV.bool.injEq, LV.str.injEq, LV.big.injEq, LV.tup.injEq, LV.agg.injEq, List.cons.injEq, and_true, true_and]
  · rw [c_geq_f] at h
    rw [if_neg (by omega), if_neg (by omega), if_neg (by omega)]
    simp only [kR, canon, canons, getW, getWord, allInts8, asInt, isK, kindEq, isArgB, strOf, cBig, cInts, cWords, allInts, allWords, r_ofLimbs, r_mkWord, Option.some.injEq, LV.wide.injEq, LV.word.injEq, LV.int.injEq, LV.bool.injEq, LV.str.injEq, LV.big.injEq, LV.tup.injEq, LV.agg.injEq, List.cons.injEq, and_true, true_and]
theorem p_toInt : SpecOk Tryz.prog globs 36 (mkSpec real [.int .i64, .int .i64, .word] (s_toInt ropsY)) := by
  have hfns : FnsOk Tryz.prog globs [(66, .spec (mkSpec real [.int .i64] (s_mIs ropsT))), (67, .spec (mkSpec real [.int .i64, .word] (s_fits ropsB))), (47, .spec (mkSpec real [.int .i64, .word] (s_value ropsL))), (86, .spec (mkSpec real [.st [.bool, .int .i64, .wide], .int .i64] (s_cwhole ropsY)))] := (fnsCons (fnSpec (p_mIs)) (fnsCons (fnSpec (p_fits)) (fnsCons (fnSpec (p_value)) (fnsCons (fnSpec (p_cwhole)) fnsNil))))
  refine spec0 hfns (by kernel_rfl) Tryz.func36 (by kernel_rfl) (by kernel_rfl) (by kernel_rfl) 4 _ _ (.tup [.int .i64, .int .i64, .int .i64]) ?_
  clear hfns
  generalize hEE : env0 [(66, .spec (mkSpec real [.int .i64] (s_mIs ropsT))), (67, .spec (mkSpec real [.int .i64, .word] (s_fits ropsB))), (47, .spec (mkSpec real [.int .i64, .word] (s_value ropsL))), (86, .spec (mkSpec real [.st [.bool, .int .i64, .wide], .int .i64] (s_cwhole ropsY)))] = EE
  intro l r hl hr
  simp only [Forms, Form] at hl
  obtain ⟨_, _, rfl, ⟨x1, rfl, x1lo, x1hi⟩, _, _, rfl, ⟨x2, rfl, x2lo, x2hi⟩, _, _, rfl, ⟨x3, rfl⟩, rfl⟩ := hl
  subst hEE
  generalize hK : kR (.tup [.int .i64, .int .i64, .int .i64]) r = K
  generalize hO : real = O
  generalize hS0 : rops = S0
  generalize hS1 : ropsB = S1
  generalize hS2 : ropsC = S2
  generalize hS3 : ropsD = S3
  generalize hS4 : ropsE = S4
  generalize hS5 : ropsF = S5
  generalize hS6 : ropsG = S6
  generalize hS7 : ropsH = S7
  generalize hS8 : ropsI = S8
  generalize hS9 : ropsJ = S9
  generalize hS10 : ropsK = S10
  generalize hS11 : ropsL = S11
  generalize hS12 : ropsM = S12
  generalize hS13 : ropsN = S13
  generalize hS14 : ropsP = S14
  generalize hS15 : ropsQ = S15
  generalize hS16 : ropsT = S16
  generalize hS17 : ropsU = S17
  generalize hS18 : ropsV = S18
  generalize hS19 : ropsW = S19
  generalize hS20 : ropsX = S20
  generalize hS21 : ropsY = S21
  set_option maxRecDepth 100000 in cbv
  subst hO hK hS0 hS1 hS2 hS3 hS4 hS5 hS6 hS7 hS8 hS9 hS10 hS11 hS12 hS13 hS14 hS15 hS16 hS17 hS18 hS19 hS20 hS21
  simp only [s_toInt, R.Y] at hr
  subst hr
  try dsimp only [real, rops, ropsB, ropsC, ropsD, ropsE, ropsF, ropsG, ropsH, ropsI, ropsJ, ropsK, ropsL, ropsM, ropsN, ropsP, ropsQ, ropsT, ropsU, ropsV, ropsW, ropsX, ropsY]
  have leaf0 : tiOk x1 x2 x3 = false → kR (AT.tup [AT.int IntKind.i64, AT.int IntKind.i64, AT.int IntKind.i64]) (LV.tup [LV.int IntKind.i64 (tiN x1 x2 x3), LV.int IntKind.i64 (tiX x1 x2 x3), LV.int IntKind.i64 (tiE x1 x2 x3)])
      (LV.tup [LV.lit IntKind.i64 0, LV.lit IntKind.i64 0, LV.lit IntKind.i64 1]) := fun h => by
    unfold tiN tiX tiE
    rw [h]
    simp only [kR, canon, canons, getW, getWord, allInts8, asInt, isK, kindEq, isArgB, strOf, cBig, cInts, cWords, allInts, allWords, r_ofLimbs, r_mkWord, Option.some.injEq, LV.wide.injEq, LV.word.injEq, LV.int.injEq, LV.bool.injEq, LV.str.injEq, LV.big.injEq, LV.tup.injEq, LV.agg.injEq, List.cons.injEq, and_true, true_and]
    exact ⟨rfl, rfl, rfl⟩
  cases hm : isM x2 with
  | false => exact ⟨imp_f fun _ => leaf0 (by unfold tiOk; rw [hm]; rfl), imp_t fun h => by simp at h⟩
  | true =>
    refine ⟨imp_f fun h => by simp at h, imp_t fun _ => ?_⟩
    cases hF : fFits x1 x3 with
    | false => exact ⟨imp_f fun _ => leaf0 (by unfold tiOk; rw [hm, hF]; rfl), imp_t fun h => by simp at h⟩
    | true =>
      refine ⟨imp_f fun h => by simp at h, imp_t fun _ => ?_⟩
      have ho : tiOk x1 x2 x3 = true := by unfold tiOk; rw [hm, hF]; rfl
      have leaf4 : tiFit x1 x2 x3 = false → kR (AT.tup [AT.int IntKind.i64, AT.int IntKind.i64, AT.int IntKind.i64]) (LV.tup [LV.int IntKind.i64 (tiN x1 x2 x3), LV.int IntKind.i64 (tiX x1 x2 x3), LV.int IntKind.i64 (tiE x1 x2 x3)])
          (LV.tup [LV.lit IntKind.i64 0, LV.lit IntKind.i64 1, LV.lit IntKind.i64 4]) := fun h => by
        unfold tiN tiX tiE
        rw [h, ho]
        simp only [kR, canon, canons, getW, getWord, allInts8, asInt, isK, kindEq, isArgB, strOf, cBig, cInts, cWords, allInts, allWords, r_ofLimbs, r_mkWord, Option.some.injEq, LV.wide.injEq, LV.word.injEq, LV.int.injEq, LV.bool.injEq, LV.str.injEq, LV.big.injEq, LV.tup.injEq, LV.agg.injEq, List.cons.injEq, and_true, true_and]
        exact ⟨rfl, rfl, rfl⟩
      cases hfin : wFin x1 x3 with
      | false =>
        have hnf : tiFit x1 x2 x3 = false := by unfold tiFit; rw [hfin]; rfl
        have lf := leaf4 hnf
        rw [(v_no hfin).2.1, (v_no hfin).1]
        exact ⟨by decide, .inl rfl, .inr ⟨imp_f fun _ => lf, imp_t fun h => by simp at h⟩⟩
      | true =>
        have hrg := vExp_rng hfin
        obtain ⟨c1, c2⟩ := cw_fits hfin hm
        have hfit : tiFit x1 x2 x3 = (bif vNeg x1 x3 then decide (tiB x1 x2 x3 ≤ 9223372036854775808) else decide (tiB x1 x2 x3 < 9223372036854775808)) := by unfold tiFit; rw [hfin]; rfl
        refine ⟨by omega, ?_⟩
        by_cases hB : tiB x1 x2 x3 < 18446744073709551616
        · rw [c1, c2 hB, whX_int hm, decide_eq_true hB]
          simp only [gtr_dec]
          have hw : IntKind.i64.wrap (tiB x1 x2 x3 : Int) = if (tiB x1 x2 x3 : Int) < 9223372036854775808 then (tiB x1 x2 x3 : Int) else (tiB x1 x2 x3 : Int) - 18446744073709551616 := wrap_i64_u (by omega)
          have hw2 : tiB x1 x2 x3 ≤ 9223372036854775808 → IntKind.i64.wrap (unR .neg .u64 (tiB x1 x2 x3 : Int)) = -(tiB x1 x2 x3 : Int) := fun hle => by
            have e1 : unR .neg .u64 (tiB x1 x2 x3 : Int) = (-(tiB x1 x2 x3 : Int)) % 18446744073709551616 := wrap_u64 _
            rw [e1, wrap_i64_u (by omega)]
            split <;> omega
          have hN : tiN x1 x2 x3 = bif tiFit x1 x2 x3 then (bif vNeg x1 x3 then -(tiB x1 x2 x3 : Int) else (tiB x1 x2 x3 : Int)) else 0 := by unfold tiN; rw [ho]; rfl
          have hX : tiX x1 x2 x3 = bif tiFit x1 x2 x3 then (bif intX (vSig x1 x3) (vExp x1 x3) then 16 else 0) else 1 := by unfold tiX; rw [ho]; rfl
          have hE : tiE x1 x2 x3 = bif tiFit x1 x2 x3 then 0 else 4 := by unfold tiE; rw [ho]; rfl
          rw [hN, hX, hE, hfit]
          generalize tiB x1 x2 x3 = B at *
          cases vNeg x1 x3
          · by_cases hl : B < 9223372036854775808
            · have g1 : ¬ (9223372036854775807 : Int) < (B : Int) := by omega
              have g2 : (B : Int) < 9223372036854775808 := by omega
              rw [if_pos g2] at hw
              rw [hw]
              cases intX (vSig x1 x3) (vExp x1 x3) <;> simp [hl, g1, kR, canon, canons, isK, asInt, kindEq]
            · have g1 : (9223372036854775807 : Int) < (B : Int) := by omega
              simp [hl, g1, kR, canon, canons, isK, asInt, kindEq]
          · by_cases hl : B ≤ 9223372036854775808
            · have g1 : ¬ (9223372036854775808 : Int) < (B : Int) := by omega
              rw [hw2 hl]
              cases intX (vSig x1 x3) (vExp x1 x3) <;> simp [hl, g1, kR, canon, canons, isK, asInt, kindEq]
            · have g1 : (9223372036854775808 : Int) < (B : Int) := by omega
              simp [hl, g1, kR, canon, canons, isK, asInt, kindEq]
        · have hnf : tiFit x1 x2 x3 = false := by
            rw [hfit, decide_eq_false (show ¬ tiB x1 x2 x3 ≤ 9223372036854775808 by omega), decide_eq_false (show ¬ tiB x1 x2 x3 < 9223372036854775808 by omega)]
            cases vNeg x1 x3 <;> rfl
          have lf := leaf4 hnf
          rw [c1, decide_eq_false hB]
          refine ⟨imp_f fun _ => ⟨imp_f fun h => by simp at h, imp_t fun _ => ⟨imp_f fun _ => lf, imp_t fun h => by simp at h⟩⟩, imp_t fun _ => ⟨imp_f fun h => by simp at h, imp_t fun _ => ⟨imp_f fun _ => lf, imp_t fun h => by simp at h⟩⟩⟩
theorem p_ConvertInts : SpecOk Tryz.prog globs 6 (mkSpec real [.int .i64, .int .i64, .int .i64] (s_ConvertInts ropsY)) := by
  have hfns : FnsOk Tryz.prog globs [(33, .spec (mkSpec real [.int .i64, .int .i64, .int .i64] (s_fromInt ropsY))), (29, .spec (mkSpec real [.int .i64] (s_is rops))), (30, inlF Tryz.f30), (12, .spec (mkSpec real [.int .i64] (s_mIs08 ropsT))), (34, .spec (mkSpec real [.int .i64] (s_power02 ropsK))), (27, .spec (mkSpec real [.int .u64] (s_small01 ropsH))), (35, .spec (mkSpec real [.int .i64, .int .i64, .st [.bool, .int .i64, .big, .big, .int .i64]] (s_round09 ropsU))), (31, .spec (mkSpec real [] (s_awake29 ropsW)))] := (fnsCons (fnSpec (p_fromInt)) (fnsCons (fnSpec (p_is)) (fnsCons (inl_ok Tryz.func30 (by kernel_rfl) (by kernel_rfl)) (fnsCons (fnSpec (p_mIs08)) (fnsCons (fnSpec (p_power02)) (fnsCons (fnSpec (p_small01)) (fnsCons (fnSpec (p_round09)) (fnsCons (fnSpec (p_awake29)) fnsNil))))))))
  refine spec0 hfns (by kernel_rfl) Tryz.func6 (by kernel_rfl) (by kernel_rfl) (by kernel_rfl) 4 _ _ (.bool) ?_
  clear hfns
  generalize hEE : env0 [(33, .spec (mkSpec real [.int .i64, .int .i64, .int .i64] (s_fromInt ropsY))), (29, .spec (mkSpec real [.int .i64] (s_is rops))), (30, inlF Tryz.f30), (12, .spec (mkSpec real [.int .i64] (s_mIs08 ropsT))), (34, .spec (mkSpec real [.int .i64] (s_power02 ropsK))), (27, .spec (mkSpec real [.int .u64] (s_small01 ropsH))), (35, .spec (mkSpec real [.int .i64, .int .i64, .st [.bool, .int .i64, .big, .big, .int .i64]] (s_round09 ropsU))), (31, .spec (mkSpec real [] (s_awake29 ropsW)))] = EE
  intro l r hl hr
  simp only [Forms, Form] at hl
  obtain ⟨_, _, rfl, ⟨x1, rfl, x1lo, x1hi⟩, _, _, rfl, ⟨x2, rfl, x2lo, x2hi⟩, _, _, rfl, ⟨x3, rfl, x3lo, x3hi⟩, rfl⟩ := hl
  subst hEE
  generalize hK : kR (.bool) r = K
  generalize hO : real = O
  generalize hS0 : rops = S0
  generalize hS1 : ropsB = S1
  generalize hS2 : ropsC = S2
  generalize hS3 : ropsD = S3
  generalize hS4 : ropsE = S4
  generalize hS5 : ropsF = S5
  generalize hS6 : ropsG = S6
  generalize hS7 : ropsH = S7
  generalize hS8 : ropsI = S8
  generalize hS9 : ropsJ = S9
  generalize hS10 : ropsK = S10
  generalize hS11 : ropsL = S11
  generalize hS12 : ropsM = S12
  generalize hS13 : ropsN = S13
  generalize hS14 : ropsP = S14
  generalize hS15 : ropsQ = S15
  generalize hS16 : ropsT = S16
  generalize hS17 : ropsU = S17
  generalize hS18 : ropsV = S18
  generalize hS19 : ropsW = S19
  generalize hS20 : ropsX = S20
  generalize hS21 : ropsY = S21
  set_option maxRecDepth 100000 in cbv
  subst hO hK hS0 hS1 hS2 hS3 hS4 hS5 hS6 hS7 hS8 hS9 hS10 hS11 hS12 hS13 hS14 hS15 hS16 hS17 hS18 hS19 hS20 hS21
  simp only [s_ConvertInts, R.Y] at hr
  subst hr
  try dsimp only [real, rops, ropsB, ropsC, ropsD, ropsE, ropsF, ropsG, ropsH, ropsI, ropsJ, ropsK, ropsL, ropsM, ropsN, ropsP, ropsQ, ropsT, ropsU, ropsV, ropsW, ropsX, ropsY]
  rw [i64_min] at x3lo
  rw [i64_max] at x3hi
  have hl := nS_len (n := x3) ⟨x3lo, x3hi⟩
  have hnn := nS_nat (n := x3) ⟨x3lo, x3hi⟩
  have no : (fOk x1 && isM x2) = false → rW x1 x2 (decide (x3 < 0)) 0 (nS x3) false = 0 ∧ rX x1 x2 (decide (x3 < 0)) 0 (nS x3) false = 0 := fun h => by
    have : rOk x1 x2 0 (nS x3) false = false := by unfold rOk; rw [← Bool.and_assoc, h]; rfl
    unfold rW rX; rw [this]; exact ⟨rfl, rfl⟩
  cases hk : fOk x1 with
  | false =>
    obtain ⟨a2, a3⟩ := no (by rw [hk]; rfl)
    simp [a2, a3, mkWord_0, eql_self, kb_t]
  | true =>
    cases hm : isM x2 with
    | false =>
      obtain ⟨a2, a3⟩ := no (by rw [hk, hm]; rfl)
      simp [a2, a3, mkWord_0, eql_self, kb_t]
    | true =>
      have hf : 1 ≤ x1 ∧ x1 ≤ 4 := of_decide_eq_true hk
      have ho : rOk x1 x2 0 (nS x3) false = true := by unfold rOk; rw [hk, hm, right_small hk hl]; rfl
      by_cases hz : x3 = 0
      · subst hz
        have hs0 : nS 0 = 0 := by rw [w_zero, hnn]; rfl
        have a2 : rW x1 x2 (decide ((0 : Int) < 0)) 0 (nS 0) false = 0 := by
          unfold rW
          rw [ho, cond_true, if_pos hs0]
          unfold fNought fWordOf
          rw [if_pos hf]
          rfl
        have a3 : rX x1 x2 (decide ((0 : Int) < 0)) 0 (nS 0) false = 0 := by unfold rX; rw [ho, cond_true, if_pos hs0]
        rw [a2, a3]
        simp [mkWord_0, eql_self, kb_t]
      · have hs0 : nS x3 ≠ 0 := fun hh => by rw [w_zero, hnn] at hh; omega
        have a2 : rW x1 x2 (decide (x3 < 0)) 0 (nS x3) false = rdW x1 x2 (decide (x3 < 0)) x3.natAbs 0 := by
          unfold rW; rw [ho, cond_true, if_neg hs0, ← hnn]; rfl
        have a3 : rX x1 x2 (decide (x3 < 0)) 0 (nS x3) false = rdX x1 x2 (decide (x3 < 0)) x3.natAbs 0 := by
          unfold rX; rw [ho, cond_true, if_neg hs0, ← hnn]; rfl
        have hb : bitN x3.natAbs ≤ 64 := bitN_le.2 (by show x3.natAbs < 18446744073709551616; omega)
        have okr : okR x3.natAbs 0 := ⟨by omega, by omega, by decide, by decide⟩
        have z0 : cmpR .eql x3 0 = false := by rw [c_eql_f]; exact hz
        have h63 : (0 : Int) ≤ 63 ∧ (63 : Int) ≤ 17179869184 := by decide
        have t1 : Int.toNat 1 = 1 := rfl
        rw [a2, a3, z0]
        simp only [lss_dec, gtr_dec]
        by_cases hp : 0 < x3
        · have e1 : (IntKind.u64.wrap x3).toNat = x3.natAbs := by rw [wrap_u64_of (by omega) (by omega)]; omega
          rw [e1]
          simp [hp, okr, hf, t1, eql_self, kb_t]
        · by_cases hmin : -9223372036854775808 < x3
          · have e1 : (IntKind.u64.wrap (unR .neg .i64 x3)).toNat = x3.natAbs := by rw [neg_i64 (by omega), wrap_u64_of (by omega) (by omega)]; omega
            rw [e1]
            simp [hp, hmin, okr, hf, t1, eql_self, kb_t]
          · have e1 : (1 : Nat) * 2 ^ Int.toNat 63 = x3.natAbs := by show 9223372036854775808 = x3.natAbs; omega
            have e2 : (2 : Nat) ^ Int.toNat 63 = x3.natAbs := by show 9223372036854775808 = x3.natAbs; omega
            try rw [e1]
            try rw [e2]
            simp [hp, hmin, okr, hf, t1, eql_self, kb_t]
theorem same_3 {a b c : Int} : Same (.tup [.int .i64 a, .int .i64 b, .int .i64 c]) (.tup [.lit .i64 a, .lit .i64 b, .lit .i64 c]) := by
  intro ρ w v h
  simpa only [VV, VVs, VC, VCs] using h
theorem same_1 {a b c : Int} : Same (.tup [.int .i64 a, .int .i64 b, .int .i64 c]) (.tup [.int .i64 a, .int .i64 b, .lit .i64 c]) := by
  intro ρ w v h
  simpa only [VV, VVs, VC, VCs] using h
theorem p_toIntA : SpecOk Tryz.prog globs 36 (mkSpec real [.int .i64, .int .i64, .word] (s_toIntA ropsY)) := by
  refine spec_as p_toInt ?_
  intro l r h
  unfold s_toIntA at h
  split at h
  · rename_i k f k2 m w
    obtain ⟨h1, rfl⟩ := h
    refine ⟨_, rfl, ?_⟩
    show Same (.tup [.int .i64 (tiN f m w), .int .i64 (tiX f m w), .int .i64 (tiE f m w)]) _
    have h1 : tiOk f m w = false := h1
    unfold tiN tiX tiE
    rw [h1]
    exact same_3
  · exact h.elim
theorem p_toIntR : SpecOk Tryz.prog globs 36 (mkSpec real [.int .i64, .int .i64, .word] (s_toIntR ropsY)) := by
  refine spec_as p_toInt ?_
  intro l r h
  unfold s_toIntR at h
  split at h
  · rename_i k f k2 m w
    obtain ⟨h1, rfl⟩ := h
    refine ⟨_, rfl, ?_⟩
    show Same (.tup [.int .i64 (tiN f m w), .int .i64 (tiX f m w), .int .i64 (tiE f m w)]) _
    obtain ⟨h1, h2⟩ := h1
    unfold tiN tiX tiE
    rw [h1, h2]
    exact same_3
  · exact h.elim
theorem p_toIntY : SpecOk Tryz.prog globs 36 (mkSpec real [.int .i64, .int .i64, .word] (s_toIntY ropsY)) := by
  refine spec_as p_toInt ?_
  intro l r h
  unfold s_toIntY at h
  split at h
  · rename_i k f k2 m w
    obtain ⟨h1, rfl⟩ := h
    refine ⟨_, rfl, ?_⟩
    show Same (.tup [.int .i64 (tiN f m w), .int .i64 (tiX f m w), .int .i64 (tiE f m w)]) _
    obtain ⟨h1, h2⟩ := h1
    have e : tiE f m w = 0 := by unfold tiE; rw [h1, h2]; rfl
    rw [e]
    exact same_1
  · exact h.elim
theorem p_fits05Y : SpecOk Tryz.prog globs 13 (mkSpec real [.int .i64, .word] (s_fits05Y ropsY)) := by
  refine spec_as p_fits05 ?_
  intro l r h
  unfold s_fits05Y at h
  split at h
  · rename_i k f w
    obtain ⟨h1, rfl⟩ := h
    have h1 : fFits f w = true := h1
    refine ⟨_, rfl, ?_⟩
    show Same (.bool (fFits f w)) _
    rw [h1]
    exact same_blit _
  · exact h.elim
theorem p_fits05N : SpecOk Tryz.prog globs 13 (mkSpec real [.int .i64, .word] (s_fits05N ropsY)) := by
  refine spec_as p_fits05 ?_
  intro l r h
  unfold s_fits05N at h
  split at h
  · rename_i k f w
    obtain ⟨h1, rfl⟩ := h
    have h1 : fFits f w = false := h1
    refine ⟨_, rfl, ?_⟩
    show Same (.bool (fFits f w)) _
    rw [h1]
    exact same_blit _
  · exact h.elim
theorem p_ConvertToIntN1 : SpecOk Tryz.prog globs 7 (mkSpec real [.int .i64, .int .i64, .word] (s_ConvertToIntN1 ropsY)) := by
  have hfns : FnsOk Tryz.prog globs [(36, .spec (mkSpec real [.int .i64, .int .i64, .word] (s_toIntA ropsY))), (30, inlF Tryz.f30), (12, .spec (mkSpec real [.int .i64] (s_mIs08N ropsV))), (13, .spec (mkSpec real [.int .i64, .word] (s_fits05 ropsB))), (19, .spec (mkSpec real [.int .i64, .word] (s_class06 ropsC))), (22, .spec (mkSpec real [.int .i64, .word] (s_value07 ropsM))), (37, .spec (mkSpec real [.st [.bool, .int .i64, .wide], .int .i64] (s_int29 ropsX))), (38, .spec (mkSpec real [.big, .bool] (s_fits29 ropsX))), (34, .spec (mkSpec real [.int .i64] (s_power02 ropsK))), (27, .spec (mkSpec real [.int .u64] (s_small01 ropsH))), (25, .spec (mkSpec real [.big, .big] (s_cmp01 ropsH))), (31, .spec (mkSpec real [] (s_awake29 ropsW)))] := (fnsCons (fnSpec (p_toIntA)) (fnsCons (inl_ok Tryz.func30 (by kernel_rfl) (by kernel_rfl)) (fnsCons (fnSpec (p_mIs08N)) (fnsCons (fnSpec (p_fits05)) (fnsCons (fnSpec (p_class06)) (fnsCons (fnSpec (p_value07)) (fnsCons (fnSpec (p_int29)) (fnsCons (fnSpec (p_fits29)) (fnsCons (fnSpec (p_power02)) (fnsCons (fnSpec (p_small01)) (fnsCons (fnSpec (p_cmp01)) (fnsCons (fnSpec (p_awake29)) fnsNil))))))))))))
  refine spec0 hfns (by kernel_rfl) Tryz.func7 (by kernel_rfl) (by kernel_rfl) (by kernel_rfl) 4 _ _ (.bool) ?_
  clear hfns
  generalize hEE : env0 [(36, .spec (mkSpec real [.int .i64, .int .i64, .word] (s_toIntA ropsY))), (30, inlF Tryz.f30), (12, .spec (mkSpec real [.int .i64] (s_mIs08N ropsV))), (13, .spec (mkSpec real [.int .i64, .word] (s_fits05 ropsB))), (19, .spec (mkSpec real [.int .i64, .word] (s_class06 ropsC))), (22, .spec (mkSpec real [.int .i64, .word] (s_value07 ropsM))), (37, .spec (mkSpec real [.st [.bool, .int .i64, .wide], .int .i64] (s_int29 ropsX))), (38, .spec (mkSpec real [.big, .bool] (s_fits29 ropsX))), (34, .spec (mkSpec real [.int .i64] (s_power02 ropsK))), (27, .spec (mkSpec real [.int .u64] (s_small01 ropsH))), (25, .spec (mkSpec real [.big, .big] (s_cmp01 ropsH))), (31, .spec (mkSpec real [] (s_awake29 ropsW)))] = EE
  intro l r hl hr
  simp only [Forms, Form] at hl
  obtain ⟨_, _, rfl, ⟨x1, rfl, x1lo, x1hi⟩, _, _, rfl, ⟨x2, rfl, x2lo, x2hi⟩, _, _, rfl, ⟨x3, rfl⟩, rfl⟩ := hl
  subst hEE
  generalize hK : kR (.bool) r = K
  generalize hO : real = O
  generalize hS0 : rops = S0
  generalize hS1 : ropsB = S1
  generalize hS2 : ropsC = S2
  generalize hS3 : ropsD = S3
  generalize hS4 : ropsE = S4
  generalize hS5 : ropsF = S5
  generalize hS6 : ropsG = S6
  generalize hS7 : ropsH = S7
  generalize hS8 : ropsI = S8
  generalize hS9 : ropsJ = S9
  generalize hS10 : ropsK = S10
  generalize hS11 : ropsL = S11
  generalize hS12 : ropsM = S12
  generalize hS13 : ropsN = S13
  generalize hS14 : ropsP = S14
  generalize hS15 : ropsQ = S15
  generalize hS16 : ropsT = S16
  generalize hS17 : ropsU = S17
  generalize hS18 : ropsV = S18
  generalize hS19 : ropsW = S19
  generalize hS20 : ropsX = S20
  generalize hS21 : ropsY = S21
  set_option maxRecDepth 100000 in cbv
  subst hO hK hS0 hS1 hS2 hS3 hS4 hS5 hS6 hS7 hS8 hS9 hS10 hS11 hS12 hS13 hS14 hS15 hS16 hS17 hS18 hS19 hS20 hS21
  simp only [s_ConvertToIntN1, R.Y] at hr
  obtain ⟨hreq, hr⟩ := hr
  try dsimp only [rops, ropsB, ropsC, ropsD, ropsE, ropsF, ropsG, ropsH, ropsI, ropsJ, ropsK, ropsL, ropsM, ropsN, ropsP, ropsQ, ropsT, ropsU, ropsV, ropsW, ropsX, ropsY] at hreq
  subst hr
  try dsimp only [real, rops, ropsB, ropsC, ropsD, ropsE, ropsF, ropsG, ropsH, ropsI, ropsJ, ropsK, ropsL, ropsM, ropsN, ropsP, ropsQ, ropsT, ropsU, ropsV, ropsW, ropsX, ropsY]
  have ho : tiOk x1 x2 x3 = false := by unfold tiOk; rw [hreq]; rfl
  exact ⟨ho, hreq, by simp [kb_t]⟩
theorem p_ConvertToIntN2 : SpecOk Tryz.prog globs 7 (mkSpec real [.int .i64, .int .i64, .word] (s_ConvertToIntN2 ropsY)) := by
  have hfns : FnsOk Tryz.prog globs [(36, .spec (mkSpec real [.int .i64, .int .i64, .word] (s_toIntA ropsY))), (30, inlF Tryz.f30), (12, .spec (mkSpec real [.int .i64] (s_mIs08Y ropsV))), (13, .spec (mkSpec real [.int .i64, .word] (s_fits05N ropsY))), (19, .spec (mkSpec real [.int .i64, .word] (s_class06 ropsC))), (22, .spec (mkSpec real [.int .i64, .word] (s_value07 ropsM))), (37, .spec (mkSpec real [.st [.bool, .int .i64, .wide], .int .i64] (s_int29 ropsX))), (38, .spec (mkSpec real [.big, .bool] (s_fits29 ropsX))), (34, .spec (mkSpec real [.int .i64] (s_power02 ropsK))), (27, .spec (mkSpec real [.int .u64] (s_small01 ropsH))), (25, .spec (mkSpec real [.big, .big] (s_cmp01 ropsH))), (31, .spec (mkSpec real [] (s_awake29 ropsW)))] := (fnsCons (fnSpec (p_toIntA)) (fnsCons (inl_ok Tryz.func30 (by kernel_rfl) (by kernel_rfl)) (fnsCons (fnSpec (p_mIs08Y)) (fnsCons (fnSpec (p_fits05N)) (fnsCons (fnSpec (p_class06)) (fnsCons (fnSpec (p_value07)) (fnsCons (fnSpec (p_int29)) (fnsCons (fnSpec (p_fits29)) (fnsCons (fnSpec (p_power02)) (fnsCons (fnSpec (p_small01)) (fnsCons (fnSpec (p_cmp01)) (fnsCons (fnSpec (p_awake29)) fnsNil))))))))))))
  refine spec0 hfns (by kernel_rfl) Tryz.func7 (by kernel_rfl) (by kernel_rfl) (by kernel_rfl) 4 _ _ (.bool) ?_
  clear hfns
  generalize hEE : env0 [(36, .spec (mkSpec real [.int .i64, .int .i64, .word] (s_toIntA ropsY))), (30, inlF Tryz.f30), (12, .spec (mkSpec real [.int .i64] (s_mIs08Y ropsV))), (13, .spec (mkSpec real [.int .i64, .word] (s_fits05N ropsY))), (19, .spec (mkSpec real [.int .i64, .word] (s_class06 ropsC))), (22, .spec (mkSpec real [.int .i64, .word] (s_value07 ropsM))), (37, .spec (mkSpec real [.st [.bool, .int .i64, .wide], .int .i64] (s_int29 ropsX))), (38, .spec (mkSpec real [.big, .bool] (s_fits29 ropsX))), (34, .spec (mkSpec real [.int .i64] (s_power02 ropsK))), (27, .spec (mkSpec real [.int .u64] (s_small01 ropsH))), (25, .spec (mkSpec real [.big, .big] (s_cmp01 ropsH))), (31, .spec (mkSpec real [] (s_awake29 ropsW)))] = EE
  intro l r hl hr
  simp only [Forms, Form] at hl
  obtain ⟨_, _, rfl, ⟨x1, rfl, x1lo, x1hi⟩, _, _, rfl, ⟨x2, rfl, x2lo, x2hi⟩, _, _, rfl, ⟨x3, rfl⟩, rfl⟩ := hl
  subst hEE
  generalize hK : kR (.bool) r = K
  generalize hO : real = O
  generalize hS0 : rops = S0
  generalize hS1 : ropsB = S1
  generalize hS2 : ropsC = S2
  generalize hS3 : ropsD = S3
  generalize hS4 : ropsE = S4
  generalize hS5 : ropsF = S5
  generalize hS6 : ropsG = S6
  generalize hS7 : ropsH = S7
  generalize hS8 : ropsI = S8
  generalize hS9 : ropsJ = S9
  generalize hS10 : ropsK = S10
  generalize hS11 : ropsL = S11
  generalize hS12 : ropsM = S12
  generalize hS13 : ropsN = S13
  generalize hS14 : ropsP = S14
  generalize hS15 : ropsQ = S15
  generalize hS16 : ropsT = S16
  generalize hS17 : ropsU = S17
  generalize hS18 : ropsV = S18
  generalize hS19 : ropsW = S19
  generalize hS20 : ropsX = S20
  generalize hS21 : ropsY = S21
  set_option maxRecDepth 100000 in cbv
  subst hO hK hS0 hS1 hS2 hS3 hS4 hS5 hS6 hS7 hS8 hS9 hS10 hS11 hS12 hS13 hS14 hS15 hS16 hS17 hS18 hS19 hS20 hS21
  simp only [s_ConvertToIntN2, R.Y] at hr
  obtain ⟨hreq, hr⟩ := hr
  try dsimp only [rops, ropsB, ropsC, ropsD, ropsE, ropsF, ropsG, ropsH, ropsI, ropsJ, ropsK, ropsL, ropsM, ropsN, ropsP, ropsQ, ropsT, ropsU, ropsV, ropsW, ropsX, ropsY] at hreq
  subst hr
  try dsimp only [real, rops, ropsB, ropsC, ropsD, ropsE, ropsF, ropsG, ropsH, ropsI, ropsJ, ropsK, ropsL, ropsM, ropsN, ropsP, ropsQ, ropsT, ropsU, ropsV, ropsW, ropsX, ropsY]
  obtain ⟨h1, h2⟩ := hreq
  have ho : tiOk x1 x2 x3 = false := by unfold tiOk; rw [h2, Bool.and_false]
  exact ⟨ho, h1, h2, by simp [kb_t]⟩
theorem p_ConvertToIntR : SpecOk Tryz.prog globs 7 (mkSpec real [.int .i64, .int .i64, .word] (s_ConvertToIntR ropsY)) := by
  have hfns : FnsOk Tryz.prog globs [(36, .spec (mkSpec real [.int .i64, .int .i64, .word] (s_toIntR ropsY))), (30, inlF Tryz.f30), (12, .spec (mkSpec real [.int .i64] (s_mIs08Y ropsV))), (13, .spec (mkSpec real [.int .i64, .word] (s_fits05Y ropsY))), (19, .spec (mkSpec real [.int .i64, .word] (s_class06 ropsC))), (22, .spec (mkSpec real [.int .i64, .word] (s_value07 ropsM))), (37, .spec (mkSpec real [.st [.bool, .int .i64, .wide], .int .i64] (s_int29 ropsX))), (38, .spec (mkSpec real [.big, .bool] (s_fits29 ropsX))), (34, .spec (mkSpec real [.int .i64] (s_power02 ropsK))), (27, .spec (mkSpec real [.int .u64] (s_small01 ropsH))), (25, .spec (mkSpec real [.big, .big] (s_cmp01 ropsH))), (31, .spec (mkSpec real [] (s_awake29 ropsW)))] := (fnsCons (fnSpec (p_toIntR)) (fnsCons (inl_ok Tryz.func30 (by kernel_rfl) (by kernel_rfl)) (fnsCons (fnSpec (p_mIs08Y)) (fnsCons (fnSpec (p_fits05Y)) (fnsCons (fnSpec (p_class06)) (fnsCons (fnSpec (p_value07)) (fnsCons (fnSpec (p_int29)) (fnsCons (fnSpec (p_fits29)) (fnsCons (fnSpec (p_power02)) (fnsCons (fnSpec (p_small01)) (fnsCons (fnSpec (p_cmp01)) (fnsCons (fnSpec (p_awake29)) fnsNil))))))))))))
  refine spec0 hfns (by kernel_rfl) Tryz.func7 (by kernel_rfl) (by kernel_rfl) (by kernel_rfl) 4 _ _ (.bool) ?_
  clear hfns
  generalize hEE : env0 [(36, .spec (mkSpec real [.int .i64, .int .i64, .word] (s_toIntR ropsY))), (30, inlF Tryz.f30), (12, .spec (mkSpec real [.int .i64] (s_mIs08Y ropsV))), (13, .spec (mkSpec real [.int .i64, .word] (s_fits05Y ropsY))), (19, .spec (mkSpec real [.int .i64, .word] (s_class06 ropsC))), (22, .spec (mkSpec real [.int .i64, .word] (s_value07 ropsM))), (37, .spec (mkSpec real [.st [.bool, .int .i64, .wide], .int .i64] (s_int29 ropsX))), (38, .spec (mkSpec real [.big, .bool] (s_fits29 ropsX))), (34, .spec (mkSpec real [.int .i64] (s_power02 ropsK))), (27, .spec (mkSpec real [.int .u64] (s_small01 ropsH))), (25, .spec (mkSpec real [.big, .big] (s_cmp01 ropsH))), (31, .spec (mkSpec real [] (s_awake29 ropsW)))] = EE
  intro l r hl hr
  simp only [Forms, Form] at hl
  obtain ⟨_, _, rfl, ⟨x1, rfl, x1lo, x1hi⟩, _, _, rfl, ⟨x2, rfl, x2lo, x2hi⟩, _, _, rfl, ⟨x3, rfl⟩, rfl⟩ := hl
  subst hEE
  generalize hK : kR (.bool) r = K
  generalize hO : real = O
  generalize hS0 : rops = S0
  generalize hS1 : ropsB = S1
  generalize hS2 : ropsC = S2
  generalize hS3 : ropsD = S3
  generalize hS4 : ropsE = S4
  generalize hS5 : ropsF = S5
  generalize hS6 : ropsG = S6
  generalize hS7 : ropsH = S7
  generalize hS8 : ropsI = S8
  generalize hS9 : ropsJ = S9
  generalize hS10 : ropsK = S10
  generalize hS11 : ropsL = S11
  generalize hS12 : ropsM = S12
  generalize hS13 : ropsN = S13
  generalize hS14 : ropsP = S14
  generalize hS15 : ropsQ = S15
  generalize hS16 : ropsT = S16
  generalize hS17 : ropsU = S17
  generalize hS18 : ropsV = S18
  generalize hS19 : ropsW = S19
  generalize hS20 : ropsX = S20
  generalize hS21 : ropsY = S21
  set_option maxRecDepth 100000 in cbv
  subst hO hK hS0 hS1 hS2 hS3 hS4 hS5 hS6 hS7 hS8 hS9 hS10 hS11 hS12 hS13 hS14 hS15 hS16 hS17 hS18 hS19 hS20 hS21
  simp only [s_ConvertToIntR, R.Y] at hr
  obtain ⟨hreq, hr⟩ := hr
  try dsimp only [rops, ropsB, ropsC, ropsD, ropsE, ropsF, ropsG, ropsH, ropsI, ropsJ, ropsK, ropsL, ropsM, ropsN, ropsP, ropsQ, ropsT, ropsU, ropsV, ropsW, ropsX, ropsY] at hreq
  subst hr
  try dsimp only [real, rops, ropsB, ropsC, ropsD, ropsE, ropsF, ropsG, ropsH, ropsI, ropsJ, ropsK, ropsL, ropsM, ropsN, ropsP, ropsQ, ropsT, ropsU, ropsV, ropsW, ropsX, ropsY]
  obtain ⟨ho, hfit⟩ := hreq
  obtain ⟨hm, hF⟩ : isM x2 = true ∧ fFits x1 x3 = true := by unfold tiOk at ho; simpa using ho
  have p63 : (2 : Nat) ^ 63 = 9223372036854775808 := rfl
  rw [p63]
  refine ⟨⟨ho, hfit⟩, hm, hF, imp_f fun _ => by simp [kb_t], imp_t fun h4 => ?_⟩
  rw [c_lss_f] at h4
  have hfin : wFin x1 x3 = true := (fin_iff _ _).2 h4
  have hrg := vExp_rng hfin
  have hb := int_bits (m := x2) hfin (vNeg x1 x3)
  have e : (bif vNeg x1 x3 then decide (intB x2 (vNeg x1 x3) (vSig x1 x3) (vExp x1 x3) ≤ 9223372036854775808) else decide (intB x2 (vNeg x1 x3) (vSig x1 x3) (vExp x1 x3) < 9223372036854775808)) = false := by
    unfold tiFit at hfit
    rw [hfin, Bool.true_and] at hfit
    exact hfit
  rw [e]
  exact ⟨hfin, ⟨by omega, by omega⟩, small_bits (k := 625) (by omega) (by decide), by simp [kb_t], .inl rfl⟩
theorem p_ConvertToIntY : SpecOk Tryz.prog globs 7 (mkSpec real [.int .i64, .int .i64, .word] (s_ConvertToIntY ropsY)) := by
  have hfns : FnsOk Tryz.prog globs [(36, .spec (mkSpec real [.int .i64, .int .i64, .word] (s_toIntY ropsY))), (30, inlF Tryz.f30), (12, .spec (mkSpec real [.int .i64] (s_mIs08Y ropsV))), (13, .spec (mkSpec real [.int .i64, .word] (s_fits05Y ropsY))), (19, .spec (mkSpec real [.int .i64, .word] (s_class06 ropsC))), (22, .spec (mkSpec real [.int .i64, .word] (s_value07 ropsM))), (37, .spec (mkSpec real [.st [.bool, .int .i64, .wide], .int .i64] (s_int29 ropsX))), (38, .spec (mkSpec real [.big, .bool] (s_fits29 ropsX))), (34, .spec (mkSpec real [.int .i64] (s_power02 ropsK))), (27, .spec (mkSpec real [.int .u64] (s_small01 ropsH))), (25, .spec (mkSpec real [.big, .big] (s_cmp01 ropsH))), (31, .spec (mkSpec real [] (s_awake29 ropsW)))] := (fnsCons (fnSpec (p_toIntY)) (fnsCons (inl_ok Tryz.func30 (by kernel_rfl) (by kernel_rfl)) (fnsCons (fnSpec (p_mIs08Y)) (fnsCons (fnSpec (p_fits05Y)) (fnsCons (fnSpec (p_class06)) (fnsCons (fnSpec (p_value07)) (fnsCons (fnSpec (p_int29)) (fnsCons (fnSpec (p_fits29)) (fnsCons (fnSpec (p_power02)) (fnsCons (fnSpec (p_small01)) (fnsCons (fnSpec (p_cmp01)) (fnsCons (fnSpec (p_awake29)) fnsNil))))))))))))
  refine spec0 hfns (by kernel_rfl) Tryz.func7 (by kernel_rfl) (by kernel_rfl) (by kernel_rfl) 4 _ _ (.bool) ?_
  clear hfns
  generalize hEE : env0 [(36, .spec (mkSpec real [.int .i64, .int .i64, .word] (s_toIntY ropsY))), (30, inlF Tryz.f30), (12, .spec (mkSpec real [.int .i64] (s_mIs08Y ropsV))), (13, .spec (mkSpec real [.int .i64, .word] (s_fits05Y ropsY))), (19, .spec (mkSpec real [.int .i64, .word] (s_class06 ropsC))), (22, .spec (mkSpec real [.int .i64, .word] (s_value07 ropsM))), (37, .spec (mkSpec real [.st [.bool, .int .i64, .wide], .int .i64] (s_int29 ropsX))), (38, .spec (mkSpec real [.big, .bool] (s_fits29 ropsX))), (34, .spec (mkSpec real [.int .i64] (s_power02 ropsK))), (27, .spec (mkSpec real [.int .u64] (s_small01 ropsH))), (25, .spec (mkSpec real [.big, .big] (s_cmp01 ropsH))), (31, .spec (mkSpec real [] (s_awake29 ropsW)))] = EE
  intro l r hl hr
  simp only [Forms, Form] at hl
  obtain ⟨_, _, rfl, ⟨x1, rfl, x1lo, x1hi⟩, _, _, rfl, ⟨x2, rfl, x2lo, x2hi⟩, _, _, rfl, ⟨x3, rfl⟩, rfl⟩ := hl
  subst hEE
  generalize hK : kR (.bool) r = K
  generalize hO : real = O
  generalize hS0 : rops = S0
  generalize hS1 : ropsB = S1
  generalize hS2 : ropsC = S2
  generalize hS3 : ropsD = S3
  generalize hS4 : ropsE = S4
  generalize hS5 : ropsF = S5
  generalize hS6 : ropsG = S6
  generalize hS7 : ropsH = S7
  generalize hS8 : ropsI = S8
  generalize hS9 : ropsJ = S9
  generalize hS10 : ropsK = S10
  generalize hS11 : ropsL = S11
  generalize hS12 : ropsM = S12
  generalize hS13 : ropsN = S13
  generalize hS14 : ropsP = S14
  generalize hS15 : ropsQ = S15
  generalize hS16 : ropsT = S16
  generalize hS17 : ropsU = S17
  generalize hS18 : ropsV = S18
  generalize hS19 : ropsW = S19
  generalize hS20 : ropsX = S20
  generalize hS21 : ropsY = S21
  set_option maxRecDepth 100000 in cbv
  subst hO hK hS0 hS1 hS2 hS3 hS4 hS5 hS6 hS7 hS8 hS9 hS10 hS11 hS12 hS13 hS14 hS15 hS16 hS17 hS18 hS19 hS20 hS21
  simp only [s_ConvertToIntY, R.Y] at hr
  obtain ⟨hreq, hr⟩ := hr
  try dsimp only [rops, ropsB, ropsC, ropsD, ropsE, ropsF, ropsG, ropsH, ropsI, ropsJ, ropsK, ropsL, ropsM, ropsN, ropsP, ropsQ, ropsT, ropsU, ropsV, ropsW, ropsX, ropsY] at hreq
  subst hr
  try dsimp only [real, rops, ropsB, ropsC, ropsD, ropsE, ropsF, ropsG, ropsH, ropsI, ropsJ, ropsK, ropsL, ropsM, ropsN, ropsP, ropsQ, ropsT, ropsU, ropsV, ropsW, ropsX, ropsY]
  obtain ⟨ho, hfit⟩ := hreq
  obtain ⟨hm, hF⟩ : isM x2 = true ∧ fFits x1 x3 = true := by unfold tiOk at ho; simpa using ho
  have p63 : (2 : Nat) ^ 63 = 9223372036854775808 := rfl
  rw [p63]
  have hfin : wFin x1 x3 = true := by
    unfold tiFit at hfit
    simp only [Bool.and_eq_true] at hfit
    exact hfit.1
  have h4 : cmpR .lss (cls x1 x3) 4 = false := by rw [c_lss_f]; exact (fin_iff _ _).1 hfin
  have hrg := vExp_rng hfin
  have hb := int_bits (m := x2) hfin (vNeg x1 x3)
  have e : (bif vNeg x1 x3 then decide (intB x2 (vNeg x1 x3) (vSig x1 x3) (vExp x1 x3) ≤ 9223372036854775808) else decide (intB x2 (vNeg x1 x3) (vSig x1 x3) (vExp x1 x3) < 9223372036854775808)) = true := by
    have h := hfit
    unfold tiFit at h
    rw [hfin, Bool.true_and] at h
    exact h
  have hN : tiN x1 x2 x3 = bif vNeg x1 x3 then -(intB x2 (vNeg x1 x3) (vSig x1 x3) (vExp x1 x3) : Int) else (intB x2 (vNeg x1 x3) (vSig x1 x3) (vExp x1 x3) : Int) := by unfold tiN; rw [ho, hfit]; rfl
  have hX : tiX x1 x2 x3 = bif intX (vSig x1 x3) (vExp x1 x3) then 16 else 0 := by unfold tiX; rw [ho, hfit]; rfl
  have hsm : small (intB x2 (vNeg x1 x3) (vSig x1 x3) (vExp x1 x3)) := small_bits (k := 625) (by omega) (by decide)
  have q63 : (2 : Nat) ^ Int.toNat 63 = 9223372036854775808 := rfl
  have r63 : (0 : Int) ≤ 63 ∧ (63 : Int) ≤ 17179869184 := by decide
  have hr2 : -1048576 ≤ vExp x1 x3 ∧ vExp x1 x3 ≤ 1048576 := by omega
  have hmx : ∀ n : Int, -9223372036854775808 < n → n ≤ 9223372036854775807 → (IntKind.u64.wrap (if unR .neg .i64 n > n then unR .neg .i64 n else n)).toNat = n.natAbs := fun n h1 h2 => by
    rw [neg_i64 (by omega)]
    split
    · rw [wrap_u64_of (by omega) (by omega)]; omega
    · rw [wrap_u64_of (by omega) (by omega)]; omega
  rw [q63, h4, hN, hX, e]
  refine ⟨⟨ho, hfit⟩, hm, hF, .inl rfl, .inr ⟨hfin, hr2, hsm, .inl rfl, .inr ?_⟩⟩
  generalize hB : intB x2 (vNeg x1 x3) (vSig x1 x3) (vExp x1 x3) = B at *
  simp only [neq_dec, lss_dec, gtr_dec, cmpN_eql]
  cases hneg : vNeg x1 x3 with
  | false =>
    rw [hneg] at e
    have hl : B < 9223372036854775808 := by simpa using e
    have m1 := hmx (B : Int) (by omega) (by omega)
    simp only [cond_false]
    rw [m1]
    have g1 : ¬ ((B : Int) < 0) := by omega
    have g2 : (-9223372036854775808 : Int) < (B : Int) := by omega
    have g3 : (B : Int).natAbs = B := by omega
    by_cases hz : (B : Int) ≠ 0 <;> cases intX (vSig x1 x3) (vExp x1 x3) <;> simp [hz, g1, g2, g3, r63, kb_t]
  | true =>
    rw [hneg] at e
    have hl : B ≤ 9223372036854775808 := by simpa using e
    simp only [cond_true]
    by_cases hc : B = 9223372036854775808
    · subst hc
      cases intX (vSig x1 x3) (vExp x1 x3) <;> simp [r63, kb_t]
    · have m1 := hmx (-(B : Int)) (by omega) (by omega)
      rw [m1]
      have g2 : (-9223372036854775808 : Int) < -(B : Int) := by omega
      have g3 : (-(B : Int)).natAbs = B := by omega
      by_cases hz : B = 0
      · subst hz
        cases intX (vSig x1 x3) (vExp x1 x3) <;> simp [r63, kb_t]
      · have g1 : -(B : Int) < 0 := by omega
        have g4 : -(B : Int) ≠ 0 := by omega
        have g5 : 0 < B := by omega
        have g6 : (B : Int) < 9223372036854775808 := by omega
        have g7 : B < 9223372036854775808 := by omega
        cases intX (vSig x1 x3) (vExp x1 x3) <;> simp [g1, g2, g3, g4, g5, g6, g7, hz, r63, kb_t]
theorem p_ConvertToInt : SpecOk Tryz.prog globs 7 (mkSpec real [.int .i64, .int .i64, .word] (s_ConvertToInt ropsY)) := by
  refine spec_or (g1 := fun l => match l with
    | [.int _ f, .int _ m, .word w] => if isM m = false then s_ConvertToIntN1 ropsY l else if fFits f w = false then s_ConvertToIntN2 ropsY l else .fail
    | _ => .fail) (g2 := fun l => match l with
    | [.int _ f, .int _ m, .word w] => if tiOk f m w = true then (if tiFit f m w = false then s_ConvertToIntR ropsY l else s_ConvertToIntY ropsY l) else .fail
    | _ => .fail) ?_ ?_ ?_
  · refine spec_or p_ConvertToIntN1 p_ConvertToIntN2 ?_
    intro l r hl hr
    split at hr
    · split at hr
      · exact .inl hr
      · split at hr
        · exact .inr hr
        · exact hr.elim
    · exact hr.elim
  · refine spec_or p_ConvertToIntR p_ConvertToIntY ?_
    intro l r hl hr
    split at hr
    · split at hr
      · split at hr
        · exact .inl hr
        · exact .inr hr
      · exact hr.elim
    · exact hr.elim
  · intro l r hl hr
    simp only [Forms, Form] at hl
    obtain ⟨_, _, rfl, ⟨f, rfl, _⟩, _, _, rfl, ⟨m, rfl, _⟩, _, _, rfl, ⟨w, rfl⟩, rfl⟩ := hl
    have hr : LV.bool true = r := hr
    subst hr
    cases hm : isM m with
    | false => exact .inl (by show (if _ then _ else _ : R LV).Y _; rw [if_pos hm]; exact ⟨hm, rfl⟩)
    | true =>
      cases hF : fFits f w with
      | false => exact .inl (by show (if _ then _ else _ : R LV).Y _; rw [if_neg (by rw [hm]; decide), if_pos hF]; exact ⟨⟨hm, hF⟩, rfl⟩)
      | true =>
        have ho : tiOk f m w = true := by unfold tiOk; rw [hm, hF]; rfl
        refine .inr ?_
        show (if _ then _ else _ : R LV).Y _
        rw [if_pos ho]
        cases hx : tiFit f m w with
        | false => rw [if_pos rfl]; exact ⟨⟨ho, hx⟩, rfl⟩
        | true => rw [if_neg (by decide)]; exact ⟨⟨ho, hx⟩, rfl⟩
end Go.LE