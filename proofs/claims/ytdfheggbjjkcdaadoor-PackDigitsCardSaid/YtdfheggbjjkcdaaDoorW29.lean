import Derived.Test.YtdfheggbjjkcdaaDoorW28
import Derived.Test.YtdfheggbjjkcdaaDoorLeR
set_option linter.unusedVariables false
set_option linter.unusedSimpArgs false
namespace Go.LE
open Go Go.Proofs
structure OpsV where
  isF : Int → Prop
  rg : Int → Prop
  pr : Int → Prop
  dgW : Int → Int → Bool → Int → W → Bool → W
  dgP : Int → Int → W → Int
  dgX : Int → Int → Int → W → Bool → Bool
  ddN : Int → Int → Bool → Int → W → Bool → Bool
  ddE : Int → Int → Bool → Int → W → Bool → Int
  ddS : Int → Int → Bool → Int → W → Bool → W
  ddX : Int → Int → Int → W → Bool → Bool
  ddR : Int → Int → Int → W → Bool → Int
  isMt : Int → Prop
  isMf : Int → Prop
  rY : Int → Int → W → Bool → Prop
  rN : Int → Int → W → Bool → Prop
  dY : Int → Int → Int → W → Bool → Prop
  dZ : Int → Int → Int → W → Bool → Prop
  dN1 : Int → Int → Int → W → Bool → Prop
  dN2 : Int → Int → Int → W → Bool → Prop
  dN : Int → Int → Int → W → Bool → Prop
noncomputable def ropsV : OpsV where
  isF := fun f => 1 ≤ f ∧ f ≤ 4
  rg := fun e => -1048576 ≤ e ∧ e ≤ 1048576
  pr := fun p => 0 ≤ p ∧ p ≤ 1000
  dgW := dgW
  dgP := dgP
  dgX := dgX
  ddN := ddN
  ddE := ddE
  ddS := ddS
  ddX := ddX
  ddR := ddR
  isMt := fun m => isM m = true
  isMf := fun m => isM m = false
  rY := fun p e s more => rightN p e s more = true
  rN := fun p e s more => rightN p e s more = false
  dY := fun m p e s more => dOk m p e s more = true ∧ s ≠ 0
  dZ := fun m p e s more => dOk m p e s more = true ∧ s = 0
  dN1 := fun m _ _ _ _ => isM m = false
  dN2 := fun m p e s more => isM m = true ∧ rightN p e s more = false
  dN := fun m p e s more => dOk m p e s more = false
def s_pdigits (S : OpsV) : List LV → R LV
  | [.int _ p, .int _ m, .agg [.bool b, .int _ e, .wide s], .bool more] => .req (S.pr p) (.req (S.rg e) (.ok (.tup [.wide (S.dgW p m b e s more), .int .i64 (S.dgP p e s), .bool (S.dgX p m e s more)])))
  | _ => .fail
def s_pDig (S : OpsV) : List LV → R LV
  | [.int _ p, .int _ m, .agg [.bool b, .int _ e, .wide s], .bool more] => .ok (.tup [.agg [.bool (S.ddN m p b e s more), .int .i64 (S.ddE m p b e s more), .wide (S.ddS m p b e s more)], .bool (S.ddX m p e s more), .int .i64 (S.ddR m p e s more)])
  | _ => .fail
def s_right09 (S : OpsT) : List LV → R LV
  | [.int _ p, .agg [.bool _, .int _ e, .wide s], .bool more] => .ok (.bool (S.right p e s more))
  | _ => .fail
def s_mIs08 (S : OpsT) : List LV → R LV
  | [.int _ m] => .ok (.bool (S.isM m))
  | _ => .fail
def s_mIs08Y (S : OpsV) : List LV → R LV
  | [.int _ m] => .req (S.isMt m) (.ok (.blit true))
  | _ => .fail
def s_mIs08N (S : OpsV) : List LV → R LV
  | [.int _ m] => .req (S.isMf m) (.ok (.blit false))
  | _ => .fail
def s_right09Y (S : OpsV) : List LV → R LV
  | [.int _ p, .agg [.bool _, .int _ e, .wide s], .bool more] => .req (S.rY p e s more) (.ok (.blit true))
  | _ => .fail
def s_right09N (S : OpsV) : List LV → R LV
  | [.int _ p, .agg [.bool _, .int _ e, .wide s], .bool more] => .req (S.rN p e s more) (.ok (.blit false))
  | _ => .fail
def s_prightY (S : OpsV) : List LV → R LV
  | [.int _ p, .agg [.bool _, .int _ e, .wide s], .bool more] => .req (S.rY p e s more) (.ok (.blit true))
  | _ => .fail
def s_prightN (S : OpsV) : List LV → R LV
  | [.int _ p, .agg [.bool _, .int _ e, .wide s], .bool more] => .req (S.rN p e s more) (.ok (.blit false))
  | _ => .fail
def s_pDigY (S : OpsV) : List LV → R LV
  | [.int _ p, .int _ m, .agg [.bool b, .int _ e, .wide s], .bool more] => .req (S.dY m p e s more) (.ok (.tup [.agg [.bool b, .int .i64 (S.ddE m p b e s more), .wide (S.ddS m p b e s more)], .bool (S.ddX m p e s more), .lit .i64 0]))
  | _ => .fail
def s_pDigZ (S : OpsV) : List LV → R LV
  | [.int _ p, .int _ m, .agg [.bool b, .int _ e, .wide s], .bool more] => .req (S.dZ m p e s more) (.ok (.tup [.agg [.bool b, .lit .i64 0, .wide 0], .blit false, .lit .i64 0]))
  | _ => .fail
def s_pDigN (S : OpsV) : List LV → R LV
  | [.int _ p, .int _ m, .agg [.bool b, .int _ e, .wide s], .bool more] => .req (S.dN m p e s more) (.ok (.tup [.agg [.blit false, .lit .i64 0, .wide 0], .blit false, .lit .i64 1]))
  | _ => .fail
def s_PackDigitsY (S : OpsV) : List LV → R LV
  | [.agg [.int _ p, .int _ m], .agg [.bool _, .int _ e, .wide s], .bool more] => .req (S.dY m p e s more) (.ok (.bool true))
  | _ => .fail
def s_PackDigitsZ (S : OpsV) : List LV → R LV
  | [.agg [.int _ p, .int _ m], .agg [.bool _, .int _ e, .wide s], .bool more] => .req (S.dZ m p e s more) (.ok (.bool true))
  | _ => .fail
def s_PackDigitsN1 (S : OpsV) : List LV → R LV
  | [.agg [.int _ p, .int _ m], .agg [.bool _, .int _ e, .wide s], .bool more] => .req (S.dN1 m p e s more) (.ok (.bool true))
  | _ => .fail
def s_PackDigitsN2 (S : OpsV) : List LV → R LV
  | [.agg [.int _ p, .int _ m], .agg [.bool _, .int _ e, .wide s], .bool more] => .req (S.dN2 m p e s more) (.ok (.bool true))
  | _ => .fail
def s_awake09 (_ : OpsV) : List LV → R LV := fun _ => .ok (.bool true)
def s_PackDigits (_ : OpsV) : List LV → R LV := fun _ => .ok (.bool true)
def s_PackRounds (_ : OpsV) : List LV → R LV := fun _ => .ok (.bool true)
def s_PackOwn (_ : OpsV) : List LV → R LV := fun _ => .ok (.bool true)
theorem p_mIs08 : SpecOk Tryd.prog globs 52 (mkSpec real [.int .i64] (s_mIs08 ropsT)) := by
  have hfns : FnsOk Tryd.prog globs [] := fnsNil
  refine spec0 hfns (by kernel_rfl) Tryd.func52 (by kernel_rfl) (by kernel_rfl) (by kernel_rfl) 4 _ _ (.bool) ?_
  clear hfns
  generalize hEE : env0 [] = EE
  intro l r hl hr
  simp only [Forms, Form] at hl
  obtain ⟨_, _, rfl, ⟨x1, rfl, x1lo, x1hi⟩, rfl⟩ := hl
  subst hEE
  generalize hK : kR (.bool) r = K
  generalize hO : real = O
  set_option maxRecDepth 100000 in cbv
  subst hO hK 
  simp only [s_mIs08, R.Y] at hr
  subst hr
  try dsimp only [real, rops, ropsB, ropsC, ropsD, ropsE, ropsF, ropsG, ropsH, ropsI, ropsJ, ropsK, ropsL, ropsM, ropsN, ropsP, ropsQ, ropsT, ropsU, ropsV]
  unfold isM
  refine ⟨imp_f fun h => ?_, imp_t fun h => ?_⟩
  · rw [c_geq_t] at h
    simp only [kR, canon, canons, getW, getWord, allInts8, asInt, isK, kindEq, isArgB, strOf, cBig, cInts, cWords, allInts, allWords, r_ofLimbs, r_mkWord, Option.some.injEq, LV.wide.injEq, LV.word.injEq, LV.int.injEq, LV.bool.injEq, LV.str.injEq, LV.big.injEq, LV.tup.injEq, LV.agg.injEq, List.cons.injEq, and_true, true_and]
    rw [leq_dec]
    exact decide_eq_decide.2 (by omega)
  · rw [c_geq_f] at h
    rw [decide_eq_false (by omega)]
    simp only [kR, canon, canons, getW, getWord, allInts8, asInt, isK, kindEq, isArgB, strOf, cBig, cInts, cWords, allInts, allWords, r_ofLimbs, r_mkWord, Option.some.injEq, LV.wide.injEq, LV.word.injEq, LV.int.injEq, LV.bool.injEq, LV.str.injEq, LV.big.injEq, LV.tup.injEq, LV.agg.injEq, List.cons.injEq, and_true, true_and]
theorem p_pdigits : SpecOk Tryd.prog globs 110 (mkSpec real [.int .i64, .int .i64, .st [.bool, .int .i64, .wide], .bool] (s_pdigits ropsV)) := by
  have hfns : FnsOk Tryd.prog globs [(72, .spec (mkSpec real [.wide] (s_wLen rops))), (160, .spec (mkSpec real [.int .i64, .int .i64, .st [.bool, .int .i64, .wide], .bool] (s_pat ropsT)))] := (fnsCons (fnSpec (p_wLen)) (fnsCons (fnSpec (p_pat)) fnsNil))
  refine spec0 hfns (by kernel_rfl) Tryd.func110 (by kernel_rfl) (by kernel_rfl) (by kernel_rfl) 4 _ _ (.tup [.wide, .int .i64, .bool]) ?_
  clear hfns
  generalize hEE : env0 [(72, .spec (mkSpec real [.wide] (s_wLen rops))), (160, .spec (mkSpec real [.int .i64, .int .i64, .st [.bool, .int .i64, .wide], .bool] (s_pat ropsT)))] = EE
  intro l r hl hr
  simp only [Forms, Form] at hl
  obtain ⟨_, _, rfl, ⟨x1, rfl, x1lo, x1hi⟩, _, _, rfl, ⟨x2, rfl, x2lo, x2hi⟩, _, _, rfl, ⟨_, rfl, ⟨_, _, rfl, ⟨x3_1, rfl⟩, _, _, rfl, ⟨x3_2, rfl, x3_2lo, x3_2hi⟩, _, _, rfl, ⟨x3_3, rfl⟩, rfl⟩⟩, _, _, rfl, ⟨x4, rfl⟩, rfl⟩ := hl
  subst hEE
  generalize hK : kR (.tup [.wide, .int .i64, .bool]) r = K
  generalize hO : real = O
  generalize hS0 : rops = S0
  generalize hS1 : ropsB = S1
  generalize hS2 : ropsC = S2
  generalize hS3 : ropsD = S3
  generalize hS4 : ropsE = S4
  generalize hS5 : ropsF = S5
  generalize hS6 : ropsG = S6
  generalize hS7 : ropsH = S7
  generalize hS8 : ropsI = S8
  generalize hS9 : ropsJ = S9
  generalize hS10 : ropsK = S10
  generalize hS11 : ropsL = S11
  generalize hS12 : ropsM = S12
  generalize hS13 : ropsN = S13
  generalize hS14 : ropsP = S14
  generalize hS15 : ropsQ = S15
  generalize hS16 : ropsT = S16
  generalize hS17 : ropsU = S17
  generalize hS18 : ropsV = S18
  set_option maxRecDepth 100000 in cbv
  subst hO hK hS0 hS1 hS2 hS3 hS4 hS5 hS6 hS7 hS8 hS9 hS10 hS11 hS12 hS13 hS14 hS15 hS16 hS17 hS18
  simp only [s_pdigits, R.Y] at hr
  try dsimp only [real, rops, ropsB, ropsC, ropsD, ropsE, ropsF, ropsG, ropsH, ropsI, ropsJ, ropsK, ropsL, ropsM, ropsN, ropsP, ropsQ, ropsT, ropsU, ropsV]
  obtain ⟨hp, he, hr⟩ := hr
  subst hr
  dsimp only [real, ropsV, ropsT, rops]
  replace hp : 0 ≤ x1 ∧ x1 ≤ 1000 := hp
  replace he : -1048576 ≤ x3_2 ∧ x3_2 ≤ 1048576 := he
  have hl := wLen_le x3_3
  have e0 : arithR .add .i64 x3_2 (wLen x3_3) = x3_2 + wLen x3_3 := add_i64 (by omega) (by omega)
  have e9 : arithR .sub .i64 (x3_2 + wLen x3_3) 1 = x3_2 + wLen x3_3 - 1 := sub_i64 (by omega) (by omega)
  have e8 : arithR .sub .i64 (x3_2 + wLen x3_3 - 1) x1 = x3_2 + wLen x3_3 - 1 - x1 := sub_i64 (by omega) (by omega)
  have e7 : arithR .add .i64 (x3_2 + wLen x3_3 - 1 - x1) 1 = dgPl x1 x3_2 x3_3 := by rw [add_i64 (by omega) (by omega)]; unfold dgPl; omega
  have e1 : arithR .add .i64 (arithR .sub .i64 (arithR .sub .i64 (arithR .add .i64 x3_2 (wLen x3_3)) 1) x1) 1 = dgPl x1 x3_2 x3_3 := by rw [e0, e9, e8, e7]
  have hpl : dgPl x1 x3_2 x3_3 = x3_2 + wLen x3_3 - x1 := rfl
  rw [e1, leq_dec]
  unfold dgW dgP dgX
  refine ⟨imp_f fun h => ?_, imp_t fun h => ⟨by omega, by omega, ?_⟩⟩
  · rw [decide_eq_true_eq] at h
    rw [if_pos h, if_pos h, if_pos h]
    simp only [kR, canon, canons, getW, getWord, allInts8, asInt, isK, kindEq, isArgB, strOf, cBig, cInts, cWords, allInts, allWords, r_ofLimbs, r_mkWord, Option.some.injEq, LV.wide.injEq, LV.word.injEq, LV.int.injEq, LV.bool.injEq, LV.str.injEq, LV.big.injEq, LV.tup.injEq, LV.agg.injEq, List.cons.injEq, and_true, true_and]
  · rw [decide_eq_false_iff_not] at h
    rw [if_neg h, if_neg h, if_neg h, if_neg (show ¬ (dgPl x1 x3_2 x3_3 - x3_2 ≤ 0) by omega), if_neg (show ¬ (dgPl x1 x3_2 x3_3 - x3_2 ≤ 0) by omega)]
    simp only [kR, canon, canons, getW, getWord, allInts8, asInt, isK, kindEq, isArgB, strOf, cBig, cInts, cWords, allInts, allWords, r_ofLimbs, r_mkWord, Option.some.injEq, LV.wide.injEq, LV.word.injEq, LV.int.injEq, LV.bool.injEq, LV.str.injEq, LV.big.injEq, LV.tup.injEq, LV.agg.injEq, List.cons.injEq, and_true, true_and]
theorem p_round : SpecOk Tryd.prog globs 113 (mkSpec real [.int .i64, .int .i64, .st [.bool, .int .i64, .wide], .bool] (s_round ropsT)) := by
  have hfns : FnsOk Tryd.prog globs [(76, .spec (mkSpec real [.int .i64] (s_fmtOf rops))), (109, .spec (mkSpec real [.int .i64] (s_mIs ropsT))), (50, .spec (mkSpec real [.int .i64, .st [.bool, .int .i64, .wide], .bool] (s_pright ropsT))), (77, .spec (mkSpec real [.int .i64, .bool] (s_noughtW rops))), (110, .spec (mkSpec real [.int .i64, .int .i64, .st [.bool, .int .i64, .wide], .bool] (s_pdigits ropsV))), (72, .spec (mkSpec real [.wide] (s_wLen rops))), (163, .spec (mkSpec real [.int .i64, .int .i64, .bool] (s_over ropsT))), (160, .spec (mkSpec real [.int .i64, .int .i64, .st [.bool, .int .i64, .wide], .bool] (s_pat ropsT))), (164, .spec (mkSpec real [.int .i64, .bool, .int .i64, .wide] (s_joined ropsT))), (165, inlF Tryd.f165), (73, .spec (mkSpec real [.wide, .int .i64] (s_shl rops))), (112, .spec (mkSpec real [.wide, .int .i64] (s_shr rops)))] := (fnsCons (fnSpec (p_fmtOf)) (fnsCons (fnSpec (p_mIs)) (fnsCons (fnSpec (p_pright)) (fnsCons (fnSpec (p_noughtW)) (fnsCons (fnSpec (p_pdigits)) (fnsCons (fnSpec (p_wLen)) (fnsCons (fnSpec (p_over)) (fnsCons (fnSpec (p_pat)) (fnsCons (fnSpec (p_joined)) (fnsCons (inl_ok Tryd.func165 (by kernel_rfl) (by kernel_rfl)) (fnsCons (fnSpec (p_shl)) (fnsCons (fnSpec (p_shr)) fnsNil))))))))))))
  refine spec0 hfns (by kernel_rfl) Tryd.func113 (by kernel_rfl) (by kernel_rfl) (by kernel_rfl) 4 _ _ (.tup [.word, .int .i64, .int .i64]) ?_
  clear hfns
  generalize hEE : env0 [(76, .spec (mkSpec real [.int .i64] (s_fmtOf rops))), (109, .spec (mkSpec real [.int .i64] (s_mIs ropsT))), (50, .spec (mkSpec real [.int .i64, .st [.bool, .int .i64, .wide], .bool] (s_pright ropsT))), (77, .spec (mkSpec real [.int .i64, .bool] (s_noughtW rops))), (110, .spec (mkSpec real [.int .i64, .int .i64, .st [.bool, .int .i64, .wide], .bool] (s_pdigits ropsV))), (72, .spec (mkSpec real [.wide] (s_wLen rops))), (163, .spec (mkSpec real [.int .i64, .int .i64, .bool] (s_over ropsT))), (160, .spec (mkSpec real [.int .i64, .int .i64, .st [.bool, .int .i64, .wide], .bool] (s_pat ropsT))), (164, .spec (mkSpec real [.int .i64, .bool, .int .i64, .wide] (s_joined ropsT))), (165, inlF Tryd.f165), (73, .spec (mkSpec real [.wide, .int .i64] (s_shl rops))), (112, .spec (mkSpec real [.wide, .int .i64] (s_shr rops)))] = EE
  intro l r hl hr
  simp only [Forms, Form] at hl
  obtain ⟨_, _, rfl, ⟨x1, rfl, x1lo, x1hi⟩, _, _, rfl, ⟨x2, rfl, x2lo, x2hi⟩, _, _, rfl, ⟨_, rfl, ⟨_, _, rfl, ⟨x3_1, rfl⟩, _, _, rfl, ⟨x3_2, rfl, x3_2lo, x3_2hi⟩, _, _, rfl, ⟨x3_3, rfl⟩, rfl⟩⟩, _, _, rfl, ⟨x4, rfl⟩, rfl⟩ := hl
  subst hEE
  generalize hK : kR (.tup [.word, .int .i64, .int .i64]) r = K
  generalize hO : real = O
  generalize hS0 : rops = S0
  generalize hS1 : ropsB = S1
  generalize hS2 : ropsC = S2
  generalize hS3 : ropsD = S3
  generalize hS4 : ropsE = S4
  generalize hS5 : ropsF = S5
  generalize hS6 : ropsG = S6
  generalize hS7 : ropsH = S7
  generalize hS8 : ropsI = S8
  generalize hS9 : ropsJ = S9
  generalize hS10 : ropsK = S10
  generalize hS11 : ropsL = S11
  generalize hS12 : ropsM = S12
  generalize hS13 : ropsN = S13
  generalize hS14 : ropsP = S14
  generalize hS15 : ropsQ = S15
  generalize hS16 : ropsT = S16
  generalize hS17 : ropsU = S17
  generalize hS18 : ropsV = S18
  set_option maxRecDepth 100000 in cbv
  subst hO hK hS0 hS1 hS2 hS3 hS4 hS5 hS6 hS7 hS8 hS9 hS10 hS11 hS12 hS13 hS14 hS15 hS16 hS17 hS18
  simp only [s_round, R.Y] at hr
  subst hr
  try dsimp only [real, rops, ropsB, ropsC, ropsD, ropsE, ropsF, ropsG, ropsH, ropsI, ropsJ, ropsK, ropsL, ropsM, ropsN, ropsP, ropsQ, ropsT, ropsU, ropsV]
  have leaf0 : rOk x1 x2 x3_2 x3_3 x4 = false → kR (AT.tup [AT.word, AT.int IntKind.i64, AT.int IntKind.i64]) (LV.tup [LV.word (rW x1 x2 x3_1 x3_2 x3_3 x4), LV.int IntKind.i64 (rX x1 x2 x3_1 x3_2 x3_3 x4), LV.int IntKind.i64 (rE x1 x2 x3_2 x3_3 x4)])
      (LV.tup [LV.agg [LV.lit IntKind.u64 0, LV.lit IntKind.u64 0], LV.lit IntKind.i64 0, LV.lit IntKind.i64 1]) := fun h => by
    unfold rW rX rE
    rw [h]
    simp only [kR, canon, canons, getW, getWord, allInts8, asInt, isK, kindEq, isArgB, strOf, cBig, cInts, cWords, allInts, allWords, r_ofLimbs, r_mkWord, Option.some.injEq, LV.wide.injEq, LV.word.injEq, LV.int.injEq, LV.bool.injEq, LV.str.injEq, LV.big.injEq, LV.tup.injEq, LV.agg.injEq, List.cons.injEq, and_true, true_and]
    exact ⟨mkWord_0, rfl, rfl⟩
  cases hk : fOk x1 with
  | false =>
    refine ⟨imp_f fun _ => leaf0 (by unfold rOk; rw [hk]; rfl), imp_t fun h => by simp at h⟩
  | true =>
    dsimp only
    refine ⟨imp_f fun h => by simp at h, imp_t fun _ => ?_⟩
    cases hm : isM x2 with
    | false => refine ⟨imp_f fun _ => leaf0 (by unfold rOk; rw [hk, hm]; rfl), imp_t fun h => by simp at h⟩
    | true =>
      refine ⟨imp_f fun h => by simp at h, imp_t fun _ => ?_⟩
      cases hr9 : rightN (fPrec x1) x3_2 x3_3 x4 with
      | false => refine ⟨imp_f fun _ => leaf0 (by unfold rOk; rw [hk, hm, hr9]; rfl), imp_t fun h => by simp at h⟩
      | true =>
        have ho : rOk x1 x2 x3_2 x3_3 x4 = true := by unfold rOk; rw [hk, hm, hr9]; rfl
        obtain ⟨hf, _, _⟩ := ro_parts ho
        obtain ⟨_, q2, q3, _⟩ := right_parts hr9
        have hp := p_rng x1 hf
        have hE := e_rng x1 hf
        refine ⟨imp_f fun h => by simp at h, imp_t fun _ => ?_⟩
        unfold rW rX rE
        rw [ho, cond_true, cond_true, cond_true, ofLimbs_0]
        refine ⟨imp_f fun hz => ?_, imp_t fun hz => ?_⟩
        · rw [decide_eq_true_eq] at hz
          rw [if_pos hz, if_pos hz]
          simp only [kR, canon, canons, getW, getWord, allInts8, asInt, isK, kindEq, isArgB, strOf, cBig, cInts, cWords, allInts, allWords, r_ofLimbs, r_mkWord, Option.some.injEq, LV.wide.injEq, LV.word.injEq, LV.int.injEq, LV.bool.injEq, LV.str.injEq, LV.big.injEq, LV.tup.injEq, LV.agg.injEq, List.cons.injEq, and_true, true_and]
        · rw [decide_eq_false_iff_not] at hz
          rw [if_neg hz, if_neg hz]
          obtain ⟨k1, k2, k3, k4, k5, k6, k7⟩ := pk_facts ho hz x3_1
          have hl := wLen_le (dgW (fPrec x1) x2 x3_1 x3_2 x3_3 x4)
          have e0 : arithR .add .i64 (dgP (fPrec x1) x3_2 x3_3) (wLen (dgW (fPrec x1) x2 x3_1 x3_2 x3_3 x4)) = dgP (fPrec x1) x3_2 x3_3 + wLen (dgW (fPrec x1) x2 x3_1 x3_2 x3_3 x4) := add_i64 (by omega) (by omega)
          have e1 : arithR .sub .i64 (dgP (fPrec x1) x3_2 x3_3 + wLen (dgW (fPrec x1) x2 x3_1 x3_2 x3_3 x4)) 1 = rdT x1 x2 x3_1 (moreA x3_3.toNat x4) (moreG x3_2 x4) := by rw [sub_i64 (by omega) (by omega)]; exact k1
          rw [e0, e1, k4]
          have hexp : expO x1 = 2 - fEMax x1 - fPrec x1 := rfl
          have e2 : arithR .sub .i64 (1 - fEMax x1) (fPrec x1) = 1 - fEMax x1 - fPrec x1 := sub_i64 (by omega) (by omega)
          have e3 : arithR .add .i64 (1 - fEMax x1 - fPrec x1) 1 = expO x1 := by rw [add_i64 (by omega) (by omega)]; omega
          rw [e2, e3]
          have hT : ∀ T : Int, T = rdT x1 x2 x3_1 (moreA x3_3.toNat x4) (moreG x3_2 x4) → arithR .sub .i64 (dgP (fPrec x1) x3_2 x3_3) (arithR .add .i64 (arithR .sub .i64 T (fPrec x1)) 1) = dgP (fPrec x1) x3_2 x3_3 - (T - fPrec x1 + 1) ∧ arithR .sub .i64 T (1 - fEMax x1) = T - (1 - fEMax x1) := fun T hT => by
            have a1 : arithR .sub .i64 T (fPrec x1) = T - fPrec x1 := sub_i64 (by omega) (by omega)
            have a2 : arithR .add .i64 (T - fPrec x1) 1 = T - fPrec x1 + 1 := add_i64 (by omega) (by omega)
            rw [a1, a2]
            exact ⟨sub_i64 (by omega) (by omega), sub_i64 (by omega) (by omega)⟩
          obtain ⟨f1, f2⟩ := hT _ rfl
          rw [f1, f2, neg_i64 (by omega)]
          have hXd : rdX x1 x2 x3_1 (moreA x3_3.toNat x4) (moreG x3_2 x4) = if fEMax x1 < rdT x1 x2 x3_1 (moreA x3_3.toNat x4) (moreG x3_2 x4) then 20 else if rdT x1 x2 x3_1 (moreA x3_3.toNat x4) (moreG x3_2 x4) < 1 - fEMax x1 then (if restQ (moreA x3_3.toNat x4) (moreG x3_2 x4) (expO x1) = 0 then 0 else 24) else if restQ (moreA x3_3.toNat x4) (moreG x3_2 x4) (topQ (moreA x3_3.toNat x4) (moreG x3_2 x4) - fPrec x1 + 1) = 0 then 0 else 16 := rfl
          rw [hXd, gtr_dec, lss_dec]
          refine ⟨by omega, q2, imp_f fun g => ?_, imp_t fun g => ⟨imp_f fun g2 => ?_, imp_t fun g2 => ?_⟩⟩
          · rw [decide_eq_true_eq] at g
            refine ⟨hf, ?_⟩
            rw [if_pos g]
            have := k5 g
            simp only [kR, canon, canons, getW, getWord, allInts8, asInt, isK, kindEq, isArgB, strOf, cBig, cInts, cWords, allInts, allWords, r_ofLimbs, r_mkWord, Option.some.injEq, LV.wide.injEq, LV.word.injEq, LV.int.injEq, LV.bool.injEq, LV.str.injEq, LV.big.injEq, LV.tup.injEq, LV.agg.injEq, List.cons.injEq, and_true, true_and]
            exact this
          · rw [decide_eq_false_iff_not] at g
            rw [decide_eq_true_eq] at g2
            obtain ⟨j1, j2, j3⟩ := k6 g2
            rw [if_neg g, if_pos g2]
            refine ⟨by omega, by omega, j1, ?_⟩
            have ea : (if expO x1 - x3_2 ≤ 0 then x4 else cutX x3_3 (expO x1 - x3_2) x4 x2) = atX (expO x1) x2 x3_2 x3_3 x4 := rfl
            have ew : (if expO x1 - x3_2 ≤ 0 then wShl x3_3 (x3_2 - expO x1) else cutW x3_3 (expO x1 - x3_2) x4 x2 x3_1) = atW (expO x1) x2 x3_1 x3_2 x3_3 x4 := rfl
            rw [ea, ew, j3, j2]
            refine ⟨imp_f fun h => ?_, imp_t fun h => ?_⟩
            · rw [Bool.not_eq_true', decide_eq_false_iff_not] at h
              rw [if_neg h]
              simp only [kR, canon, canons, getW, getWord, allInts8, asInt, isK, kindEq, isArgB, strOf, cBig, cInts, cWords, allInts, allWords, r_ofLimbs, r_mkWord, Option.some.injEq, LV.wide.injEq, LV.word.injEq, LV.int.injEq, LV.bool.injEq, LV.str.injEq, LV.big.injEq, LV.tup.injEq, LV.agg.injEq, List.cons.injEq, and_true, true_and]
            · rw [Bool.not_eq_false', decide_eq_true_eq] at h
              rw [if_pos h]
              simp only [kR, canon, canons, getW, getWord, allInts8, asInt, isK, kindEq, isArgB, strOf, cBig, cInts, cWords, allInts, allWords, r_ofLimbs, r_mkWord, Option.some.injEq, LV.wide.injEq, LV.word.injEq, LV.int.injEq, LV.bool.injEq, LV.str.injEq, LV.big.injEq, LV.tup.injEq, LV.agg.injEq, List.cons.injEq, and_true, true_and]
          · rw [decide_eq_false_iff_not] at g g2
            obtain ⟨j1, j2⟩ := k7 (by omega) (by omega) _ rfl
            rw [if_neg g, if_neg g2]
            refine ⟨j1, ?_⟩
            rw [j2]
            refine ⟨imp_f fun h => ?_, imp_t fun h => ?_⟩
            · rw [Bool.not_eq_true', decide_eq_false_iff_not] at h
              rw [if_neg h]
              simp only [kR, canon, canons, getW, getWord, allInts8, asInt, isK, kindEq, isArgB, strOf, cBig, cInts, cWords, allInts, allWords, r_ofLimbs, r_mkWord, Option.some.injEq, LV.wide.injEq, LV.word.injEq, LV.int.injEq, LV.bool.injEq, LV.str.injEq, LV.big.injEq, LV.tup.injEq, LV.agg.injEq, List.cons.injEq, and_true, true_and]
            · rw [Bool.not_eq_false', decide_eq_true_eq] at h
              rw [if_pos h]
              simp only [kR, canon, canons, getW, getWord, allInts8, asInt, isK, kindEq, isArgB, strOf, cBig, cInts, cWords, allInts, allWords, r_ofLimbs, r_mkWord, Option.some.injEq, LV.wide.injEq, LV.word.injEq, LV.int.injEq, LV.bool.injEq, LV.str.injEq, LV.big.injEq, LV.tup.injEq, LV.agg.injEq, List.cons.injEq, and_true, true_and]
theorem p_right09 : SpecOk Tryd.prog globs 51 (mkSpec real [.int .i64, .st [.bool, .int .i64, .wide], .bool] (s_right09 ropsT)) := by
  have hfns : FnsOk Tryd.prog globs [(21, .spec (mkSpec real [.wide] (s_big02 ropsK))), (20, .spec (mkSpec real [.big] (s_len01 ropsH))), (26, .spec (mkSpec real [.st [.bool, .int .i64, .wide]] (s_right07 ropsK)))] := (fnsCons (fnSpec (p_big02)) (fnsCons (fnSpec (p_len01)) (fnsCons (fnSpec (p_right07)) fnsNil)))
  refine spec0 hfns (by kernel_rfl) Tryd.func51 (by kernel_rfl) (by kernel_rfl) (by kernel_rfl) 4 _ _ (.bool) ?_
  clear hfns
  generalize hEE : env0 [(21, .spec (mkSpec real [.wide] (s_big02 ropsK))), (20, .spec (mkSpec real [.big] (s_len01 ropsH))), (26, .spec (mkSpec real [.st [.bool, .int .i64, .wide]] (s_right07 ropsK)))] = EE
  intro l r hl hr
  simp only [Forms, Form] at hl
  obtain ⟨_, _, rfl, ⟨x1, rfl, x1lo, x1hi⟩, _, _, rfl, ⟨_, rfl, ⟨_, _, rfl, ⟨x2_1, rfl⟩, _, _, rfl, ⟨x2_2, rfl, x2_2lo, x2_2hi⟩, _, _, rfl, ⟨x2_3, rfl⟩, rfl⟩⟩, _, _, rfl, ⟨x3, rfl⟩, rfl⟩ := hl
  subst hEE
  generalize hK : kR (.bool) r = K
  generalize hO : real = O
  generalize hS0 : rops = S0
  generalize hS1 : ropsB = S1
  generalize hS2 : ropsC = S2
  generalize hS3 : ropsD = S3
  generalize hS4 : ropsE = S4
  generalize hS5 : ropsF = S5
  generalize hS6 : ropsG = S6
  generalize hS7 : ropsH = S7
  generalize hS8 : ropsI = S8
  generalize hS9 : ropsJ = S9
  generalize hS10 : ropsK = S10
  generalize hS11 : ropsL = S11
  generalize hS12 : ropsM = S12
  generalize hS13 : ropsN = S13
  generalize hS14 : ropsP = S14
  generalize hS15 : ropsQ = S15
  generalize hS16 : ropsT = S16
  generalize hS17 : ropsU = S17
  generalize hS18 : ropsV = S18
  set_option maxRecDepth 100000 in cbv
  subst hO hK hS0 hS1 hS2 hS3 hS4 hS5 hS6 hS7 hS8 hS9 hS10 hS11 hS12 hS13 hS14 hS15 hS16 hS17 hS18
  simp only [s_right09, R.Y] at hr
  subst hr
  try dsimp only [real, rops, ropsB, ropsC, ropsD, ropsE, ropsF, ropsG, ropsH, ropsI, ropsJ, ropsK, ropsL, ropsM, ropsN, ropsP, ropsQ, ropsT, ropsU, ropsV]
  rw [show lenN x2_3.toNat = wLen x2_3 from bitN_wLen _]
  refine ⟨small_wide _, ?_⟩
  unfold rightN rgtE
  simp only [geq_dec, leq_dec, gtr_dec]
  by_cases a1 : 1 ≤ x1 <;> by_cases a2 : x1 ≤ 500 <;> simp [a1, a2, kR, canon, isArgB]
  by_cases a3 : -1048576 ≤ x2_2 <;> by_cases a5 : x2_2 ≤ 1048576 <;> by_cases a4 : wLen x2_3 ≤ 511 <;> by_cases a6 : x1 < wLen x2_3 <;> cases x3 <;> simp [a3, a4, a5, a6] <;> omega
theorem p_awake09 : SpecOk Tryd.prog globs 53 (mkSpec real [] (s_awake09 ropsV)) := by
  have hfns : FnsOk Tryd.prog globs [(113, .spec (mkSpec real [.int .i64, .int .i64, .st [.bool, .int .i64, .wide], .bool] (s_round ropsT)))] := (fnsCons (fnSpec (p_round)) fnsNil)
  refine spec0 hfns (by kernel_rfl) Tryd.func53 (by kernel_rfl) (by kernel_rfl) (by kernel_rfl) 4 _ _ (.bool) ?_
  clear hfns
  generalize hEE : env0 [(113, .spec (mkSpec real [.int .i64, .int .i64, .st [.bool, .int .i64, .wide], .bool] (s_round ropsT)))] = EE
  intro l r hl hr
  simp only [Forms, Form] at hl
  obtain rfl := hl
  subst hEE
  generalize hK : kR (.bool) r = K
  generalize hO : real = O
  generalize hS0 : rops = S0
  generalize hS1 : ropsB = S1
  generalize hS2 : ropsC = S2
  generalize hS3 : ropsD = S3
  generalize hS4 : ropsE = S4
  generalize hS5 : ropsF = S5
  generalize hS6 : ropsG = S6
  generalize hS7 : ropsH = S7
  generalize hS8 : ropsI = S8
  generalize hS9 : ropsJ = S9
  generalize hS10 : ropsK = S10
  generalize hS11 : ropsL = S11
  generalize hS12 : ropsM = S12
  generalize hS13 : ropsN = S13
  generalize hS14 : ropsP = S14
  generalize hS15 : ropsQ = S15
  generalize hS16 : ropsT = S16
  generalize hS17 : ropsU = S17
  generalize hS18 : ropsV = S18
  set_option maxRecDepth 100000 in cbv
  subst hO hK hS0 hS1 hS2 hS3 hS4 hS5 hS6 hS7 hS8 hS9 hS10 hS11 hS12 hS13 hS14 hS15 hS16 hS17 hS18
  simp only [s_awake09, R.Y] at hr
  subst hr
  try dsimp only [real, rops, ropsB, ropsC, ropsD, ropsE, ropsF, ropsG, ropsH, ropsI, ropsJ, ropsK, ropsL, ropsM, ropsN, ropsP, ropsQ, ropsT, ropsU, ropsV]
  simp only [kb_t, kb_lt, kb_lf]; decide +kernel
def wideT : Ty := .arr 8 (.int .u64)
theorem p_pDig : SpecOk Tryd.prog globs 49 (mkSpec real [.int .i64, .int .i64, .st [.bool, .int .i64, .wide], .bool] (s_pDig ropsV)) := by
  have hfns : FnsOk Tryd.prog globs [(109, .spec (mkSpec real [.int .i64] (s_mIs ropsT))), (50, .spec (mkSpec real [.int .i64, .st [.bool, .int .i64, .wide], .bool] (s_pright ropsT))), (110, .spec (mkSpec real [.int .i64, .int .i64, .st [.bool, .int .i64, .wide], .bool] (s_pdigits ropsV))), (111, .spec (mkSpec real [.wide, .int .i64] (s_wBit rops))), (112, .spec (mkSpec real [.wide, .int .i64] (s_shr rops)))] := (fnsCons (fnSpec (p_mIs)) (fnsCons (fnSpec (p_pright)) (fnsCons (fnSpec (p_pdigits)) (fnsCons (fnSpec (p_wBit)) (fnsCons (fnSpec (p_shr)) fnsNil)))))
  refine specL (fun _ => [6,8,11,12,13]) hfns (by kernel_rfl) Tryd.func49 (by kernel_rfl) (by kernel_rfl) (by kernel_rfl) 4 _ _ (.tup [.st [.bool, .int .i64, .wide], .bool, .int .i64]) ?_
  clear hfns
  generalize hEE : envL (fun _ => [6,8,11,12,13]) [(109, .spec (mkSpec real [.int .i64] (s_mIs ropsT))), (50, .spec (mkSpec real [.int .i64, .st [.bool, .int .i64, .wide], .bool] (s_pright ropsT))), (110, .spec (mkSpec real [.int .i64, .int .i64, .st [.bool, .int .i64, .wide], .bool] (s_pdigits ropsV))), (111, .spec (mkSpec real [.wide, .int .i64] (s_wBit rops))), (112, .spec (mkSpec real [.wide, .int .i64] (s_shr rops)))] = EE
  intro l r hl hr
  simp only [Forms, Form] at hl
  obtain ⟨_, _, rfl, ⟨x1, rfl, x1lo, x1hi⟩, _, _, rfl, ⟨x2, rfl, x2lo, x2hi⟩, _, _, rfl, ⟨_, rfl, ⟨_, _, rfl, ⟨x3_1, rfl⟩, _, _, rfl, ⟨x3_2, rfl, x3_2lo, x3_2hi⟩, _, _, rfl, ⟨x3_3, rfl⟩, rfl⟩⟩, _, _, rfl, ⟨x4, rfl⟩, rfl⟩ := hl
  subst hEE
  generalize hK : kR (.tup [.st [.bool, .int .i64, .wide], .bool, .int .i64]) r = K
  generalize hO : real = O
  generalize hS0 : rops = S0
  generalize hS1 : ropsB = S1
  generalize hS2 : ropsC = S2
  generalize hS3 : ropsD = S3
  generalize hS4 : ropsE = S4
  generalize hS5 : ropsF = S5
  generalize hS6 : ropsG = S6
  generalize hS7 : ropsH = S7
  generalize hS8 : ropsI = S8
  generalize hS9 : ropsJ = S9
  generalize hS10 : ropsK = S10
  generalize hS11 : ropsL = S11
  generalize hS12 : ropsM = S12
  generalize hS13 : ropsN = S13
  generalize hS14 : ropsP = S14
  generalize hS15 : ropsQ = S15
  generalize hS16 : ropsT = S16
  generalize hS17 : ropsU = S17
  generalize hS18 : ropsV = S18
  set_option maxRecDepth 100000 in cbv
  have hr : r = _ := hr.symm
  subst hO hK hS0 hS1 hS2 hS3 hS4 hS5 hS6 hS7 hS8 hS9 hS10 hS11 hS12 hS13 hS14 hS15 hS16 hS17 hS18
  subst hr
  have leaf0 : dOk x2 x1 x3_2 x3_3 x4 = false → kR (AT.tup [AT.st [AT.bool, AT.int IntKind.i64, AT.wide], AT.bool, AT.int IntKind.i64]) (LV.tup [LV.agg [LV.bool (ddN x2 x1 x3_1 x3_2 x3_3 x4), LV.int IntKind.i64 (ddE x2 x1 x3_1 x3_2 x3_3 x4), LV.wide (ddS x2 x1 x3_1 x3_2 x3_3 x4)], LV.bool (ddX x2 x1 x3_2 x3_3 x4), LV.int IntKind.i64 (ddR x2 x1 x3_2 x3_3 x4)])
      (LV.tup [LV.agg [LV.blit false, LV.lit IntKind.i64 0, LV.agg [LV.lit IntKind.u64 0, LV.lit IntKind.u64 0, LV.lit IntKind.u64 0, LV.lit IntKind.u64 0, LV.lit IntKind.u64 0, LV.lit IntKind.u64 0, LV.lit IntKind.u64 0, LV.lit IntKind.u64 0]], LV.blit false, LV.lit IntKind.i64 1]) := fun h => by
    unfold ddN ddE ddS ddX ddR
    rw [h]
    simp only [kR, canon, canons, getW, getWord, allInts8, asInt, isK, kindEq, isArgB, strOf, cBig, cInts, cWords, allInts, allWords, r_ofLimbs, r_mkWord, Option.some.injEq, LV.wide.injEq, LV.word.injEq, LV.int.injEq, LV.bool.injEq, LV.str.injEq, LV.big.injEq, LV.tup.injEq, LV.agg.injEq, List.cons.injEq, and_true, true_and]
    refine ⟨⟨rfl, rfl, ofLimbs_0⟩, rfl, rfl⟩
  refine ⟨imp_f fun h => ?_, imp_t fun h => ⟨imp_f fun h2 => ?_, imp_t fun h2 => ⟨imp_f fun h3 => ?_, imp_t fun h3 => ?_⟩⟩⟩
  · replace h : (!isM x2) = true := h
    rw [Bool.not_eq_true'] at h
    exact leaf0 (by unfold dOk; rw [h]; rfl)
  · replace h2 : (!rightN x1 x3_2 x3_3 x4) = true := h2
    rw [Bool.not_eq_true'] at h2
    exact leaf0 (by unfold dOk; rw [h2, Bool.and_false])
  · replace h : (!isM x2) = false := h
    replace h2 : (!rightN x1 x3_2 x3_3 x4) = false := h2
    replace h3 : decide (x3_3 = ofLimbsR 0 0 0 0 0 0 0 0) = true := h3
    rw [Bool.not_eq_false'] at h h2
    rw [ofLimbs_0, decide_eq_true_eq] at h3
    have ho : dOk x2 x1 x3_2 x3_3 x4 = true := by unfold dOk; rw [h, h2]; rfl
    (dsimp only [real, rops, ropsB, ropsC, ropsD, ropsE, ropsF, ropsG, ropsH, ropsI, ropsJ, ropsK, ropsL, ropsM, ropsN, ropsP, ropsQ, ropsT, ropsU, ropsV])
    unfold ddN ddE ddS ddX ddR
    rw [ho, cond_true, cond_true, cond_true, if_pos h3, if_pos h3, decide_eq_true h3]
    simp only [kR, canon, canons, getW, getWord, allInts8, asInt, isK, kindEq, isArgB, strOf, cBig, cInts, cWords, allInts, allWords, r_ofLimbs, r_mkWord, Option.some.injEq, LV.wide.injEq, LV.word.injEq, LV.int.injEq, LV.bool.injEq, LV.str.injEq, LV.big.injEq, LV.tup.injEq, LV.agg.injEq, List.cons.injEq, and_true, true_and]
    refine ⟨⟨rfl, ofLimbs_0⟩, rfl⟩
  · replace h : (!isM x2) = false := h
    replace h2 : (!rightN x1 x3_2 x3_3 x4) = false := h2
    replace h3 : decide (x3_3 = ofLimbsR 0 0 0 0 0 0 0 0) = false := h3
    rw [Bool.not_eq_false'] at h h2
    rw [ofLimbs_0, decide_eq_false_iff_not] at h3
    have ho : dOk x2 x1 x3_2 x3_3 x4 = true := by unfold dOk; rw [h, h2]; rfl
    obtain ⟨r1, r2, r3, r4⟩ := right_parts h2
    obtain ⟨p1, p2, p3, p4, p5, p6, p7, p8, p9, p10⟩ := dd_facts ho h3 x3_1
    refine ⟨⟨by omega, by omega⟩, r2, ?_⟩
    refine loop_rule (α := Int × W × W) (fun p => ⟨[.undef, .undef, .undef, .undef, .undef, .undef, .ptr 0 0, .undef, .ptr 1 0, .undef, .undef, .ptr 27 0, .int .i64 p.1, .bool (ropsV.dgX x1 x2 x3_2 x3_3 x4), .undef, .undef, .undef, .undef, .undef, .undef, .undef, .undef, .undef, .undef, .undef, .undef, .undef, .undef, .undef, .undef, .undef, .undef, .undef, .undef, .undef, .undef, .undef, .undef, .undef, .undef, .undef, .undef, .undef, .undef, .undef, .undef, .undef, .undef, .undef, .undef, .undef, .undef, .undef, .undef, .undef, .undef, .undef], ofL [some (numT, .agg [.bool x3_1, .int .i64 x3_2, .wide x3_3]), some (numT, .agg [.bool false, .int .i64 0, .wide p.2.2]), none, none, none, none, none, none, none, none, none, none, none, none, none, none, none, none, none, none, none, none, none, none, none, none, none, some (wideT, .wide p.2.1), none, none, none], 31⟩)
      (fun m p => shP (dgP x1 x3_2 x3_3) (dgW x1 x2 x3_1 x3_2 x3_3 x4) p.1 p.2.1 ∧ tzN p.2.1.toNat ≤ m) ?_ (tzN (dgW x1 x2 x3_1 x3_2 x3_3 x4).toNat) (_, _, _) ⟨⟨p1, rfl, rfl⟩, Nat.le_refl _⟩
    rintro m ⟨e, s, z⟩ X ⟨g1, g2⟩ hX
    (generalize hK : kR _ _ = K; generalize hO : real = O; generalize hS0 : rops = S0; generalize hS1 : ropsB = S1; generalize hS2 : ropsC = S2; generalize hS3 : ropsD = S3; generalize hS4 : ropsE = S4; generalize hS5 : ropsF = S5; generalize hS6 : ropsG = S6; generalize hS7 : ropsH = S7; generalize hS8 : ropsI = S8; generalize hS9 : ropsJ = S9; generalize hS10 : ropsK = S10; generalize hS11 : ropsL = S11; generalize hS12 : ropsM = S12; generalize hS13 : ropsN = S13; generalize hS14 : ropsP = S14; generalize hS15 : ropsQ = S15; generalize hS16 : ropsT = S16; generalize hS17 : ropsU = S17; generalize hS18 : ropsV = S18; set_option maxRecDepth 100000 in cbv; subst hO hK hS0 hS1 hS2 hS3 hS4 hS5 hS6 hS7 hS8 hS9 hS10 hS11 hS12 hS13 hS14 hS15 hS16 hS17 hS18; dsimp only [real, rops, ropsB, ropsC, ropsD, ropsE, ropsF, ropsG, ropsH, ropsI, ropsJ, ropsK, ropsL, ropsM, ropsN, ropsP, ropsQ, ropsT, ropsU, ropsV])
    have k1 : shP (dgP x1 x3_2 x3_3) (dgW x1 x2 x3_1 x3_2 x3_3 x4) e s := g1
    have k2 : tzN s.toNat ≤ m := g2
    clear g1 g2
    refine ⟨imp_f fun g => ?_, imp_t fun g => ?_⟩
    · rw [Bool.not_eq_true'] at g
      obtain ⟨s1, s2⟩ := shP_step k1 g
      have hk := k1.2.1
      have h513 := tzN_512 s k1.1
      have e3 : arithR .add .i64 e 1 = e + 1 := add_i64 (by omega) (by omega)
      rw [e3]
      exact hX (m - 1) (e + 1, wShr s 1, z) (by omega) ⟨s1, by show tzN (wShr s 1).toNat ≤ m - 1; omega⟩
    · rw [Bool.not_eq_false'] at g
      obtain ⟨s1, s2⟩ := sh_end2 k1 g
      unfold ddN ddE ddS ddX ddR
      rw [ho, cond_true, cond_true, cond_true, if_neg h3, if_neg h3, decide_eq_false h3]
      simp only [kR, canon, canons, getW, getWord, allInts8, asInt, isK, kindEq, isArgB, strOf, cBig, cInts, cWords, allInts, allWords, r_ofLimbs, r_mkWord, Option.some.injEq, LV.wide.injEq, LV.word.injEq, LV.int.injEq, LV.bool.injEq, LV.str.injEq, LV.big.injEq, LV.tup.injEq, LV.agg.injEq, List.cons.injEq, and_true, true_and]
      repeat' apply And.intro
      all_goals first | rfl | exact s1 | exact s1.symm | exact s2 | exact s2.symm
theorem same_d0 {b : Bool} {e : Int} {s : W} {x : Bool} {v : Int} (h : v = 0) : Same (.tup [.agg [.bool b, .int .i64 e, .wide s], .bool x, .int .i64 v]) (.tup [.agg [.bool b, .int .i64 e, .wide s], .bool x, .lit .i64 0]) := by
  subst h
  intro ρ w v h
  simpa only [VV, VVs] using h
theorem same_dz {b : Bool} : Same (.tup [.agg [.bool b, .int .i64 0, .wide 0], .bool false, .int .i64 0]) (.tup [.agg [.bool b, .lit .i64 0, .wide 0], .blit false, .lit .i64 0]) := by
  intro ρ w v h
  simpa only [VV, VVs, VC, VCs] using h
theorem same_dn : Same (.tup [.agg [.bool false, .int .i64 0, .wide 0], .bool false, .int .i64 1]) (.tup [.agg [.blit false, .lit .i64 0, .wide 0], .blit false, .lit .i64 1]) := by
  intro ρ w v h
  simpa only [VV, VVs, VC, VCs] using h
theorem p_mIs08Y : SpecOk Tryd.prog globs 52 (mkSpec real [.int .i64] (s_mIs08Y ropsV)) := by
  refine spec_as p_mIs08 ?_
  intro l r h
  unfold s_mIs08Y at h
  split at h
  · rename_i k m
    obtain ⟨h1, rfl⟩ := h
    have h1 : isM m = true := h1
    refine ⟨_, rfl, ?_⟩
    show Same (.bool (isM m)) _
    rw [h1]
    exact same_blit _
  · exact h.elim
theorem p_mIs08N : SpecOk Tryd.prog globs 52 (mkSpec real [.int .i64] (s_mIs08N ropsV)) := by
  refine spec_as p_mIs08 ?_
  intro l r h
  unfold s_mIs08N at h
  split at h
  · rename_i k m
    obtain ⟨h1, rfl⟩ := h
    have h1 : isM m = false := h1
    refine ⟨_, rfl, ?_⟩
    show Same (.bool (isM m)) _
    rw [h1]
    exact same_blit _
  · exact h.elim
theorem p_right09Y : SpecOk Tryd.prog globs 51 (mkSpec real [.int .i64, .st [.bool, .int .i64, .wide], .bool] (s_right09Y ropsV)) := by
  refine spec_as p_right09 ?_
  intro l r h
  unfold s_right09Y at h
  split at h
  · rename_i k p b k2 e s more
    obtain ⟨h1, rfl⟩ := h
    have h1 : rightN p e s more = true := h1
    refine ⟨_, rfl, ?_⟩
    show Same (.bool (rightN p e s more)) _
    rw [h1]
    exact same_blit _
  · exact h.elim
theorem p_right09N : SpecOk Tryd.prog globs 51 (mkSpec real [.int .i64, .st [.bool, .int .i64, .wide], .bool] (s_right09N ropsV)) := by
  refine spec_as p_right09 ?_
  intro l r h
  unfold s_right09N at h
  split at h
  · rename_i k p b k2 e s more
    obtain ⟨h1, rfl⟩ := h
    have h1 : rightN p e s more = false := h1
    refine ⟨_, rfl, ?_⟩
    show Same (.bool (rightN p e s more)) _
    rw [h1]
    exact same_blit _
  · exact h.elim
theorem p_prightY : SpecOk Tryd.prog globs 50 (mkSpec real [.int .i64, .st [.bool, .int .i64, .wide], .bool] (s_prightY ropsV)) := by
  refine spec_as p_pright ?_
  intro l r h
  unfold s_prightY at h
  split at h
  · rename_i k p b k2 e s more
    obtain ⟨h1, rfl⟩ := h
    have h1 : rightN p e s more = true := h1
    refine ⟨_, rfl, ?_⟩
    show Same (.bool (rightN p e s more)) _
    rw [h1]
    exact same_blit _
  · exact h.elim
theorem p_prightN : SpecOk Tryd.prog globs 50 (mkSpec real [.int .i64, .st [.bool, .int .i64, .wide], .bool] (s_prightN ropsV)) := by
  refine spec_as p_pright ?_
  intro l r h
  unfold s_prightN at h
  split at h
  · rename_i k p b k2 e s more
    obtain ⟨h1, rfl⟩ := h
    have h1 : rightN p e s more = false := h1
    refine ⟨_, rfl, ?_⟩
    show Same (.bool (rightN p e s more)) _
    rw [h1]
    exact same_blit _
  · exact h.elim
theorem p_pDigY : SpecOk Tryd.prog globs 49 (mkSpec real [.int .i64, .int .i64, .st [.bool, .int .i64, .wide], .bool] (s_pDigY ropsV)) := by
  refine spec_as p_pDig ?_
  intro l r h
  unfold s_pDigY at h
  split at h
  · rename_i k p k2 m b k3 e s more
    obtain ⟨⟨h1, h2⟩, rfl⟩ := h
    refine ⟨_, rfl, ?_⟩
    show Same (.tup [.agg [.bool (ddN m p b e s more), _, _], _, .int .i64 (ddR m p e s more)]) _
    have e1 : ddN m p b e s more = b := by unfold ddN; rw [h1]; rfl
    rw [e1]
    exact same_d0 (by unfold ddR; rw [h1]; rfl)
  · exact h.elim
theorem p_pDigZ : SpecOk Tryd.prog globs 49 (mkSpec real [.int .i64, .int .i64, .st [.bool, .int .i64, .wide], .bool] (s_pDigZ ropsV)) := by
  refine spec_as p_pDig ?_
  intro l r h
  unfold s_pDigZ at h
  split at h
  · rename_i k p k2 m b k3 e s more
    obtain ⟨⟨h1, h2⟩, rfl⟩ := h
    refine ⟨_, rfl, ?_⟩
    show Same (.tup [.agg [.bool (ddN m p b e s more), .int .i64 (ddE m p b e s more), .wide (ddS m p b e s more)], .bool (ddX m p e s more), .int .i64 (ddR m p e s more)]) _
    unfold ddN ddE ddS ddX ddR
    rw [h1, cond_true, cond_true, cond_true, if_pos h2, if_pos h2, decide_eq_true h2]
    exact same_dz
  · exact h.elim
theorem p_pDigN : SpecOk Tryd.prog globs 49 (mkSpec real [.int .i64, .int .i64, .st [.bool, .int .i64, .wide], .bool] (s_pDigN ropsV)) := by
  refine spec_as p_pDig ?_
  intro l r h
  unfold s_pDigN at h
  split at h
  · rename_i k p k2 m b k3 e s more
    obtain ⟨h1, rfl⟩ := h
    have h1 : dOk m p e s more = false := h1
    refine ⟨_, rfl, ?_⟩
    show Same (.tup [.agg [.bool (ddN m p b e s more), .int .i64 (ddE m p b e s more), .wide (ddS m p b e s more)], .bool (ddX m p e s more), .int .i64 (ddR m p e s more)]) _
    unfold ddN ddE ddS ddX ddR
    rw [h1]
    exact same_dn
  · exact h.elim
theorem p_PackDigitsN1 : SpecOk Tryd.prog globs 10 (mkSpec real [.st [.int .i64, .int .i64], .st [.bool, .int .i64, .wide], .bool] (s_PackDigitsN1 ropsV)) := by
  have hfns : FnsOk Tryd.prog globs [(49, .spec (mkSpec real [.int .i64, .int .i64, .st [.bool, .int .i64, .wide], .bool] (s_pDigN ropsV))), (50, .spec (mkSpec real [.int .i64, .st [.bool, .int .i64, .wide], .bool] (s_pright ropsT))), (51, .spec (mkSpec real [.int .i64, .st [.bool, .int .i64, .wide], .bool] (s_right09 ropsT))), (52, .spec (mkSpec real [.int .i64] (s_mIs08N ropsV))), (53, .spec (mkSpec real [] (s_awake09 ropsV))), (21, .spec (mkSpec real [.wide] (s_big02 ropsK))), (20, .spec (mkSpec real [.big] (s_len01 ropsH))), (54, .spec (mkSpec real [.st [.bool, .int .i64, .wide], .bool] (s_of09 ropsU))), (55, .spec (mkSpec real [.st [.bool, .int .i64, .big, .big, .int .i64]] (s_top09 ropsU))), (56, .spec (mkSpec real [.st [.bool, .int .i64, .big, .big, .int .i64], .int .i64, .int .i64, .int .i64] (s_at09 ropsU))), (24, .spec (mkSpec real [.st [.bool, .int .i64, .wide]] (s_of07 ropsK))), (23, .spec (mkSpec real [.st [.bool, .big, .int .i64], .st [.bool, .big, .int .i64]] (s_size07 ropsL)))] := (fnsCons (fnSpec (p_pDigN)) (fnsCons (fnSpec (p_pright)) (fnsCons (fnSpec (p_right09)) (fnsCons (fnSpec (p_mIs08N)) (fnsCons (fnSpec (p_awake09)) (fnsCons (fnSpec (p_big02)) (fnsCons (fnSpec (p_len01)) (fnsCons (fnSpec (p_of09)) (fnsCons (fnSpec (p_top09)) (fnsCons (fnSpec (p_at09)) (fnsCons (fnSpec (p_of07)) (fnsCons (fnSpec (p_size07)) fnsNil))))))))))))
  refine spec0 hfns (by kernel_rfl) Tryd.func10 (by kernel_rfl) (by kernel_rfl) (by kernel_rfl) 4 _ _ (.bool) ?_
  clear hfns
  generalize hEE : env0 [(49, .spec (mkSpec real [.int .i64, .int .i64, .st [.bool, .int .i64, .wide], .bool] (s_pDigN ropsV))), (50, .spec (mkSpec real [.int .i64, .st [.bool, .int .i64, .wide], .bool] (s_pright ropsT))), (51, .spec (mkSpec real [.int .i64, .st [.bool, .int .i64, .wide], .bool] (s_right09 ropsT))), (52, .spec (mkSpec real [.int .i64] (s_mIs08N ropsV))), (53, .spec (mkSpec real [] (s_awake09 ropsV))), (21, .spec (mkSpec real [.wide] (s_big02 ropsK))), (20, .spec (mkSpec real [.big] (s_len01 ropsH))), (54, .spec (mkSpec real [.st [.bool, .int .i64, .wide], .bool] (s_of09 ropsU))), (55, .spec (mkSpec real [.st [.bool, .int .i64, .big, .big, .int .i64]] (s_top09 ropsU))), (56, .spec (mkSpec real [.st [.bool, .int .i64, .big, .big, .int .i64], .int .i64, .int .i64, .int .i64] (s_at09 ropsU))), (24, .spec (mkSpec real [.st [.bool, .int .i64, .wide]] (s_of07 ropsK))), (23, .spec (mkSpec real [.st [.bool, .big, .int .i64], .st [.bool, .big, .int .i64]] (s_size07 ropsL)))] = EE
  intro l r hl hr
  simp only [Forms, Form] at hl
  obtain ⟨_, _, rfl, ⟨_, rfl, ⟨_, _, rfl, ⟨x1_1, rfl, x1_1lo, x1_1hi⟩, _, _, rfl, ⟨x1_2, rfl, x1_2lo, x1_2hi⟩, rfl⟩⟩, _, _, rfl, ⟨_, rfl, ⟨_, _, rfl, ⟨x2_1, rfl⟩, _, _, rfl, ⟨x2_2, rfl, x2_2lo, x2_2hi⟩, _, _, rfl, ⟨x2_3, rfl⟩, rfl⟩⟩, _, _, rfl, ⟨x3, rfl⟩, rfl⟩ := hl
  subst hEE
  generalize hK : kR (.bool) r = K
  generalize hO : real = O
  generalize hS0 : rops = S0
  generalize hS1 : ropsB = S1
  generalize hS2 : ropsC = S2
  generalize hS3 : ropsD = S3
  generalize hS4 : ropsE = S4
  generalize hS5 : ropsF = S5
  generalize hS6 : ropsG = S6
  generalize hS7 : ropsH = S7
  generalize hS8 : ropsI = S8
  generalize hS9 : ropsJ = S9
  generalize hS10 : ropsK = S10
  generalize hS11 : ropsL = S11
  generalize hS12 : ropsM = S12
  generalize hS13 : ropsN = S13
  generalize hS14 : ropsP = S14
  generalize hS15 : ropsQ = S15
  generalize hS16 : ropsT = S16
  generalize hS17 : ropsU = S17
  generalize hS18 : ropsV = S18
  set_option maxRecDepth 100000 in cbv
  subst hO hK hS0 hS1 hS2 hS3 hS4 hS5 hS6 hS7 hS8 hS9 hS10 hS11 hS12 hS13 hS14 hS15 hS16 hS17 hS18
  simp only [s_PackDigitsN1, R.Y] at hr
  obtain ⟨hreq, hr⟩ := hr
  try dsimp only [rops, ropsB, ropsC, ropsD, ropsE, ropsF, ropsG, ropsH, ropsI, ropsJ, ropsK, ropsL, ropsM, ropsN, ropsP, ropsQ, ropsT, ropsU, ropsV] at hreq
  subst hr
  try dsimp only [real, rops, ropsB, ropsC, ropsD, ropsE, ropsF, ropsG, ropsH, ropsI, ropsJ, ropsK, ropsL, ropsM, ropsN, ropsP, ropsQ, ropsT, ropsU, ropsV]
  have hd : dOk x1_2 x1_1 x2_2 x2_3 x3 = false := by unfold dOk; rw [hreq]; rfl
  cases rightN x1_1 x2_2 x2_3 x3 <;> simp [hd, hreq, ofLimbs_0, eql_self, kb_t]
theorem p_PackDigitsN2 : SpecOk Tryd.prog globs 10 (mkSpec real [.st [.int .i64, .int .i64], .st [.bool, .int .i64, .wide], .bool] (s_PackDigitsN2 ropsV)) := by
  have hfns : FnsOk Tryd.prog globs [(49, .spec (mkSpec real [.int .i64, .int .i64, .st [.bool, .int .i64, .wide], .bool] (s_pDigN ropsV))), (50, .spec (mkSpec real [.int .i64, .st [.bool, .int .i64, .wide], .bool] (s_prightN ropsV))), (51, .spec (mkSpec real [.int .i64, .st [.bool, .int .i64, .wide], .bool] (s_right09N ropsV))), (52, .spec (mkSpec real [.int .i64] (s_mIs08Y ropsV))), (53, .spec (mkSpec real [] (s_awake09 ropsV))), (21, .spec (mkSpec real [.wide] (s_big02 ropsK))), (20, .spec (mkSpec real [.big] (s_len01 ropsH))), (54, .spec (mkSpec real [.st [.bool, .int .i64, .wide], .bool] (s_of09 ropsU))), (55, .spec (mkSpec real [.st [.bool, .int .i64, .big, .big, .int .i64]] (s_top09 ropsU))), (56, .spec (mkSpec real [.st [.bool, .int .i64, .big, .big, .int .i64], .int .i64, .int .i64, .int .i64] (s_at09 ropsU))), (24, .spec (mkSpec real [.st [.bool, .int .i64, .wide]] (s_of07 ropsK))), (23, .spec (mkSpec real [.st [.bool, .big, .int .i64], .st [.bool, .big, .int .i64]] (s_size07 ropsL)))] := (fnsCons (fnSpec (p_pDigN)) (fnsCons (fnSpec (p_prightN)) (fnsCons (fnSpec (p_right09N)) (fnsCons (fnSpec (p_mIs08Y)) (fnsCons (fnSpec (p_awake09)) (fnsCons (fnSpec (p_big02)) (fnsCons (fnSpec (p_len01)) (fnsCons (fnSpec (p_of09)) (fnsCons (fnSpec (p_top09)) (fnsCons (fnSpec (p_at09)) (fnsCons (fnSpec (p_of07)) (fnsCons (fnSpec (p_size07)) fnsNil))))))))))))
  refine spec0 hfns (by kernel_rfl) Tryd.func10 (by kernel_rfl) (by kernel_rfl) (by kernel_rfl) 4 _ _ (.bool) ?_
  clear hfns
  generalize hEE : env0 [(49, .spec (mkSpec real [.int .i64, .int .i64, .st [.bool, .int .i64, .wide], .bool] (s_pDigN ropsV))), (50, .spec (mkSpec real [.int .i64, .st [.bool, .int .i64, .wide], .bool] (s_prightN ropsV))), (51, .spec (mkSpec real [.int .i64, .st [.bool, .int .i64, .wide], .bool] (s_right09N ropsV))), (52, .spec (mkSpec real [.int .i64] (s_mIs08Y ropsV))), (53, .spec (mkSpec real [] (s_awake09 ropsV))), (21, .spec (mkSpec real [.wide] (s_big02 ropsK))), (20, .spec (mkSpec real [.big] (s_len01 ropsH))), (54, .spec (mkSpec real [.st [.bool, .int .i64, .wide], .bool] (s_of09 ropsU))), (55, .spec (mkSpec real [.st [.bool, .int .i64, .big, .big, .int .i64]] (s_top09 ropsU))), (56, .spec (mkSpec real [.st [.bool, .int .i64, .big, .big, .int .i64], .int .i64, .int .i64, .int .i64] (s_at09 ropsU))), (24, .spec (mkSpec real [.st [.bool, .int .i64, .wide]] (s_of07 ropsK))), (23, .spec (mkSpec real [.st [.bool, .big, .int .i64], .st [.bool, .big, .int .i64]] (s_size07 ropsL)))] = EE
  intro l r hl hr
  simp only [Forms, Form] at hl
  obtain ⟨_, _, rfl, ⟨_, rfl, ⟨_, _, rfl, ⟨x1_1, rfl, x1_1lo, x1_1hi⟩, _, _, rfl, ⟨x1_2, rfl, x1_2lo, x1_2hi⟩, rfl⟩⟩, _, _, rfl, ⟨_, rfl, ⟨_, _, rfl, ⟨x2_1, rfl⟩, _, _, rfl, ⟨x2_2, rfl, x2_2lo, x2_2hi⟩, _, _, rfl, ⟨x2_3, rfl⟩, rfl⟩⟩, _, _, rfl, ⟨x3, rfl⟩, rfl⟩ := hl
  subst hEE
  generalize hK : kR (.bool) r = K
  generalize hO : real = O
  generalize hS0 : rops = S0
  generalize hS1 : ropsB = S1
  generalize hS2 : ropsC = S2
  generalize hS3 : ropsD = S3
  generalize hS4 : ropsE = S4
  generalize hS5 : ropsF = S5
  generalize hS6 : ropsG = S6
  generalize hS7 : ropsH = S7
  generalize hS8 : ropsI = S8
  generalize hS9 : ropsJ = S9
  generalize hS10 : ropsK = S10
  generalize hS11 : ropsL = S11
  generalize hS12 : ropsM = S12
  generalize hS13 : ropsN = S13
  generalize hS14 : ropsP = S14
  generalize hS15 : ropsQ = S15
  generalize hS16 : ropsT = S16
  generalize hS17 : ropsU = S17
  generalize hS18 : ropsV = S18
  set_option maxRecDepth 100000 in cbv
  subst hO hK hS0 hS1 hS2 hS3 hS4 hS5 hS6 hS7 hS8 hS9 hS10 hS11 hS12 hS13 hS14 hS15 hS16 hS17 hS18
  simp only [s_PackDigitsN2, R.Y] at hr
  obtain ⟨hreq, hr⟩ := hr
  try dsimp only [rops, ropsB, ropsC, ropsD, ropsE, ropsF, ropsG, ropsH, ropsI, ropsJ, ropsK, ropsL, ropsM, ropsN, ropsP, ropsQ, ropsT, ropsU, ropsV] at hreq
  subst hr
  try dsimp only [real, rops, ropsB, ropsC, ropsD, ropsE, ropsF, ropsG, ropsH, ropsI, ropsJ, ropsK, ropsL, ropsM, ropsN, ropsP, ropsQ, ropsT, ropsU, ropsV]
  obtain ⟨h1, h2⟩ := hreq
  have hd : dOk x1_2 x1_1 x2_2 x2_3 x3 = false := by unfold dOk; rw [h2, Bool.and_false]
  simp [hd, h1, h2, ofLimbs_0, eql_self, kb_t]
theorem p_PackDigitsZ : SpecOk Tryd.prog globs 10 (mkSpec real [.st [.int .i64, .int .i64], .st [.bool, .int .i64, .wide], .bool] (s_PackDigitsZ ropsV)) := by
  have hfns : FnsOk Tryd.prog globs [(49, .spec (mkSpec real [.int .i64, .int .i64, .st [.bool, .int .i64, .wide], .bool] (s_pDigZ ropsV))), (50, .spec (mkSpec real [.int .i64, .st [.bool, .int .i64, .wide], .bool] (s_prightY ropsV))), (51, .spec (mkSpec real [.int .i64, .st [.bool, .int .i64, .wide], .bool] (s_right09Y ropsV))), (52, .spec (mkSpec real [.int .i64] (s_mIs08Y ropsV))), (53, .spec (mkSpec real [] (s_awake09 ropsV))), (21, .spec (mkSpec real [.wide] (s_big02 ropsK))), (20, .spec (mkSpec real [.big] (s_len01 ropsH))), (54, .spec (mkSpec real [.st [.bool, .int .i64, .wide], .bool] (s_of09 ropsU))), (55, .spec (mkSpec real [.st [.bool, .int .i64, .big, .big, .int .i64]] (s_top09 ropsU))), (56, .spec (mkSpec real [.st [.bool, .int .i64, .big, .big, .int .i64], .int .i64, .int .i64, .int .i64] (s_at09 ropsU))), (24, .spec (mkSpec real [.st [.bool, .int .i64, .wide]] (s_of07 ropsK))), (23, .spec (mkSpec real [.st [.bool, .big, .int .i64], .st [.bool, .big, .int .i64]] (s_size07 ropsL)))] := (fnsCons (fnSpec (p_pDigZ)) (fnsCons (fnSpec (p_prightY)) (fnsCons (fnSpec (p_right09Y)) (fnsCons (fnSpec (p_mIs08Y)) (fnsCons (fnSpec (p_awake09)) (fnsCons (fnSpec (p_big02)) (fnsCons (fnSpec (p_len01)) (fnsCons (fnSpec (p_of09)) (fnsCons (fnSpec (p_top09)) (fnsCons (fnSpec (p_at09)) (fnsCons (fnSpec (p_of07)) (fnsCons (fnSpec (p_size07)) fnsNil))))))))))))
  refine spec0 hfns (by kernel_rfl) Tryd.func10 (by kernel_rfl) (by kernel_rfl) (by kernel_rfl) 4 _ _ (.bool) ?_
  clear hfns
  generalize hEE : env0 [(49, .spec (mkSpec real [.int .i64, .int .i64, .st [.bool, .int .i64, .wide], .bool] (s_pDigZ ropsV))), (50, .spec (mkSpec real [.int .i64, .st [.bool, .int .i64, .wide], .bool] (s_prightY ropsV))), (51, .spec (mkSpec real [.int .i64, .st [.bool, .int .i64, .wide], .bool] (s_right09Y ropsV))), (52, .spec (mkSpec real [.int .i64] (s_mIs08Y ropsV))), (53, .spec (mkSpec real [] (s_awake09 ropsV))), (21, .spec (mkSpec real [.wide] (s_big02 ropsK))), (20, .spec (mkSpec real [.big] (s_len01 ropsH))), (54, .spec (mkSpec real [.st [.bool, .int .i64, .wide], .bool] (s_of09 ropsU))), (55, .spec (mkSpec real [.st [.bool, .int .i64, .big, .big, .int .i64]] (s_top09 ropsU))), (56, .spec (mkSpec real [.st [.bool, .int .i64, .big, .big, .int .i64], .int .i64, .int .i64, .int .i64] (s_at09 ropsU))), (24, .spec (mkSpec real [.st [.bool, .int .i64, .wide]] (s_of07 ropsK))), (23, .spec (mkSpec real [.st [.bool, .big, .int .i64], .st [.bool, .big, .int .i64]] (s_size07 ropsL)))] = EE
  intro l r hl hr
  simp only [Forms, Form] at hl
  obtain ⟨_, _, rfl, ⟨_, rfl, ⟨_, _, rfl, ⟨x1_1, rfl, x1_1lo, x1_1hi⟩, _, _, rfl, ⟨x1_2, rfl, x1_2lo, x1_2hi⟩, rfl⟩⟩, _, _, rfl, ⟨_, rfl, ⟨_, _, rfl, ⟨x2_1, rfl⟩, _, _, rfl, ⟨x2_2, rfl, x2_2lo, x2_2hi⟩, _, _, rfl, ⟨x2_3, rfl⟩, rfl⟩⟩, _, _, rfl, ⟨x3, rfl⟩, rfl⟩ := hl
  subst hEE
  generalize hK : kR (.bool) r = K
  generalize hO : real = O
  generalize hS0 : rops = S0
  generalize hS1 : ropsB = S1
  generalize hS2 : ropsC = S2
  generalize hS3 : ropsD = S3
  generalize hS4 : ropsE = S4
  generalize hS5 : ropsF = S5
  generalize hS6 : ropsG = S6
  generalize hS7 : ropsH = S7
  generalize hS8 : ropsI = S8
  generalize hS9 : ropsJ = S9
  generalize hS10 : ropsK = S10
  generalize hS11 : ropsL = S11
  generalize hS12 : ropsM = S12
  generalize hS13 : ropsN = S13
  generalize hS14 : ropsP = S14
  generalize hS15 : ropsQ = S15
  generalize hS16 : ropsT = S16
  generalize hS17 : ropsU = S17
  generalize hS18 : ropsV = S18
  set_option maxRecDepth 100000 in cbv
  subst hO hK hS0 hS1 hS2 hS3 hS4 hS5 hS6 hS7 hS8 hS9 hS10 hS11 hS12 hS13 hS14 hS15 hS16 hS17 hS18
  simp only [s_PackDigitsZ, R.Y] at hr
  obtain ⟨hreq, hr⟩ := hr
  try dsimp only [rops, ropsB, ropsC, ropsD, ropsE, ropsF, ropsG, ropsH, ropsI, ropsJ, ropsK, ropsL, ropsM, ropsN, ropsP, ropsQ, ropsT, ropsU, ropsV] at hreq
  subst hr
  try dsimp only [real, rops, ropsB, ropsC, ropsD, ropsE, ropsF, ropsG, ropsH, ropsI, ropsJ, ropsK, ropsL, ropsM, ropsN, ropsP, ropsQ, ropsT, ropsU, ropsV]
  obtain ⟨ho, hz⟩ := hreq
  obtain ⟨hm, hr⟩ := (show isM x1_2 = true ∧ rightN x1_1 x2_2 x2_3 x3 = true by unfold dOk at ho; simpa using ho)
  have l0 : cmpR .eql (lenN x2_3.toNat) 0 = true := by rw [c_eql_t]; show ((bitN x2_3.toNat : Nat) : Int) = 0; rw [show x2_3.toNat = 0 by rw [← w_zero]; exact hz]; rfl
  have sw := small_wide x2_3
  refine ⟨⟨ho, hz⟩, hr, hr, .inl rfl, .inr ⟨hm, hr, sw, imp_f fun _ => ?_, .inl l0⟩⟩
  simp [ofLimbs_0, eql_self, kb_t]
theorem p_PackDigitsY : SpecOk Tryd.prog globs 10 (mkSpec real [.st [.int .i64, .int .i64], .st [.bool, .int .i64, .wide], .bool] (s_PackDigitsY ropsV)) := by
  have hfns : FnsOk Tryd.prog globs [(49, .spec (mkSpec real [.int .i64, .int .i64, .st [.bool, .int .i64, .wide], .bool] (s_pDigY ropsV))), (50, .spec (mkSpec real [.int .i64, .st [.bool, .int .i64, .wide], .bool] (s_prightY ropsV))), (51, .spec (mkSpec real [.int .i64, .st [.bool, .int .i64, .wide], .bool] (s_right09Y ropsV))), (52, .spec (mkSpec real [.int .i64] (s_mIs08Y ropsV))), (53, .spec (mkSpec real [] (s_awake09 ropsV))), (21, .spec (mkSpec real [.wide] (s_big02 ropsK))), (20, .spec (mkSpec real [.big] (s_len01 ropsH))), (54, .spec (mkSpec real [.st [.bool, .int .i64, .wide], .bool] (s_of09 ropsU))), (55, .spec (mkSpec real [.st [.bool, .int .i64, .big, .big, .int .i64]] (s_top09 ropsU))), (56, .spec (mkSpec real [.st [.bool, .int .i64, .big, .big, .int .i64], .int .i64, .int .i64, .int .i64] (s_at09 ropsU))), (24, .spec (mkSpec real [.st [.bool, .int .i64, .wide]] (s_of07 ropsK))), (23, .spec (mkSpec real [.st [.bool, .big, .int .i64], .st [.bool, .big, .int .i64]] (s_size07 ropsL)))] := (fnsCons (fnSpec (p_pDigY)) (fnsCons (fnSpec (p_prightY)) (fnsCons (fnSpec (p_right09Y)) (fnsCons (fnSpec (p_mIs08Y)) (fnsCons (fnSpec (p_awake09)) (fnsCons (fnSpec (p_big02)) (fnsCons (fnSpec (p_len01)) (fnsCons (fnSpec (p_of09)) (fnsCons (fnSpec (p_top09)) (fnsCons (fnSpec (p_at09)) (fnsCons (fnSpec (p_of07)) (fnsCons (fnSpec (p_size07)) fnsNil))))))))))))
  refine spec0 hfns (by kernel_rfl) Tryd.func10 (by kernel_rfl) (by kernel_rfl) (by kernel_rfl) 4 _ _ (.bool) ?_
  clear hfns
  generalize hEE : env0 [(49, .spec (mkSpec real [.int .i64, .int .i64, .st [.bool, .int .i64, .wide], .bool] (s_pDigY ropsV))), (50, .spec (mkSpec real [.int .i64, .st [.bool, .int .i64, .wide], .bool] (s_prightY ropsV))), (51, .spec (mkSpec real [.int .i64, .st [.bool, .int .i64, .wide], .bool] (s_right09Y ropsV))), (52, .spec (mkSpec real [.int .i64] (s_mIs08Y ropsV))), (53, .spec (mkSpec real [] (s_awake09 ropsV))), (21, .spec (mkSpec real [.wide] (s_big02 ropsK))), (20, .spec (mkSpec real [.big] (s_len01 ropsH))), (54, .spec (mkSpec real [.st [.bool, .int .i64, .wide], .bool] (s_of09 ropsU))), (55, .spec (mkSpec real [.st [.bool, .int .i64, .big, .big, .int .i64]] (s_top09 ropsU))), (56, .spec (mkSpec real [.st [.bool, .int .i64, .big, .big, .int .i64], .int .i64, .int .i64, .int .i64] (s_at09 ropsU))), (24, .spec (mkSpec real [.st [.bool, .int .i64, .wide]] (s_of07 ropsK))), (23, .spec (mkSpec real [.st [.bool, .big, .int .i64], .st [.bool, .big, .int .i64]] (s_size07 ropsL)))] = EE
  intro l r hl hr
  simp only [Forms, Form] at hl
  obtain ⟨_, _, rfl, ⟨_, rfl, ⟨_, _, rfl, ⟨x1_1, rfl, x1_1lo, x1_1hi⟩, _, _, rfl, ⟨x1_2, rfl, x1_2lo, x1_2hi⟩, rfl⟩⟩, _, _, rfl, ⟨_, rfl, ⟨_, _, rfl, ⟨x2_1, rfl⟩, _, _, rfl, ⟨x2_2, rfl, x2_2lo, x2_2hi⟩, _, _, rfl, ⟨x2_3, rfl⟩, rfl⟩⟩, _, _, rfl, ⟨x3, rfl⟩, rfl⟩ := hl
  subst hEE
  generalize hK : kR (.bool) r = K
  generalize hO : real = O
  generalize hS0 : rops = S0
  generalize hS1 : ropsB = S1
  generalize hS2 : ropsC = S2
  generalize hS3 : ropsD = S3
  generalize hS4 : ropsE = S4
  generalize hS5 : ropsF = S5
  generalize hS6 : ropsG = S6
  generalize hS7 : ropsH = S7
  generalize hS8 : ropsI = S8
  generalize hS9 : ropsJ = S9
  generalize hS10 : ropsK = S10
  generalize hS11 : ropsL = S11
  generalize hS12 : ropsM = S12
  generalize hS13 : ropsN = S13
  generalize hS14 : ropsP = S14
  generalize hS15 : ropsQ = S15
  generalize hS16 : ropsT = S16
  generalize hS17 : ropsU = S17
  generalize hS18 : ropsV = S18
  set_option maxRecDepth 100000 in cbv
  subst hO hK hS0 hS1 hS2 hS3 hS4 hS5 hS6 hS7 hS8 hS9 hS10 hS11 hS12 hS13 hS14 hS15 hS16 hS17 hS18
  simp only [s_PackDigitsY, R.Y] at hr
  obtain ⟨hreq, hr⟩ := hr
  try dsimp only [rops, ropsB, ropsC, ropsD, ropsE, ropsF, ropsG, ropsH, ropsI, ropsJ, ropsK, ropsL, ropsM, ropsN, ropsP, ropsQ, ropsT, ropsU, ropsV] at hreq
  subst hr
  try dsimp only [real, rops, ropsB, ropsC, ropsD, ropsE, ropsF, ropsG, ropsH, ropsI, ropsJ, ropsK, ropsL, ropsM, ropsN, ropsP, ropsQ, ropsT, ropsU, ropsV]
  obtain ⟨ho, hz⟩ := hreq
  obtain ⟨hm, hr⟩ := (show isM x1_2 = true ∧ rightN x1_1 x2_2 x2_3 x3 = true by unfold dOk at ho; simpa using ho)
  obtain ⟨p1, p2, p3, p4, p5, p6, p7, p8, p9, p10⟩ := dd_facts ho hz x2_1
  obtain ⟨r1, r2, r3, r4⟩ := right_parts hr
  obtain ⟨d1, d2, _, _⟩ := dg_facts hm hr hz x2_1
  have hn : x2_3.toNat ≠ 0 := fun hh => hz (by rw [w_zero]; exact hh)
  have l0 : cmpR .eql (lenN x2_3.toNat) 0 = false := by
    rw [c_eql_f]
    have := bitN_pos hn
    show ((bitN x2_3.toNat : Nat) : Int) ≠ 0
    omega
  have sw := small_wide x2_3
  have eT : arithR .sub .i64 (topQ (moreA x2_3.toNat x3) (moreG x2_2 x3)) x1_1 = topQ (moreA x2_3.toNat x3) (moreG x2_2 x3) - x1_1 := sub_i64 (by omega) (by omega)
  have eP : arithR .add .i64 (topQ (moreA x2_3.toNat x3) (moreG x2_2 x3) - x1_1) 1 = dgPl x1_1 x2_2 x2_3 := by rw [add_i64 (by omega) (by omega)]; exact p6
  have eE : ddE x1_2 x1_1 x2_1 x2_2 x2_3 x3 = dgP x1_1 x2_2 x2_3 + (tzN (dgW x1_1 x1_2 x2_1 x2_2 x2_3 x3).toNat : Int) := by unfold ddE; rw [ho, cond_true, if_neg hz]
  have eS : ddS x1_2 x1_1 x2_1 x2_2 x2_3 x3 = wShr (dgW x1_1 x1_2 x2_1 x2_2 x2_3 x3) (tzN (dgW x1_1 x1_2 x2_1 x2_2 x2_3 x3).toNat : Int) := by unfold ddS; rw [ho, cond_true, if_neg hz]
  have eX : ddX x1_2 x1_1 x2_2 x2_3 x3 = !decide (restQ (moreA x2_3.toNat x3) (moreG x2_2 x3) (dgPl x1_1 x2_2 x2_3) = 0) := by unfold ddX; rw [ho, decide_eq_false hz, p5]; rfl
  have hbm : bitN (moreA x2_3.toNat x3) ≤ 513 := by
    have := bitN_wide x2_3
    unfold moreA
    cases x3
    · simp only [cond_false]; omega
    · simp only [cond_true]
      rw [bitN_half (by omega), show (2 * x2_3.toNat + 1) / 2 = x2_3.toNat by omega]; omega
  have hgm : x2_2 - 1 ≤ moreG x2_2 x3 ∧ moreG x2_2 x3 ≤ x2_2 := by unfold moreG; cases x3 <;> simp only [cond_true, cond_false] <;> omega
  have okr : okR (moreA x2_3.toNat x3) (moreG x2_2 x3) := ⟨d2, by omega, by omega, by omega⟩
  have hfl := floor_top d2 (moreG x2_2 x3) (P := x1_1.toNat) (by omega)
  rw [show ((x1_1.toNat : Nat) : Int) = x1_1 by omega, d1] at hfl
  have odd1 : cmpR .eql (arithR .rem .u64 (limbR (wShr (dgW x1_1 x1_2 x2_1 x2_2 x2_3 x3) (tzN (dgW x1_1 x1_2 x2_1 x2_2 x2_3 x3).toNat : Int)) 0) 2) 1 = true := by
    rw [c_eql_t, limb_odd, p2]; rfl
  have len1 : cmpR .leq (lenN (wShr (dgW x1_1 x1_2 x2_1 x2_2 x2_3 x3) (tzN (dgW x1_1 x1_2 x2_1 x2_2 x2_3 x3).toNat : Int)).toNat) x1_1 = true := by
    rw [c_leq_t]; exact p3
  have sz1 : cmpR .eql (sizeN (wShr (dgW x1_1 x1_2 x2_1 x2_2 x2_3 x3) (tzN (dgW x1_1 x1_2 x2_1 x2_2 x2_3 x3).toNat : Int)).toNat (dgP x1_1 x2_2 x2_3 + (tzN (dgW x1_1 x1_2 x2_1 x2_2 x2_3 x3).toNat : Int)) (upQ x1_2 x2_1 (moreA x2_3.toNat x3) (moreG x2_2 x3) (dgPl x1_1 x2_2 x2_3)) (dgPl x1_1 x2_2 x2_3)) 0 = true := by
    rw [c_eql_t]; exact p4
  have ok1 : okN (wShr (dgW x1_1 x1_2 x2_1 x2_2 x2_3 x3) (tzN (dgW x1_1 x1_2 x2_1 x2_2 x2_3 x3).toNat : Int)).toNat (dgP x1_1 x2_2 x2_3 + (tzN (dgW x1_1 x1_2 x2_1 x2_2 x2_3 x3).toNat : Int)) := okN_wide _ (by omega)
  have ok2 : okN (upQ x1_2 x2_1 (moreA x2_3.toNat x3) (moreG x2_2 x3) (dgPl x1_1 x2_2 x2_3)) (dgPl x1_1 x2_2 x2_3) := ⟨by have := bitN_pow_le p9; omega, by omega, by omega⟩
  have swS := small_wide (wShr (dgW x1_1 x1_2 x2_1 x2_2 x2_3 x3) (tzN (dgW x1_1 x1_2 x2_1 x2_2 x2_3 x3).toNat : Int))
  rw [eT, eP, eE, eS, eX]
  refine ⟨⟨ho, hz⟩, hr, hr, .inl rfl, .inr ⟨hm, hr, sw, .inl l0, .inr ⟨⟨by omega, by omega⟩, ⟨rfl, rfl⟩, okr, ⟨rfl, rfl⟩, ⟨okr, ⟨by omega, by omega⟩, ⟨by omega, by omega⟩, hfl.2⟩, ?_⟩⟩⟩
  simp [odd1, len1, sz1, ok1, ok2, swS, kb_t]
theorem p_PackDigits : SpecOk Tryd.prog globs 10 (mkSpec real [.st [.int .i64, .int .i64], .st [.bool, .int .i64, .wide], .bool] (s_PackDigits ropsV)) := by
  have hx := fun (l : List LV) (r : LV) (_ : Forms [.st [.int .i64, .int .i64], .st [.bool, .int .i64, .wide], .bool] l) (h : (s_PackDigits ropsV l).Y r) => h
  refine spec_or (g1 := fun l => match l with
    | [.agg [.int _ p, .int _ m], .agg [.bool _, .int _ e, .wide s], .bool more] => if isM m = false then s_PackDigitsN1 ropsV l else if rightN p e s more = false then s_PackDigitsN2 ropsV l else .fail
    | _ => .fail) (g2 := fun l => match l with
    | [.agg [.int _ p, .int _ m], .agg [.bool _, .int _ e, .wide s], .bool more] => if dOk m p e s more = true then (if s = 0 then s_PackDigitsZ ropsV l else s_PackDigitsY ropsV l) else .fail
    | _ => .fail) ?_ ?_ ?_
  · refine spec_or p_PackDigitsN1 p_PackDigitsN2 ?_
    intro l r hl hr
    split at hr
    · split at hr
      · exact .inl hr
      · split at hr
        · exact .inr hr
        · exact hr.elim
    · exact hr.elim
  · refine spec_or p_PackDigitsZ p_PackDigitsY ?_
    intro l r hl hr
    split at hr
    · split at hr
      · split at hr
        · exact .inl hr
        · exact .inr hr
      · exact hr.elim
    · exact hr.elim
  · intro l r hl hr
    simp only [Forms, Form] at hl
    obtain ⟨_, _, rfl, ⟨_, rfl, _, _, rfl, ⟨p, rfl, _⟩, _, _, rfl, ⟨m, rfl, _⟩, rfl⟩, _, _, rfl, ⟨_, rfl, _, _, rfl, ⟨b, rfl⟩, _, _, rfl, ⟨e, rfl, _⟩, _, _, rfl, ⟨s, rfl⟩, rfl⟩, _, _, rfl, ⟨more, rfl⟩, rfl⟩ := hl
    have hr : LV.bool true = r := hr
    subst hr
    cases hm : isM m with
    | false => exact .inl (by show (if _ then _ else _ : R LV).Y _; rw [if_pos hm]; exact ⟨hm, rfl⟩)
    | true =>
      cases hr : rightN p e s more with
      | false => exact .inl (by show (if _ then _ else _ : R LV).Y _; rw [if_neg (by rw [hm]; decide), if_pos hr]; exact ⟨⟨hm, hr⟩, rfl⟩)
      | true =>
        have ho : dOk m p e s more = true := by unfold dOk; rw [hm, hr]; rfl
        refine .inr ?_
        show (if _ then _ else _ : R LV).Y _
        rw [if_pos ho]
        by_cases hz : s = 0
        · rw [if_pos hz]; exact ⟨⟨ho, hz⟩, rfl⟩
        · rw [if_neg hz]; exact ⟨⟨ho, hz⟩, rfl⟩
end Go.LE