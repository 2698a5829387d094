import Derived.Test.YtcmicmbpcgminaaGreatDoorW28
import Derived.Test.YtcmicmbpcgminaaGreatDoorLeR
set_option linter.unusedVariables false
set_option linter.unusedSimpArgs false
namespace Go.LE
open Go Go.Proofs
structure OpsV where
  isF : Int → Prop
  rg : Int → Prop
  pr : Int → Prop
  dgW : Int → Int → Bool → Int → W → Bool → W
  dgP : Int → Int → W → Int
  dgX : Int → Int → Int → W → Bool → Bool
  ddN : Int → Int → Bool → Int → W → Bool → Bool
  ddE : Int → Int → Bool → Int → W → Bool → Int
  ddS : Int → Int → Bool → Int → W → Bool → W
  ddX : Int → Int → Int → W → Bool → Bool
  ddR : Int → Int → Int → W → Bool → Int
  isMt : Int → Prop
  isMf : Int → Prop
  rY : Int → Int → W → Bool → Prop
  rN : Int → Int → W → Bool → Prop
  dY : Int → Int → Int → W → Bool → Prop
  dZ : Int → Int → Int → W → Bool → Prop
  dN1 : Int → Int → Int → W → Bool → Prop
  dN2 : Int → Int → Int → W → Bool → Prop
  dN : Int → Int → Int → W → Bool → Prop
noncomputable def ropsV : OpsV where
  isF := fun f => 1 ≤ f ∧ f ≤ 4
  rg := fun e => -1048576 ≤ e ∧ e ≤ 1048576
  pr := fun p => 0 ≤ p ∧ p ≤ 1000
  dgW := dgW
  dgP := dgP
  dgX := dgX
  ddN := ddN
  ddE := ddE
  ddS := ddS
  ddX := ddX
  ddR := ddR
  isMt := fun m => isM m = true
  isMf := fun m => isM m = false
  rY := fun p e s more => rightN p e s more = true
  rN := fun p e s more => rightN p e s more = false
  dY := fun m p e s more => dOk m p e s more = true ∧ s ≠ 0
  dZ := fun m p e s more => dOk m p e s more = true ∧ s = 0
  dN1 := fun m _ _ _ _ => isM m = false
  dN2 := fun m p e s more => isM m = true ∧ rightN p e s more = false
  dN := fun m p e s more => dOk m p e s more = false
def s_pdigits (S : OpsV) : List LV → R LV
  | [.int _ p, .int _ m, .agg [.bool b, .int _ e, .wide s], .bool more] => .req (S.pr p) (.req (S.rg e) (.ok (.tup [.wide (S.dgW p m b e s more), .int .i64 (S.dgP p e s), .bool (S.dgX p m e s more)])))
  | _ => .fail
def s_pDig (S : OpsV) : List LV → R LV
  | [.int _ p, .int _ m, .agg [.bool b, .int _ e, .wide s], .bool more] => .ok (.tup [.agg [.bool (S.ddN m p b e s more), .int .i64 (S.ddE m p b e s more), .wide (S.ddS m p b e s more)], .bool (S.ddX m p e s more), .int .i64 (S.ddR m p e s more)])
  | _ => .fail
def s_right09 (S : OpsT) : List LV → R LV
  | [.int _ p, .agg [.bool _, .int _ e, .wide s], .bool more] => .ok (.bool (S.right p e s more))
  | _ => .fail
def s_mIs08 (S : OpsT) : List LV → R LV
  | [.int _ m] => .ok (.bool (S.isM m))
  | _ => .fail
def s_mIs08Y (S : OpsV) : List LV → R LV
  | [.int _ m] => .req (S.isMt m) (.ok (.blit true))
  | _ => .fail
def s_mIs08N (S : OpsV) : List LV → R LV
  | [.int _ m] => .req (S.isMf m) (.ok (.blit false))
  | _ => .fail
def s_right09Y (S : OpsV) : List LV → R LV
  | [.int _ p, .agg [.bool _, .int _ e, .wide s], .bool more] => .req (S.rY p e s more) (.ok (.blit true))
  | _ => .fail
def s_right09N (S : OpsV) : List LV → R LV
  | [.int _ p, .agg [.bool _, .int _ e, .wide s], .bool more] => .req (S.rN p e s more) (.ok (.blit false))
  | _ => .fail
def s_prightY (S : OpsV) : List LV → R LV
  | [.int _ p, .agg [.bool _, .int _ e, .wide s], .bool more] => .req (S.rY p e s more) (.ok (.blit true))
  | _ => .fail
def s_prightN (S : OpsV) : List LV → R LV
  | [.int _ p, .agg [.bool _, .int _ e, .wide s], .bool more] => .req (S.rN p e s more) (.ok (.blit false))
  | _ => .fail
def s_pDigY (S : OpsV) : List LV → R LV
  | [.int _ p, .int _ m, .agg [.bool b, .int _ e, .wide s], .bool more] => .req (S.dY m p e s more) (.ok (.tup [.agg [.bool b, .int .i64 (S.ddE m p b e s more), .wide (S.ddS m p b e s more)], .bool (S.ddX m p e s more), .lit .i64 0]))
  | _ => .fail
def s_pDigZ (S : OpsV) : List LV → R LV
  | [.int _ p, .int _ m, .agg [.bool b, .int _ e, .wide s], .bool more] => .req (S.dZ m p e s more) (.ok (.tup [.agg [.bool b, .lit .i64 0, .wide 0], .blit false, .lit .i64 0]))
  | _ => .fail
def s_pDigN (S : OpsV) : List LV → R LV
  | [.int _ p, .int _ m, .agg [.bool b, .int _ e, .wide s], .bool more] => .req (S.dN m p e s more) (.ok (.tup [.agg [.blit false, .lit .i64 0, .wide 0], .blit false, .lit .i64 1]))
  | _ => .fail
def s_PackDigitsY (S : OpsV) : List LV → R LV
  | [.agg [.int _ p, .int _ m], .agg [.bool _, .int _ e, .wide s], .bool more] => .req (S.dY m p e s more) (.ok (.bool true))
  | _ => .fail
def s_PackDigitsZ (S : OpsV) : List LV → R LV
  | [.agg [.int _ p, .int _ m], .agg [.bool _, .int _ e, .wide s], .bool more] => .req (S.dZ m p e s more) (.ok (.bool true))
  | _ => .fail
def s_PackDigitsN1 (S : OpsV) : List LV → R LV
  | [.agg [.int _ p, .int _ m], .agg [.bool _, .int _ e, .wide s], .bool more] => .req (S.dN1 m p e s more) (.ok (.bool true))
  | _ => .fail
def s_PackDigitsN2 (S : OpsV) : List LV → R LV
  | [.agg [.int _ p, .int _ m], .agg [.bool _, .int _ e, .wide s], .bool more] => .req (S.dN2 m p e s more) (.ok (.bool true))
  | _ => .fail
def s_awake09 (_ : OpsV) : List LV → R LV := fun _ => .ok (.bool true)
def s_PackDigits (_ : OpsV) : List LV → R LV := fun _ => .ok (.bool true)
def s_PackRounds (_ : OpsV) : List LV → R LV := fun _ => .ok (.bool true)
def s_PackOwn (_ : OpsV) : List LV → R LV := fun _ => .ok (.bool true)
theorem p_mIs08 : SpecOk Tryz.prog globs 21 (mkSpec real [.int .i64] (s_mIs08 ropsT)) := by
  have hfns : FnsOk Tryz.prog globs [] := fnsNil
  refine spec0 hfns (by kernel_rfl) Tryz.func21 (by kernel_rfl) (by kernel_rfl) (by kernel_rfl) 4 _ _ (.bool) ?_
  clear hfns
  generalize hEE : env0 [] = EE
  intro l r hl hr
  simp only [Forms, Form] at hl
  obtain ⟨_, _, rfl, ⟨x1, rfl, x1lo, x1hi⟩, rfl⟩ := hl
  subst hEE
  generalize hK : kR (.bool) r = K
  generalize hO : real = O
  set_option maxRecDepth 100000 in cbv
  subst hO hK 
  simp only [s_mIs08, R.Y] at hr
  subst hr
  try dsimp only [real, rops, ropsB, ropsC, ropsD, ropsE, ropsF, ropsG, ropsH, ropsI, ropsJ, ropsK, ropsL, ropsM, ropsN, ropsP, ropsQ, ropsT, ropsUm, ropsU, ropsV]
  unfold isM
  refine ⟨imp_f fun h => ?_, imp_t fun h => ?_⟩
  · rw [c_geq_t] at h
    simp only [kR, canon, canons, ekEq, numE, getW, getWord, allInts8, asInt, isK, kindEq, isArgB, strOf, cBig, cInts, cWords, allInts, allWords, r_ofLimbs, r_mkWord, Option.some.injEq, LV.wide.injEq, LV.word.injEq, LV.int.injEq, LV.bool.injEq, LV.str.injEq, LV.big.injEq, LV.tup.injEq, LV.agg.injEq, List.cons.injEq, and_true, true_and]
    rw [leq_dec]
    exact decide_eq_decide.2 (by omega)
  · rw [c_geq_f] at h
    rw [decide_eq_false (by omega)]
    simp only [kR, canon, canons, ekEq, numE, getW, getWord, allInts8, asInt, isK, kindEq, isArgB, strOf, cBig, cInts, cWords, allInts, allWords, r_ofLimbs, r_mkWord, Option.some.injEq, LV.wide.injEq, LV.word.injEq, LV.int.injEq, LV.bool.injEq, LV.str.injEq, LV.big.injEq, LV.tup.injEq, LV.agg.injEq, List.cons.injEq, and_true, true_and]
theorem p_pdigits : SpecOk Tryz.prog globs 98 (mkSpec real [.int .i64, .int .i64, .st [.bool, .int .i64, .wide], .bool] (s_pdigits ropsV)) := by
  have hfns : FnsOk Tryz.prog globs [(99, .spec (mkSpec real [.wide] (s_wLen rops))), (101, .spec (mkSpec real [.int .i64, .int .i64, .st [.bool, .int .i64, .wide], .bool] (s_pat ropsT)))] := (fnsCons (fnSpec (p_wLen)) (fnsCons (fnSpec (p_pat)) fnsNil))
  refine spec0 hfns (by kernel_rfl) Tryz.func98 (by kernel_rfl) (by kernel_rfl) (by kernel_rfl) 4 _ _ (.tup [.wide, .int .i64, .bool]) ?_
  clear hfns
  generalize hEE : env0 [(99, .spec (mkSpec real [.wide] (s_wLen rops))), (101, .spec (mkSpec real [.int .i64, .int .i64, .st [.bool, .int .i64, .wide], .bool] (s_pat ropsT)))] = EE
  intro l r hl hr
  simp only [Forms, Form] at hl
  obtain ⟨_, _, rfl, ⟨x1, rfl, x1lo, x1hi⟩, _, _, rfl, ⟨x2, rfl, x2lo, x2hi⟩, _, _, rfl, ⟨_, rfl, ⟨_, _, rfl, ⟨x3_1, rfl⟩, _, _, rfl, ⟨x3_2, rfl, x3_2lo, x3_2hi⟩, _, _, rfl, ⟨x3_3, rfl⟩, rfl⟩⟩, _, _, rfl, ⟨x4, rfl⟩, rfl⟩ := hl
  subst hEE
  generalize hK : kR (.tup [.wide, .int .i64, .bool]) r = K
  generalize hO : real = O
  generalize hS0 : rops = S0
  generalize hS1 : ropsB = S1
  generalize hS2 : ropsC = S2
  generalize hS3 : ropsD = S3
  generalize hS4 : ropsE = S4
  generalize hS5 : ropsF = S5
  generalize hS6 : ropsG = S6
  generalize hS7 : ropsH = S7
  generalize hS8 : ropsI = S8
  generalize hS9 : ropsJ = S9
  generalize hS10 : ropsK = S10
  generalize hS11 : ropsL = S11
  generalize hS12 : ropsM = S12
  generalize hS13 : ropsN = S13
  generalize hS14 : ropsP = S14
  generalize hS15 : ropsQ = S15
  generalize hS16 : ropsT = S16
  generalize hS17 : ropsUm = S17
  generalize hS18 : ropsU = S18
  generalize hS19 : ropsV = S19
  set_option maxRecDepth 100000 in cbv
  subst hO hK hS0 hS1 hS2 hS3 hS4 hS5 hS6 hS7 hS8 hS9 hS10 hS11 hS12 hS13 hS14 hS15 hS16 hS17 hS18 hS19
  simp only [s_pdigits, R.Y] at hr
  try dsimp only [real, rops, ropsB, ropsC, ropsD, ropsE, ropsF, ropsG, ropsH, ropsI, ropsJ, ropsK, ropsL, ropsM, ropsN, ropsP, ropsQ, ropsT, ropsUm, ropsU, ropsV]
  obtain ⟨hp, he, hr⟩ := hr
  subst hr
  dsimp only [real, ropsV, ropsT, rops]
  replace hp : 0 ≤ x1 ∧ x1 ≤ 1000 := hp
  replace he : -1048576 ≤ x3_2 ∧ x3_2 ≤ 1048576 := he
  have hl := wLen_le x3_3
  have e0 : arithR .add .i64 x3_2 (wLen x3_3) = x3_2 + wLen x3_3 := add_i64 (by omega) (by omega)
  have e9 : arithR .sub .i64 (x3_2 + wLen x3_3) 1 = x3_2 + wLen x3_3 - 1 := sub_i64 (by omega) (by omega)
  have e8 : arithR .sub .i64 (x3_2 + wLen x3_3 - 1) x1 = x3_2 + wLen x3_3 - 1 - x1 := sub_i64 (by omega) (by omega)
  have e7 : arithR .add .i64 (x3_2 + wLen x3_3 - 1 - x1) 1 = dgPl x1 x3_2 x3_3 := by rw [add_i64 (by omega) (by omega)]; unfold dgPl; omega
  have e1 : arithR .add .i64 (arithR .sub .i64 (arithR .sub .i64 (arithR .add .i64 x3_2 (wLen x3_3)) 1) x1) 1 = dgPl x1 x3_2 x3_3 := by rw [e0, e9, e8, e7]
  have hpl : dgPl x1 x3_2 x3_3 = x3_2 + wLen x3_3 - x1 := rfl
  rw [e1, leq_dec]
  unfold dgW dgP dgX
  refine ⟨imp_f fun h => ?_, imp_t fun h => ⟨by omega, by omega, ?_⟩⟩
  · rw [decide_eq_true_eq] at h
    rw [if_pos h, if_pos h, if_pos h]
    simp only [kR, canon, canons, ekEq, numE, getW, getWord, allInts8, asInt, isK, kindEq, isArgB, strOf, cBig, cInts, cWords, allInts, allWords, r_ofLimbs, r_mkWord, Option.some.injEq, LV.wide.injEq, LV.word.injEq, LV.int.injEq, LV.bool.injEq, LV.str.injEq, LV.big.injEq, LV.tup.injEq, LV.agg.injEq, List.cons.injEq, and_true, true_and]
  · rw [decide_eq_false_iff_not] at h
    rw [if_neg h, if_neg h, if_neg h, if_neg (show ¬ (dgPl x1 x3_2 x3_3 - x3_2 ≤ 0) by omega), if_neg (show ¬ (dgPl x1 x3_2 x3_3 - x3_2 ≤ 0) by omega)]
    simp only [kR, canon, canons, ekEq, numE, getW, getWord, allInts8, asInt, isK, kindEq, isArgB, strOf, cBig, cInts, cWords, allInts, allWords, r_ofLimbs, r_mkWord, Option.some.injEq, LV.wide.injEq, LV.word.injEq, LV.int.injEq, LV.bool.injEq, LV.str.injEq, LV.big.injEq, LV.tup.injEq, LV.agg.injEq, List.cons.injEq, and_true, true_and]
theorem p_round : SpecOk Tryz.prog globs 51 (mkSpec real [.int .i64, .int .i64, .st [.bool, .int .i64, .wide], .bool] (s_round ropsT)) := by
  have hfns : FnsOk Tryz.prog globs [(79, .spec (mkSpec real [.int .i64] (s_fmtOf rops))), (87, .spec (mkSpec real [.int .i64] (s_mIs ropsT))), (97, .spec (mkSpec real [.int .i64, .st [.bool, .int .i64, .wide], .bool] (s_pright ropsT))), (81, .spec (mkSpec real [.int .i64, .bool] (s_noughtW rops))), (98, .spec (mkSpec real [.int .i64, .int .i64, .st [.bool, .int .i64, .wide], .bool] (s_pdigits ropsV))), (99, .spec (mkSpec real [.wide] (s_wLen rops))), (100, .spec (mkSpec real [.int .i64, .int .i64, .bool] (s_over ropsT))), (101, .spec (mkSpec real [.int .i64, .int .i64, .st [.bool, .int .i64, .wide], .bool] (s_pat ropsT))), (102, .spec (mkSpec real [.int .i64, .bool, .int .i64, .wide] (s_joined ropsT))), (103, inlF Tryz.f103), (83, .spec (mkSpec real [.wide, .int .i64] (s_shl rops))), (104, .spec (mkSpec real [.wide, .int .i64] (s_shr rops)))] := (fnsCons (fnSpec (p_fmtOf)) (fnsCons (fnSpec (p_mIs)) (fnsCons (fnSpec (p_pright)) (fnsCons (fnSpec (p_noughtW)) (fnsCons (fnSpec (p_pdigits)) (fnsCons (fnSpec (p_wLen)) (fnsCons (fnSpec (p_over)) (fnsCons (fnSpec (p_pat)) (fnsCons (fnSpec (p_joined)) (fnsCons (inl_ok Tryz.func103 (by kernel_rfl) (by kernel_rfl)) (fnsCons (fnSpec (p_shl)) (fnsCons (fnSpec (p_shr)) fnsNil))))))))))))
  refine spec0 hfns (by kernel_rfl) Tryz.func51 (by kernel_rfl) (by kernel_rfl) (by kernel_rfl) 4 _ _ (.tup [.word, .int .i64, .int .i64]) ?_
  clear hfns
  generalize hEE : env0 [(79, .spec (mkSpec real [.int .i64] (s_fmtOf rops))), (87, .spec (mkSpec real [.int .i64] (s_mIs ropsT))), (97, .spec (mkSpec real [.int .i64, .st [.bool, .int .i64, .wide], .bool] (s_pright ropsT))), (81, .spec (mkSpec real [.int .i64, .bool] (s_noughtW rops))), (98, .spec (mkSpec real [.int .i64, .int .i64, .st [.bool, .int .i64, .wide], .bool] (s_pdigits ropsV))), (99, .spec (mkSpec real [.wide] (s_wLen rops))), (100, .spec (mkSpec real [.int .i64, .int .i64, .bool] (s_over ropsT))), (101, .spec (mkSpec real [.int .i64, .int .i64, .st [.bool, .int .i64, .wide], .bool] (s_pat ropsT))), (102, .spec (mkSpec real [.int .i64, .bool, .int .i64, .wide] (s_joined ropsT))), (103, inlF Tryz.f103), (83, .spec (mkSpec real [.wide, .int .i64] (s_shl rops))), (104, .spec (mkSpec real [.wide, .int .i64] (s_shr rops)))] = EE
  intro l r hl hr
  simp only [Forms, Form] at hl
  obtain ⟨_, _, rfl, ⟨x1, rfl, x1lo, x1hi⟩, _, _, rfl, ⟨x2, rfl, x2lo, x2hi⟩, _, _, rfl, ⟨_, rfl, ⟨_, _, rfl, ⟨x3_1, rfl⟩, _, _, rfl, ⟨x3_2, rfl, x3_2lo, x3_2hi⟩, _, _, rfl, ⟨x3_3, rfl⟩, rfl⟩⟩, _, _, rfl, ⟨x4, rfl⟩, rfl⟩ := hl
  subst hEE
  generalize hK : kR (.tup [.word, .int .i64, .int .i64]) r = K
  generalize hO : real = O
  generalize hS0 : rops = S0
  generalize hS1 : ropsB = S1
  generalize hS2 : ropsC = S2
  generalize hS3 : ropsD = S3
  generalize hS4 : ropsE = S4
  generalize hS5 : ropsF = S5
  generalize hS6 : ropsG = S6
  generalize hS7 : ropsH = S7
  generalize hS8 : ropsI = S8
  generalize hS9 : ropsJ = S9
  generalize hS10 : ropsK = S10
  generalize hS11 : ropsL = S11
  generalize hS12 : ropsM = S12
  generalize hS13 : ropsN = S13
  generalize hS14 : ropsP = S14
  generalize hS15 : ropsQ = S15
  generalize hS16 : ropsT = S16
  generalize hS17 : ropsUm = S17
  generalize hS18 : ropsU = S18
  generalize hS19 : ropsV = S19
  set_option maxRecDepth 100000 in cbv
  subst hO hK hS0 hS1 hS2 hS3 hS4 hS5 hS6 hS7 hS8 hS9 hS10 hS11 hS12 hS13 hS14 hS15 hS16 hS17 hS18 hS19
  simp only [s_round, R.Y] at hr
  subst hr
  try dsimp only [real, rops, ropsB, ropsC, ropsD, ropsE, ropsF, ropsG, ropsH, ropsI, ropsJ, ropsK, ropsL, ropsM, ropsN, ropsP, ropsQ, ropsT, ropsUm, ropsU, ropsV]
  have leaf0 : rOk x1 x2 x3_2 x3_3 x4 = false → kR (AT.tup [AT.word, AT.int IntKind.i64, AT.int IntKind.i64]) (LV.tup [LV.word (rW x1 x2 x3_1 x3_2 x3_3 x4), LV.int IntKind.i64 (rX x1 x2 x3_1 x3_2 x3_3 x4), LV.int IntKind.i64 (rE x1 x2 x3_2 x3_3 x4)])
      (LV.tup [LV.agg [LV.lit IntKind.u64 0, LV.lit IntKind.u64 0], LV.lit IntKind.i64 0, LV.lit IntKind.i64 1]) := fun h => by
    unfold rW rX rE
    rw [h]
    simp only [kR, canon, canons, ekEq, numE, getW, getWord, allInts8, asInt, isK, kindEq, isArgB, strOf, cBig, cInts, cWords, allInts, allWords, r_ofLimbs, r_mkWord, Option.some.injEq, LV.wide.injEq, LV.word.injEq, LV.int.injEq, LV.bool.injEq, LV.str.injEq, LV.big.injEq, LV.tup.injEq, LV.agg.injEq, List.cons.injEq, and_true, true_and]
    exact ⟨mkWord_0, rfl, rfl⟩
  cases hk : fOk x1 with
  | false =>
    refine ⟨imp_f fun _ => leaf0 (by unfold rOk; rw [hk]; rfl), imp_t fun h => by simp at h⟩
  | true =>
    dsimp only
    refine ⟨imp_f fun h => by simp at h, imp_t fun _ => ?_⟩
    cases hm : isM x2 with
    | false => refine ⟨imp_f fun _ => leaf0 (by unfold rOk; rw [hk, hm]; rfl), imp_t fun h => by simp at h⟩
    | true =>
      refine ⟨imp_f fun h => by simp at h, imp_t fun _ => ?_⟩
      cases hr9 : rightN (fPrec x1) x3_2 x3_3 x4 with
      | false => refine ⟨imp_f fun _ => leaf0 (by unfold rOk; rw [hk, hm, hr9]; rfl), imp_t fun h => by simp at h⟩
      | true =>
        have ho : rOk x1 x2 x3_2 x3_3 x4 = true := by unfold rOk; rw [hk, hm, hr9]; rfl
        obtain ⟨hf, _, _⟩ := ro_parts ho
        obtain ⟨_, q2, q3, _⟩ := right_parts hr9
        have hp := p_rng x1 hf
        have hE := e_rng x1 hf
        refine ⟨imp_f fun h => by simp at h, imp_t fun _ => ?_⟩
        unfold rW rX rE
        rw [ho, cond_true, cond_true, cond_true, ofLimbs_0]
        refine ⟨imp_f fun hz => ?_, imp_t fun hz => ?_⟩
        · rw [decide_eq_true_eq] at hz
          rw [if_pos hz, if_pos hz]
          simp only [kR, canon, canons, ekEq, numE, getW, getWord, allInts8, asInt, isK, kindEq, isArgB, strOf, cBig, cInts, cWords, allInts, allWords, r_ofLimbs, r_mkWord, Option.some.injEq, LV.wide.injEq, LV.word.injEq, LV.int.injEq, LV.bool.injEq, LV.str.injEq, LV.big.injEq, LV.tup.injEq, LV.agg.injEq, List.cons.injEq, and_true, true_and]
        · rw [decide_eq_false_iff_not] at hz
          rw [if_neg hz, if_neg hz]
          obtain ⟨k1, k2, k3, k4, k5, k6, k7⟩ := pk_facts ho hz x3_1
          have hl := wLen_le (dgW (fPrec x1) x2 x3_1 x3_2 x3_3 x4)
          have e0 : arithR .add .i64 (dgP (fPrec x1) x3_2 x3_3) (wLen (dgW (fPrec x1) x2 x3_1 x3_2 x3_3 x4)) = dgP (fPrec x1) x3_2 x3_3 + wLen (dgW (fPrec x1) x2 x3_1 x3_2 x3_3 x4) := add_i64 (by omega) (by omega)
          have e1 : arithR .sub .i64 (dgP (fPrec x1) x3_2 x3_3 + wLen (dgW (fPrec x1) x2 x3_1 x3_2 x3_3 x4)) 1 = rdT x1 x2 x3_1 (moreA x3_3.toNat x4) (moreG x3_2 x4) := by rw [sub_i64 (by omega) (by omega)]; exact k1
          rw [e0, e1, k4]
          have hexp : expO x1 = 2 - fEMax x1 - fPrec x1 := rfl
          have e2 : arithR .sub .i64 (1 - fEMax x1) (fPrec x1) = 1 - fEMax x1 - fPrec x1 := sub_i64 (by omega) (by omega)
          have e3 : arithR .add .i64 (1 - fEMax x1 - fPrec x1) 1 = expO x1 := by rw [add_i64 (by omega) (by omega)]; omega
          rw [e2, e3]
          have hT : ∀ T : Int, T = rdT x1 x2 x3_1 (moreA x3_3.toNat x4) (moreG x3_2 x4) → arithR .sub .i64 (dgP (fPrec x1) x3_2 x3_3) (arithR .add .i64 (arithR .sub .i64 T (fPrec x1)) 1) = dgP (fPrec x1) x3_2 x3_3 - (T - fPrec x1 + 1) ∧ arithR .sub .i64 T (1 - fEMax x1) = T - (1 - fEMax x1) := fun T hT => by
            have a1 : arithR .sub .i64 T (fPrec x1) = T - fPrec x1 := sub_i64 (by omega) (by omega)
            have a2 : arithR .add .i64 (T - fPrec x1) 1 = T - fPrec x1 + 1 := add_i64 (by omega) (by omega)
            rw [a1, a2]
            exact ⟨sub_i64 (by omega) (by omega), sub_i64 (by omega) (by omega)⟩
          obtain ⟨f1, f2⟩ := hT _ rfl
          rw [f1, f2, neg_i64 (by omega)]
          have hXd : rdX x1 x2 x3_1 (moreA x3_3.toNat x4) (moreG x3_2 x4) = if fEMax x1 < rdT x1 x2 x3_1 (moreA x3_3.toNat x4) (moreG x3_2 x4) then 20 else if rdT x1 x2 x3_1 (moreA x3_3.toNat x4) (moreG x3_2 x4) < 1 - fEMax x1 then (if restQ (moreA x3_3.toNat x4) (moreG x3_2 x4) (expO x1) = 0 then 0 else 24) else if restQ (moreA x3_3.toNat x4) (moreG x3_2 x4) (topQ (moreA x3_3.toNat x4) (moreG x3_2 x4) - fPrec x1 + 1) = 0 then 0 else 16 := rfl
          rw [hXd, gtr_dec, lss_dec]
          refine ⟨by omega, q2, imp_f fun g => ?_, imp_t fun g => ⟨imp_f fun g2 => ?_, imp_t fun g2 => ?_⟩⟩
          · rw [decide_eq_true_eq] at g
            refine ⟨hf, ?_⟩
            rw [if_pos g]
            have := k5 g
            simp only [kR, canon, canons, ekEq, numE, getW, getWord, allInts8, asInt, isK, kindEq, isArgB, strOf, cBig, cInts, cWords, allInts, allWords, r_ofLimbs, r_mkWord, Option.some.injEq, LV.wide.injEq, LV.word.injEq, LV.int.injEq, LV.bool.injEq, LV.str.injEq, LV.big.injEq, LV.tup.injEq, LV.agg.injEq, List.cons.injEq, and_true, true_and]
            exact this
          · rw [decide_eq_false_iff_not] at g
            rw [decide_eq_true_eq] at g2
            obtain ⟨j1, j2, j3⟩ := k6 g2
            rw [if_neg g, if_pos g2]
            refine ⟨by omega, by omega, j1, ?_⟩
            have ea : (if expO x1 - x3_2 ≤ 0 then x4 else cutX x3_3 (expO x1 - x3_2) x4 x2) = atX (expO x1) x2 x3_2 x3_3 x4 := rfl
            have ew : (if expO x1 - x3_2 ≤ 0 then wShl x3_3 (x3_2 - expO x1) else cutW x3_3 (expO x1 - x3_2) x4 x2 x3_1) = atW (expO x1) x2 x3_1 x3_2 x3_3 x4 := rfl
            rw [ea, ew, j3, j2]
            refine ⟨imp_f fun h => ?_, imp_t fun h => ?_⟩
            · rw [Bool.not_eq_true', decide_eq_false_iff_not] at h
              rw [if_neg h]
              simp only [kR, canon, canons, ekEq, numE, getW, getWord, allInts8, asInt, isK, kindEq, isArgB, strOf, cBig, cInts, cWords, allInts, allWords, r_ofLimbs, r_mkWord, Option.some.injEq, LV.wide.injEq, LV.word.injEq, LV.int.injEq, LV.bool.injEq, LV.str.injEq, LV.big.injEq, LV.tup.injEq, LV.agg.injEq, List.cons.injEq, and_true, true_and]
            · rw [Bool.not_eq_false', decide_eq_true_eq] at h
              rw [if_pos h]
              simp only [kR, canon, canons, ekEq, numE, getW, getWord, allInts8, asInt, isK, kindEq, isArgB, strOf, cBig, cInts, cWords, allInts, allWords, r_ofLimbs, r_mkWord, Option.some.injEq, LV.wide.injEq, LV.word.injEq, LV.int.injEq, LV.bool.injEq, LV.str.injEq, LV.big.injEq, LV.tup.injEq, LV.agg.injEq, List.cons.injEq, and_true, true_and]
          · rw [decide_eq_false_iff_not] at g g2
            obtain ⟨j1, j2⟩ := k7 (by omega) (by omega) _ rfl
            rw [if_neg g, if_neg g2]
            refine ⟨j1, ?_⟩
            rw [j2]
            refine ⟨imp_f fun h => ?_, imp_t fun h => ?_⟩
            · rw [Bool.not_eq_true', decide_eq_false_iff_not] at h
              rw [if_neg h]
              simp only [kR, canon, canons, ekEq, numE, getW, getWord, allInts8, asInt, isK, kindEq, isArgB, strOf, cBig, cInts, cWords, allInts, allWords, r_ofLimbs, r_mkWord, Option.some.injEq, LV.wide.injEq, LV.word.injEq, LV.int.injEq, LV.bool.injEq, LV.str.injEq, LV.big.injEq, LV.tup.injEq, LV.agg.injEq, List.cons.injEq, and_true, true_and]
            · rw [Bool.not_eq_false', decide_eq_true_eq] at h
              rw [if_pos h]
              simp only [kR, canon, canons, ekEq, numE, getW, getWord, allInts8, asInt, isK, kindEq, isArgB, strOf, cBig, cInts, cWords, allInts, allWords, r_ofLimbs, r_mkWord, Option.some.injEq, LV.wide.injEq, LV.word.injEq, LV.int.injEq, LV.bool.injEq, LV.str.injEq, LV.big.injEq, LV.tup.injEq, LV.agg.injEq, List.cons.injEq, and_true, true_and]
def wideT : Ty := .arr 8 (.int .u64)
theorem same_d0 {b : Bool} {e : Int} {s : W} {x : Bool} {v : Int} (h : v = 0) : Same (.tup [.agg [.bool b, .int .i64 e, .wide s], .bool x, .int .i64 v]) (.tup [.agg [.bool b, .int .i64 e, .wide s], .bool x, .lit .i64 0]) := by
  subst h
  intro ρ w v h
  simpa only [VV, VVs] using h
theorem same_dz {b : Bool} : Same (.tup [.agg [.bool b, .int .i64 0, .wide 0], .bool false, .int .i64 0]) (.tup [.agg [.bool b, .lit .i64 0, .wide 0], .blit false, .lit .i64 0]) := by
  intro ρ w v h
  simpa only [VV, VVs, VC, VCs] using h
theorem same_dn : Same (.tup [.agg [.bool false, .int .i64 0, .wide 0], .bool false, .int .i64 1]) (.tup [.agg [.blit false, .lit .i64 0, .wide 0], .blit false, .lit .i64 1]) := by
  intro ρ w v h
  simpa only [VV, VVs, VC, VCs] using h
theorem p_mIs08Y : SpecOk Tryz.prog globs 21 (mkSpec real [.int .i64] (s_mIs08Y ropsV)) := by
  refine spec_as p_mIs08 ?_
  intro l r h
  unfold s_mIs08Y at h
  split at h
  · rename_i k m
    obtain ⟨h1, rfl⟩ := h
    have h1 : isM m = true := h1
    refine ⟨_, rfl, ?_⟩
    show Same (.bool (isM m)) _
    rw [h1]
    exact same_blit _
  · exact h.elim
theorem p_mIs08N : SpecOk Tryz.prog globs 21 (mkSpec real [.int .i64] (s_mIs08N ropsV)) := by
  refine spec_as p_mIs08 ?_
  intro l r h
  unfold s_mIs08N at h
  split at h
  · rename_i k m
    obtain ⟨h1, rfl⟩ := h
    have h1 : isM m = false := h1
    refine ⟨_, rfl, ?_⟩
    show Same (.bool (isM m)) _
    rw [h1]
    exact same_blit _
  · exact h.elim
theorem p_prightY : SpecOk Tryz.prog globs 97 (mkSpec real [.int .i64, .st [.bool, .int .i64, .wide], .bool] (s_prightY ropsV)) := by
  refine spec_as p_pright ?_
  intro l r h
  unfold s_prightY at h
  split at h
  · rename_i k p b k2 e s more
    obtain ⟨h1, rfl⟩ := h
    have h1 : rightN p e s more = true := h1
    refine ⟨_, rfl, ?_⟩
    show Same (.bool (rightN p e s more)) _
    rw [h1]
    exact same_blit _
  · exact h.elim
theorem p_prightN : SpecOk Tryz.prog globs 97 (mkSpec real [.int .i64, .st [.bool, .int .i64, .wide], .bool] (s_prightN ropsV)) := by
  refine spec_as p_pright ?_
  intro l r h
  unfold s_prightN at h
  split at h
  · rename_i k p b k2 e s more
    obtain ⟨h1, rfl⟩ := h
    have h1 : rightN p e s more = false := h1
    refine ⟨_, rfl, ?_⟩
    show Same (.bool (rightN p e s more)) _
    rw [h1]
    exact same_blit _
  · exact h.elim
end Go.LE