import Derived.Test.YtcmicmbpcgminaaGreatDoorW14
import Derived.Test.YtcmicmbpcgminaaGreatDoorLeP
set_option linter.unusedVariables false
set_option linter.unusedSimpArgs false
namespace Go.LE
open Go Go.Proofs
structure OpsL where
  fin : Int → BitVec 128 → Prop
  nof : Int → BitVec 128 → Prop
  vNeg : Int → BitVec 128 → Bool
  vExp : Int → BitVec 128 → Int
  vSig : Int → BitVec 128 → W
  vOk : Int → BitVec 128 → Bool
  uExp : Int → BitVec 128 → Int
  uSig : Int → BitVec 128 → W
  uOk : Int → BitVec 128 → Bool
  uNeg : Int → BitVec 128 → Bool
  sNeg : Bool → Int → W → Bool
  sExp : Int → W → Int
  sSig : Int → W → W
  top : Int → W → Int
  topOk : Int → W → Bool
  size : Nat → Int → Nat → Int → Int
  okN : Nat → Int → Prop
  pNeg : Bool → W → Bool
  pExp : Int → Int → W → Int
  pSig : Int → W → W
  pOk : W → Bool
noncomputable def ropsL : OpsL where
  fin := fun f w => wFin f w = true
  nof := fun f w => wFin f w = false
  vNeg := vNeg
  vExp := vExp
  vSig := vSig
  vOk := wFin
  uExp := uExp
  uSig := uSig
  uOk := uOk
  uNeg := uNeg
  sNeg := shNeg
  sExp := shExp
  sSig := shSig
  top := topE
  topOk := topOk
  size := sizeN
  okN := okN
  pNeg := upNeg
  pExp := upExp
  pSig := upSig
  pOk := upOk
def s_valueP (_ : OpsL) : List LV → R LV
  | [_, .agg [.bool b, .int _ e, .wide s]] => .ok (.tup [.agg [.bool b, .int .i64 e, .wide s], .bool true])
  | _ => .fail
def s_unpackP (S : OpsL) : List LV → R LV
  | [.agg [_, .int _ p, _, _, _], .agg [.bool b, .int _ e, .wide s]] => .ok (.tup [.agg [.bool (S.pNeg b s), .int .i64 (S.pExp p e s), .wide (S.pSig p s)], .bool (S.pOk s)])
  | _ => .fail
def s_value (S : OpsL) : List LV → R LV
  | [.int _ f, .word w] => .ok (.tup [.agg [.bool (S.vNeg f w), .int .i64 (S.vExp f w), .wide (S.vSig f w)], .bool (S.vOk f w)])
  | _ => .fail
def s_unpack (S : OpsL) : List LV → R LV
  | [.int _ f, .word w] => .ok (.tup [.agg [.bool (S.uNeg f w), .int .i64 (S.uExp f w), .wide (S.uSig f w)], .bool (S.uOk f w)])
  | _ => .fail
def s_short (S : OpsL) : List LV → R LV
  | [.agg [.bool b, .int _ e, .wide s]] => .ok (.agg [.bool (S.sNeg b e s), .int .i64 (S.sExp e s), .wide (S.sSig e s)])
  | _ => .fail
def s_top (S : OpsL) : List LV → R LV
  | [.agg [.bool _, .int _ e, .wide s]] => .ok (.tup [.int .i64 (S.top e s), .bool (S.topOk e s)])
  | _ => .fail
def s_of07 (S : OpsK) : List LV → R LV
  | [.agg [.bool b, .int _ e, .wide s]] => .ok (.agg [.bool b, .big (S.wn s), .int .i64 e])
  | _ => .fail
def s_size07 (S : OpsL) : List LV → R LV
  | [.agg [.bool _, .big a, .int _ e], .agg [.bool _, .big b, .int _ g]] => .req (S.okN a e) (.req (S.okN b g) (.ok (.int .i64 (S.size a e b g))))
  | _ => .fail
def s_awake07 (_ : OpsL) : List LV → R LV := fun _ => .ok (.bool true)
def s_UnpackShort (_ : OpsL) : List LV → R LV := fun _ => .ok (.bool true)
theorem p_valueP : SpecOk Tryz.prog globs 78 (mkSpec real [.st [.int .i64, .int .i64, .int .i64, .int .i64, .int .i64], .st [.bool, .int .i64, .wide]] (s_valueP ropsL)) := by
  have hfns : FnsOk Tryz.prog globs [] := fnsNil
  refine spec0 hfns (by kernel_rfl) Tryz.func78 (by kernel_rfl) (by kernel_rfl) (by kernel_rfl) 4 _ _ (.tup [.st [.bool, .int .i64, .wide], .bool]) ?_
  clear hfns
  generalize hEE : env0 [] = EE
  intro l r hl hr
  simp only [Forms, Form] at hl
  obtain ⟨_, _, rfl, ⟨_, rfl, ⟨_, _, rfl, ⟨x1_1, rfl, x1_1lo, x1_1hi⟩, _, _, rfl, ⟨x1_2, rfl, x1_2lo, x1_2hi⟩, _, _, rfl, ⟨x1_3, rfl, x1_3lo, x1_3hi⟩, _, _, rfl, ⟨x1_4, rfl, x1_4lo, x1_4hi⟩, _, _, rfl, ⟨x1_5, rfl, x1_5lo, x1_5hi⟩, rfl⟩⟩, _, _, rfl, ⟨_, rfl, ⟨_, _, rfl, ⟨x2_1, rfl⟩, _, _, rfl, ⟨x2_2, rfl, x2_2lo, x2_2hi⟩, _, _, rfl, ⟨x2_3, rfl⟩, rfl⟩⟩, rfl⟩ := hl
  subst hEE
  generalize hK : kR (.tup [.st [.bool, .int .i64, .wide], .bool]) r = K
  generalize hO : real = O
  set_option maxRecDepth 100000 in cbv
  subst hO hK 
  simp only [s_valueP, R.Y] at hr
  subst hr
  try dsimp only [real, rops, ropsB, ropsC, ropsD, ropsE, ropsF, ropsG, ropsH, ropsI, ropsJ, ropsK, ropsL]
  simp only [kR, canon, canons, ekEq, numE, getW, getWord, allInts8, asInt, isK, kindEq, isArgB, strOf, cBig, cInts, cWords, allInts, allWords, r_ofLimbs, r_mkWord, Option.some.injEq, LV.wide.injEq, LV.word.injEq, LV.int.injEq, LV.bool.injEq, LV.str.injEq, LV.big.injEq, LV.tup.injEq, LV.agg.injEq, List.cons.injEq, and_true, true_and]
theorem p_unpackP : SpecOk Tryz.prog globs 163 (mkSpec real [.st [.int .i64, .int .i64, .int .i64, .int .i64, .int .i64], .st [.bool, .int .i64, .wide]] (s_unpackP ropsL)) := by
  have hfns : FnsOk Tryz.prog globs [(99, .spec (mkSpec real [.wide] (s_wLen rops))), (83, .spec (mkSpec real [.wide, .int .i64] (s_shl rops)))] := (fnsCons (fnSpec (p_wLen)) (fnsCons (fnSpec (p_shl)) fnsNil))
  refine spec0 hfns (by kernel_rfl) Tryz.func163 (by kernel_rfl) (by kernel_rfl) (by kernel_rfl) 4 _ _ (.tup [.st [.bool, .int .i64, .wide], .bool]) ?_
  clear hfns
  generalize hEE : env0 [(99, .spec (mkSpec real [.wide] (s_wLen rops))), (83, .spec (mkSpec real [.wide, .int .i64] (s_shl rops)))] = EE
  intro l r hl hr
  simp only [Forms, Form] at hl
  obtain ⟨_, _, rfl, ⟨_, rfl, ⟨_, _, rfl, ⟨x1_1, rfl, x1_1lo, x1_1hi⟩, _, _, rfl, ⟨x1_2, rfl, x1_2lo, x1_2hi⟩, _, _, rfl, ⟨x1_3, rfl, x1_3lo, x1_3hi⟩, _, _, rfl, ⟨x1_4, rfl, x1_4lo, x1_4hi⟩, _, _, rfl, ⟨x1_5, rfl, x1_5lo, x1_5hi⟩, rfl⟩⟩, _, _, rfl, ⟨_, rfl, ⟨_, _, rfl, ⟨x2_1, rfl⟩, _, _, rfl, ⟨x2_2, rfl, x2_2lo, x2_2hi⟩, _, _, rfl, ⟨x2_3, rfl⟩, rfl⟩⟩, rfl⟩ := hl
  subst hEE
  generalize hK : kR (.tup [.st [.bool, .int .i64, .wide], .bool]) r = K
  generalize hO : real = O
  generalize hS0 : rops = S0
  generalize hS1 : ropsB = S1
  generalize hS2 : ropsC = S2
  generalize hS3 : ropsD = S3
  generalize hS4 : ropsE = S4
  generalize hS5 : ropsF = S5
  generalize hS6 : ropsG = S6
  generalize hS7 : ropsH = S7
  generalize hS8 : ropsI = S8
  generalize hS9 : ropsJ = S9
  generalize hS10 : ropsK = S10
  generalize hS11 : ropsL = S11
  set_option maxRecDepth 100000 in cbv
  subst hO hK hS0 hS1 hS2 hS3 hS4 hS5 hS6 hS7 hS8 hS9 hS10 hS11
  simp only [s_unpackP, R.Y] at hr
  subst hr
  try dsimp only [real, rops, ropsB, ropsC, ropsD, ropsE, ropsF, ropsG, ropsH, ropsI, ropsJ, ropsK, ropsL]
  have e0 : ofLimbsR 0 0 0 0 0 0 0 0 = 0 := ofLimbs_0
  rw [e0]
  refine ⟨imp_f fun h => ?_, imp_t fun h => ?_⟩
  · have h : upOk x2_3 = false := by unfold upOk; rw [h]; rfl
    simp only [kR, canon, canons, ekEq, numE, getW, getWord, allInts8, asInt, isK, kindEq, isArgB, strOf, cBig, cInts, cWords, allInts, allWords, r_ofLimbs, r_mkWord, Option.some.injEq, LV.wide.injEq, LV.word.injEq, LV.int.injEq, LV.bool.injEq, LV.str.injEq, LV.big.injEq, LV.tup.injEq, LV.agg.injEq, List.cons.injEq, and_true, true_and]
    unfold upNeg upExp upSig
    simp [h, e0]
  · have h : upOk x2_3 = true := by unfold upOk; rw [h]; rfl
    simp only [kR, canon, canons, ekEq, numE, getW, getWord, allInts8, asInt, isK, kindEq, isArgB, strOf, cBig, cInts, cWords, allInts, allWords, r_ofLimbs, r_mkWord, Option.some.injEq, LV.wide.injEq, LV.word.injEq, LV.int.injEq, LV.bool.injEq, LV.str.injEq, LV.big.injEq, LV.tup.injEq, LV.agg.injEq, List.cons.injEq, and_true, true_and]
    unfold upNeg upExp upSig
    simp [h]
theorem p_value : SpecOk Tryz.prog globs 44 (mkSpec real [.int .i64, .word] (s_value ropsL)) := by
  have hfns : FnsOk Tryz.prog globs [(77, inlF Tryz.f77), (52, .spec (mkSpec real [.int .i64, .word] (s_cFinite ropsE))), (79, .spec (mkSpec real [.int .i64] (s_fmtOf rops))), (122, .spec (mkSpec real [.int .i64, .word] (s_cField ropsC))), (123, .spec (mkSpec real [.int .i64, .word] (s_cFrac ropsC))), (124, .spec (mkSpec real [.wide, .wide] (s_wAdd rops))), (86, .spec (mkSpec real [.int .i64] (s_power rops))), (94, .spec (mkSpec real [.int .i64, .word] (s_cNeg ropsC))), (78, .spec (mkSpec real [.st [.int .i64, .int .i64, .int .i64, .int .i64, .int .i64], .st [.bool, .int .i64, .wide]] (s_valueP ropsL)))] := (fnsCons (inl_ok Tryz.func77 (by kernel_rfl) (by kernel_rfl)) (fnsCons (fnSpec (p_cFinite)) (fnsCons (fnSpec (p_fmtOf)) (fnsCons (fnSpec (p_cField)) (fnsCons (fnSpec (p_cFrac)) (fnsCons (fnSpec (p_wAdd)) (fnsCons (fnSpec (p_power)) (fnsCons (fnSpec (p_cNeg)) (fnsCons (fnSpec (p_valueP)) fnsNil)))))))))
  refine spec0 hfns (by kernel_rfl) Tryz.func44 (by kernel_rfl) (by kernel_rfl) (by kernel_rfl) 6 _ _ (.tup [.st [.bool, .int .i64, .wide], .bool]) ?_
  clear hfns
  generalize hEE : env0 [(77, inlF Tryz.f77), (52, .spec (mkSpec real [.int .i64, .word] (s_cFinite ropsE))), (79, .spec (mkSpec real [.int .i64] (s_fmtOf rops))), (122, .spec (mkSpec real [.int .i64, .word] (s_cField ropsC))), (123, .spec (mkSpec real [.int .i64, .word] (s_cFrac ropsC))), (124, .spec (mkSpec real [.wide, .wide] (s_wAdd rops))), (86, .spec (mkSpec real [.int .i64] (s_power rops))), (94, .spec (mkSpec real [.int .i64, .word] (s_cNeg ropsC))), (78, .spec (mkSpec real [.st [.int .i64, .int .i64, .int .i64, .int .i64, .int .i64], .st [.bool, .int .i64, .wide]] (s_valueP ropsL)))] = EE
  intro l r hl hr
  simp only [Forms, Form] at hl
  obtain ⟨_, _, rfl, ⟨x1, rfl, x1lo, x1hi⟩, _, _, rfl, ⟨x2, rfl⟩, rfl⟩ := hl
  subst hEE
  generalize hK : kR (.tup [.st [.bool, .int .i64, .wide], .bool]) r = K
  generalize hO : real = O
  generalize hS0 : rops = S0
  generalize hS1 : ropsB = S1
  generalize hS2 : ropsC = S2
  generalize hS3 : ropsD = S3
  generalize hS4 : ropsE = S4
  generalize hS5 : ropsF = S5
  generalize hS6 : ropsG = S6
  generalize hS7 : ropsH = S7
  generalize hS8 : ropsI = S8
  generalize hS9 : ropsJ = S9
  generalize hS10 : ropsK = S10
  generalize hS11 : ropsL = S11
  set_option maxRecDepth 100000 in cbv
  subst hO hK hS0 hS1 hS2 hS3 hS4 hS5 hS6 hS7 hS8 hS9 hS10 hS11
  simp only [s_value, R.Y] at hr
  subst hr
  try dsimp only [real, rops, ropsB, ropsC, ropsD, ropsE, ropsF, ropsG, ropsH, ropsI, ropsJ, ropsK, ropsL]
  cases h : wFin x1 x2 with
  | false =>
    obtain ⟨e1, e2, e3⟩ := v_no h
    refine ⟨.inr ?_, .inl rfl⟩
    rw [e1, e2, e3]
    simp only [kR, canon, canons, ekEq, numE, getW, getWord, allInts8, asInt, isK, kindEq, isArgB, strOf, cBig, cInts, cWords, allInts, allWords, r_ofLimbs, r_mkWord, Option.some.injEq, LV.wide.injEq, LV.word.injEq, LV.int.injEq, LV.bool.injEq, LV.str.injEq, LV.big.injEq, LV.tup.injEq, LV.agg.injEq, List.cons.injEq, and_true, true_and]
    exact ofLimbs_0
  | true =>
    obtain ⟨e1, e2, e3⟩ := fin_parts h
    obtain ⟨g1, g2⟩ := val_exp h
    have en : vNeg x1 x2 = wNeg x1 x2 := by unfold vNeg; rw [h]; rfl
    obtain ⟨_, hf⟩ := fin_fits h
    simp only [e1, e2, e3, en, (sub_prec hf).1]
    refine ⟨.inl rfl, .inr ⟨imp_f fun g => ?_, imp_t fun g => ?_⟩⟩
    · rw [c_gtr_t] at g
      rw [(g1 g).1, (g1 g).2]
      simp only [kR, canon, canons, ekEq, numE, getW, getWord, allInts8, asInt, isK, kindEq, isArgB, strOf, cBig, cInts, cWords, allInts, allWords, r_ofLimbs, r_mkWord, Option.some.injEq, LV.wide.injEq, LV.word.injEq, LV.int.injEq, LV.bool.injEq, LV.str.injEq, LV.big.injEq, LV.tup.injEq, LV.agg.injEq, List.cons.injEq, and_true, true_and]
    · rw [c_gtr_f] at g
      rw [(g2 g).1, (g2 g).2]
      simp only [kR, canon, canons, ekEq, numE, getW, getWord, allInts8, asInt, isK, kindEq, isArgB, strOf, cBig, cInts, cWords, allInts, allWords, r_ofLimbs, r_mkWord, Option.some.injEq, LV.wide.injEq, LV.word.injEq, LV.int.injEq, LV.bool.injEq, LV.str.injEq, LV.big.injEq, LV.tup.injEq, LV.agg.injEq, List.cons.injEq, and_true, true_and]
theorem p_unpack : SpecOk Tryz.prog globs 117 (mkSpec real [.int .i64, .word] (s_unpack ropsL)) := by
  have hfns : FnsOk Tryz.prog globs [(77, inlF Tryz.f77), (52, .spec (mkSpec real [.int .i64, .word] (s_cFinite ropsE))), (79, .spec (mkSpec real [.int .i64] (s_fmtOf rops))), (122, .spec (mkSpec real [.int .i64, .word] (s_cField ropsC))), (123, .spec (mkSpec real [.int .i64, .word] (s_cFrac ropsC))), (124, .spec (mkSpec real [.wide, .wide] (s_wAdd rops))), (86, .spec (mkSpec real [.int .i64] (s_power rops))), (94, .spec (mkSpec real [.int .i64, .word] (s_cNeg ropsC))), (163, .spec (mkSpec real [.st [.int .i64, .int .i64, .int .i64, .int .i64, .int .i64], .st [.bool, .int .i64, .wide]] (s_unpackP ropsL)))] := (fnsCons (inl_ok Tryz.func77 (by kernel_rfl) (by kernel_rfl)) (fnsCons (fnSpec (p_cFinite)) (fnsCons (fnSpec (p_fmtOf)) (fnsCons (fnSpec (p_cField)) (fnsCons (fnSpec (p_cFrac)) (fnsCons (fnSpec (p_wAdd)) (fnsCons (fnSpec (p_power)) (fnsCons (fnSpec (p_cNeg)) (fnsCons (fnSpec (p_unpackP)) fnsNil)))))))))
  refine spec0 hfns (by kernel_rfl) Tryz.func117 (by kernel_rfl) (by kernel_rfl) (by kernel_rfl) 6 _ _ (.tup [.st [.bool, .int .i64, .wide], .bool]) ?_
  clear hfns
  generalize hEE : env0 [(77, inlF Tryz.f77), (52, .spec (mkSpec real [.int .i64, .word] (s_cFinite ropsE))), (79, .spec (mkSpec real [.int .i64] (s_fmtOf rops))), (122, .spec (mkSpec real [.int .i64, .word] (s_cField ropsC))), (123, .spec (mkSpec real [.int .i64, .word] (s_cFrac ropsC))), (124, .spec (mkSpec real [.wide, .wide] (s_wAdd rops))), (86, .spec (mkSpec real [.int .i64] (s_power rops))), (94, .spec (mkSpec real [.int .i64, .word] (s_cNeg ropsC))), (163, .spec (mkSpec real [.st [.int .i64, .int .i64, .int .i64, .int .i64, .int .i64], .st [.bool, .int .i64, .wide]] (s_unpackP ropsL)))] = EE
  intro l r hl hr
  simp only [Forms, Form] at hl
  obtain ⟨_, _, rfl, ⟨x1, rfl, x1lo, x1hi⟩, _, _, rfl, ⟨x2, rfl⟩, rfl⟩ := hl
  subst hEE
  generalize hK : kR (.tup [.st [.bool, .int .i64, .wide], .bool]) r = K
  generalize hO : real = O
  generalize hS0 : rops = S0
  generalize hS1 : ropsB = S1
  generalize hS2 : ropsC = S2
  generalize hS3 : ropsD = S3
  generalize hS4 : ropsE = S4
  generalize hS5 : ropsF = S5
  generalize hS6 : ropsG = S6
  generalize hS7 : ropsH = S7
  generalize hS8 : ropsI = S8
  generalize hS9 : ropsJ = S9
  generalize hS10 : ropsK = S10
  generalize hS11 : ropsL = S11
  set_option maxRecDepth 100000 in cbv
  subst hO hK hS0 hS1 hS2 hS3 hS4 hS5 hS6 hS7 hS8 hS9 hS10 hS11
  simp only [s_unpack, R.Y] at hr
  subst hr
  try dsimp only [real, rops, ropsB, ropsC, ropsD, ropsE, ropsF, ropsG, ropsH, ropsI, ropsJ, ropsK, ropsL]
  cases h : wFin x1 x2 with
  | false =>
    obtain ⟨e0, e1, e2, e3⟩ := u_no h
    refine ⟨.inr ?_, .inl rfl⟩
    rw [e0, e1, e2, e3]
    simp only [kR, canon, canons, ekEq, numE, getW, getWord, allInts8, asInt, isK, kindEq, isArgB, strOf, cBig, cInts, cWords, allInts, allWords, r_ofLimbs, r_mkWord, Option.some.injEq, LV.wide.injEq, LV.word.injEq, LV.int.injEq, LV.bool.injEq, LV.str.injEq, LV.big.injEq, LV.tup.injEq, LV.agg.injEq, List.cons.injEq, and_true, true_and]
    exact ofLimbs_0
  | true =>
    obtain ⟨e1, e2, e3⟩ := fin_parts h
    obtain ⟨g1, g2⟩ := val_exp h
    obtain ⟨p1, p2, p3, p4⟩ := up_exp h true
    obtain ⟨_, hf⟩ := fin_fits h
    simp only [e1, e2, e3, (sub_prec hf).1]
    refine ⟨.inl rfl, .inr ⟨imp_f fun g => ?_, imp_t fun g => ?_⟩⟩
    · rw [c_gtr_t] at g
      rw [(g1 g).1, (g1 g).2, p1, p2, p3, p4]
      simp only [kR, canon, canons, ekEq, numE, getW, getWord, allInts8, asInt, isK, kindEq, isArgB, strOf, cBig, cInts, cWords, allInts, allWords, r_ofLimbs, r_mkWord, Option.some.injEq, LV.wide.injEq, LV.word.injEq, LV.int.injEq, LV.bool.injEq, LV.str.injEq, LV.big.injEq, LV.tup.injEq, LV.agg.injEq, List.cons.injEq, and_true, true_and]
    · rw [c_gtr_f] at g
      rw [(g2 g).1, (g2 g).2, p1, p2, p3, p4]
      simp only [kR, canon, canons, ekEq, numE, getW, getWord, allInts8, asInt, isK, kindEq, isArgB, strOf, cBig, cInts, cWords, allInts, allWords, r_ofLimbs, r_mkWord, Option.some.injEq, LV.wide.injEq, LV.word.injEq, LV.int.injEq, LV.bool.injEq, LV.str.injEq, LV.big.injEq, LV.tup.injEq, LV.agg.injEq, List.cons.injEq, and_true, true_and]
theorem p_top : SpecOk Tryz.prog globs 53 (mkSpec real [.st [.bool, .int .i64, .wide]] (s_top ropsL)) := by
  have hfns : FnsOk Tryz.prog globs [(80, .spec (mkSpec real [.st [.bool, .int .i64, .wide]] (s_right ropsK))), (99, .spec (mkSpec real [.wide] (s_wLen rops)))] := (fnsCons (fnSpec (p_right)) (fnsCons (fnSpec (p_wLen)) fnsNil))
  refine spec0 hfns (by kernel_rfl) Tryz.func53 (by kernel_rfl) (by kernel_rfl) (by kernel_rfl) 4 _ _ (.tup [.int .i64, .bool]) ?_
  clear hfns
  generalize hEE : env0 [(80, .spec (mkSpec real [.st [.bool, .int .i64, .wide]] (s_right ropsK))), (99, .spec (mkSpec real [.wide] (s_wLen rops)))] = EE
  intro l r hl hr
  simp only [Forms, Form] at hl
  obtain ⟨_, _, rfl, ⟨_, rfl, ⟨_, _, rfl, ⟨x1_1, rfl⟩, _, _, rfl, ⟨x1_2, rfl, x1_2lo, x1_2hi⟩, _, _, rfl, ⟨x1_3, rfl⟩, rfl⟩⟩, rfl⟩ := hl
  subst hEE
  generalize hK : kR (.tup [.int .i64, .bool]) r = K
  generalize hO : real = O
  generalize hS0 : rops = S0
  generalize hS1 : ropsB = S1
  generalize hS2 : ropsC = S2
  generalize hS3 : ropsD = S3
  generalize hS4 : ropsE = S4
  generalize hS5 : ropsF = S5
  generalize hS6 : ropsG = S6
  generalize hS7 : ropsH = S7
  generalize hS8 : ropsI = S8
  generalize hS9 : ropsJ = S9
  generalize hS10 : ropsK = S10
  generalize hS11 : ropsL = S11
  set_option maxRecDepth 100000 in cbv
  subst hO hK hS0 hS1 hS2 hS3 hS4 hS5 hS6 hS7 hS8 hS9 hS10 hS11
  simp only [s_top, R.Y] at hr
  subst hr
  try dsimp only [real, rops, ropsB, ropsC, ropsD, ropsE, ropsF, ropsG, ropsH, ropsI, ropsJ, ropsK, ropsL]
  have e0 : ofLimbsR 0 0 0 0 0 0 0 0 = 0 := ofLimbs_0
  rw [e0]
  have hno : topOk x1_2 x1_3 = false → kR (AT.tup [AT.int IntKind.i64, AT.bool]) (LV.tup [LV.int IntKind.i64 (topE x1_2 x1_3), LV.bool (topOk x1_2 x1_3)]) (LV.tup [LV.lit IntKind.i64 0, LV.blit false]) := by
    intro h
    unfold topE
    rw [h]
    simp only [kR, canon, canons, ekEq, numE, getW, getWord, allInts8, asInt, isK, kindEq, isArgB, strOf, cBig, cInts, cWords, allInts, allWords, r_ofLimbs, r_mkWord, Option.some.injEq, LV.wide.injEq, LV.word.injEq, LV.int.injEq, LV.bool.injEq, LV.str.injEq, LV.big.injEq, LV.tup.injEq, LV.agg.injEq, List.cons.injEq, and_true, true_and]
    rfl
  refine ⟨imp_f fun h => ?_, imp_t fun h => ⟨imp_f fun h2 => ?_, imp_t fun h2 => ?_⟩⟩
  · rw [Bool.not_eq_true'] at h
    exact hno (by unfold topOk rgtE; rw [h]; rfl)
  · exact hno (by unfold topOk; rw [h2]; simp)
  · rw [Bool.not_eq_false'] at h
    have ho : topOk x1_2 x1_3 = true := by unfold topOk rgtE; rw [h, h2]; rfl
    rw [decide_eq_true_eq] at h
    have hl := wLen_le x1_3
    rw [add_i64 (by omega) (by omega), sub_i64 (by omega) (by omega)]
    unfold topE
    rw [ho]
    simp only [kR, canon, canons, ekEq, numE, getW, getWord, allInts8, asInt, isK, kindEq, isArgB, strOf, cBig, cInts, cWords, allInts, allWords, r_ofLimbs, r_mkWord, Option.some.injEq, LV.wide.injEq, LV.word.injEq, LV.int.injEq, LV.bool.injEq, LV.str.injEq, LV.big.injEq, LV.tup.injEq, LV.agg.injEq, List.cons.injEq, and_true, true_and]
    rfl
theorem p_of07 : SpecOk Tryz.prog globs 35 (mkSpec real [.st [.bool, .int .i64, .wide]] (s_of07 ropsK)) := by
  have hfns : FnsOk Tryz.prog globs [(20, .spec (mkSpec real [.wide] (s_big02 ropsK)))] := (fnsCons (fnSpec (p_big02)) fnsNil)
  refine spec0 hfns (by kernel_rfl) Tryz.func35 (by kernel_rfl) (by kernel_rfl) (by kernel_rfl) 4 _ _ (.st [.bool, .big, .int .i64]) ?_
  clear hfns
  generalize hEE : env0 [(20, .spec (mkSpec real [.wide] (s_big02 ropsK)))] = EE
  intro l r hl hr
  simp only [Forms, Form] at hl
  obtain ⟨_, _, rfl, ⟨_, rfl, ⟨_, _, rfl, ⟨x1_1, rfl⟩, _, _, rfl, ⟨x1_2, rfl, x1_2lo, x1_2hi⟩, _, _, rfl, ⟨x1_3, rfl⟩, rfl⟩⟩, rfl⟩ := hl
  subst hEE
  generalize hK : kR (.st [.bool, .big, .int .i64]) r = K
  generalize hO : real = O
  generalize hS0 : rops = S0
  generalize hS1 : ropsB = S1
  generalize hS2 : ropsC = S2
  generalize hS3 : ropsD = S3
  generalize hS4 : ropsE = S4
  generalize hS5 : ropsF = S5
  generalize hS6 : ropsG = S6
  generalize hS7 : ropsH = S7
  generalize hS8 : ropsI = S8
  generalize hS9 : ropsJ = S9
  generalize hS10 : ropsK = S10
  generalize hS11 : ropsL = S11
  set_option maxRecDepth 100000 in cbv
  subst hO hK hS0 hS1 hS2 hS3 hS4 hS5 hS6 hS7 hS8 hS9 hS10 hS11
  simp only [s_of07, R.Y] at hr
  subst hr
  try dsimp only [real, rops, ropsB, ropsC, ropsD, ropsE, ropsF, ropsG, ropsH, ropsI, ropsJ, ropsK, ropsL]
  simp only [kR, canon, canons, ekEq, numE, getW, getWord, allInts8, asInt, isK, kindEq, isArgB, strOf, cBig, cInts, cWords, allInts, allWords, r_ofLimbs, r_mkWord, Option.some.injEq, LV.wide.injEq, LV.word.injEq, LV.int.injEq, LV.bool.injEq, LV.str.injEq, LV.big.injEq, LV.tup.injEq, LV.agg.injEq, List.cons.injEq, and_true, true_and]
theorem min_if (x y : Int) : (if y < x then y else x) = min x y := by split <;> omega
theorem p_size07 : SpecOk Tryz.prog globs 36 (mkSpec real [.st [.bool, .big, .int .i64], .st [.bool, .big, .int .i64]] (s_size07 ropsL)) := by
  have hfns : FnsOk Tryz.prog globs [(19, .spec (mkSpec real [.big] (s_len01 ropsH))), (56, .spec (mkSpec real [.big, .int .i64] (s_shl01 ropsH))), (66, .spec (mkSpec real [.big, .big] (s_cmp01 ropsH)))] := (fnsCons (fnSpec (p_len01)) (fnsCons (fnSpec (p_shl01)) (fnsCons (fnSpec (p_cmp01)) fnsNil)))
  refine spec0 hfns (by kernel_rfl) Tryz.func36 (by kernel_rfl) (by kernel_rfl) (by kernel_rfl) 4 _ _ (.int .i64) ?_
  clear hfns
  generalize hEE : env0 [(19, .spec (mkSpec real [.big] (s_len01 ropsH))), (56, .spec (mkSpec real [.big, .int .i64] (s_shl01 ropsH))), (66, .spec (mkSpec real [.big, .big] (s_cmp01 ropsH)))] = EE
  intro l r hl hr
  simp only [Forms, Form] at hl
  obtain ⟨_, _, rfl, ⟨_, rfl, ⟨_, _, rfl, ⟨x1_1, rfl⟩, _, _, rfl, ⟨x1_2, rfl, x1_2len⟩, _, _, rfl, ⟨x1_3, rfl, x1_3lo, x1_3hi⟩, rfl⟩⟩, _, _, rfl, ⟨_, rfl, ⟨_, _, rfl, ⟨x2_1, rfl⟩, _, _, rfl, ⟨x2_2, rfl, x2_2len⟩, _, _, rfl, ⟨x2_3, rfl, x2_3lo, x2_3hi⟩, rfl⟩⟩, rfl⟩ := hl
  subst hEE
  generalize hK : kR (.int .i64) r = K
  generalize hO : real = O
  generalize hS0 : rops = S0
  generalize hS1 : ropsB = S1
  generalize hS2 : ropsC = S2
  generalize hS3 : ropsD = S3
  generalize hS4 : ropsE = S4
  generalize hS5 : ropsF = S5
  generalize hS6 : ropsG = S6
  generalize hS7 : ropsH = S7
  generalize hS8 : ropsI = S8
  generalize hS9 : ropsJ = S9
  generalize hS10 : ropsK = S10
  generalize hS11 : ropsL = S11
  set_option maxRecDepth 100000 in cbv
  subst hO hK hS0 hS1 hS2 hS3 hS4 hS5 hS6 hS7 hS8 hS9 hS10 hS11
  simp only [s_size07, R.Y] at hr
  try dsimp only [real, rops, ropsB, ropsC, ropsD, ropsE, ropsF, ropsG, ropsH, ropsI, ropsJ, ropsK, ropsL]
  obtain ⟨k1, k2, hr⟩ := hr
  subst hr
  dsimp only [real, ropsL, ropsK, ropsH]
  replace k1 : okN x1_2 x1_3 := k1
  replace k2 : okN x2_2 x2_3 := k2
  have l1 : lenN x1_2 = ((bitN x1_2 : Nat) : Int) := rfl
  have l2 : lenN x2_2 = ((bitN x2_2 : Nat) : Int) := rfl
  rw [l1, l2, min1, min1, min_if]
  have b1 := k1.1
  have b2 := k2.1
  have b3 := k1.2
  have b4 := k2.2
  have z1 := bitN_eq0 (a := x1_2)
  have z2 := bitN_eq0 (a := x2_2)
  have hz : x1_2 = 0 ∨ x2_2 = 0 → arithR .sub .i64 (if x1_2 = 0 then 0 else 1) (if x2_2 = 0 then 0 else 1) = sizeN x1_2 x1_3 x2_2 x2_3 := fun h => by
    unfold sizeN
    rw [if_pos h]
    split <;> split <;> rfl
  refine ⟨okN_small k1, okN_small k2, imp_f fun h => ?_, imp_t fun h => ⟨imp_f fun h2 => ?_, imp_t fun h2 => ?_⟩⟩
  · rw [c_eql_t] at h
    simp only [kR, canon, canons, ekEq, numE, getW, getWord, allInts8, asInt, isK, kindEq, isArgB, strOf, cBig, cInts, cWords, allInts, allWords, r_ofLimbs, r_mkWord, Option.some.injEq, LV.wide.injEq, LV.word.injEq, LV.int.injEq, LV.bool.injEq, LV.str.injEq, LV.big.injEq, LV.tup.injEq, LV.agg.injEq, List.cons.injEq, and_true, true_and]
    exact (hz (.inl (z1.1 (by omega))))
  · rw [c_eql_t] at h2
    simp only [kR, canon, canons, ekEq, numE, getW, getWord, allInts8, asInt, isK, kindEq, isArgB, strOf, cBig, cInts, cWords, allInts, allWords, r_ofLimbs, r_mkWord, Option.some.injEq, LV.wide.injEq, LV.word.injEq, LV.int.injEq, LV.bool.injEq, LV.str.injEq, LV.big.injEq, LV.tup.injEq, LV.agg.injEq, List.cons.injEq, and_true, true_and]
    exact (hz (.inr (z2.1 (by omega))))
  · rw [c_eql_f] at h h2
    have n1 : x1_2 ≠ 0 := fun e => h (by rw [z1.2 e]; rfl)
    have n2 : x2_2 ≠ 0 := fun e => h2 (by rw [z2.2 e]; rfl)
    rw [add_i64 (x := x1_3) (by omega) (by omega), add_i64 (x := x2_3) (by omega) (by omega)]
    have hs : sizeN x1_2 x1_3 x2_2 x2_3 = if x1_3 + ((bitN x1_2 : Nat) : Int) ≠ x2_3 + ((bitN x2_2 : Nat) : Int) then x1_3 + ((bitN x1_2 : Nat) : Int) - x2_3 - ((bitN x2_2 : Nat) : Int) else cmpN (x1_2 * 2 ^ (x1_3 - min x1_3 x2_3).toNat) (x2_2 * 2 ^ (x2_3 - min x1_3 x2_3).toNat) := by
      unfold sizeN
      rw [if_neg (by omega)]
    refine ⟨imp_f fun g => ?_, imp_t fun g => ?_⟩
    · rw [c_neq_t] at g
      rw [sub_i64 (x := x1_3 + ((bitN x1_2 : Nat) : Int)) (by omega) (by omega), sub_i64 (x := x1_3 + ((bitN x1_2 : Nat) : Int) - x2_3) (by omega) (by omega)]
      simp only [kR, canon, canons, ekEq, numE, getW, getWord, allInts8, asInt, isK, kindEq, isArgB, strOf, cBig, cInts, cWords, allInts, allWords, r_ofLimbs, r_mkWord, Option.some.injEq, LV.wide.injEq, LV.word.injEq, LV.int.injEq, LV.bool.injEq, LV.str.injEq, LV.big.injEq, LV.tup.injEq, LV.agg.injEq, List.cons.injEq, and_true, true_and]
      rw [hs, if_pos g]
    · rw [c_neq_f] at g
      have e1 : arithR .sub .i64 x1_3 (min x1_3 x2_3) = x1_3 - min x1_3 x2_3 := sub_i64 (by omega) (by omega)
      have e2 : arithR .sub .i64 x2_3 (min x1_3 x2_3) = x2_3 - min x1_3 x2_3 := sub_i64 (by omega) (by omega)
      rw [e1, e2]
      refine ⟨okN_small k1, by omega, okN_small k2, by omega, ?_⟩
      simp only [kR, canon, canons, ekEq, numE, getW, getWord, allInts8, asInt, isK, kindEq, isArgB, strOf, cBig, cInts, cWords, allInts, allWords, r_ofLimbs, r_mkWord, Option.some.injEq, LV.wide.injEq, LV.word.injEq, LV.int.injEq, LV.bool.injEq, LV.str.injEq, LV.big.injEq, LV.tup.injEq, LV.agg.injEq, List.cons.injEq, and_true, true_and]
      rw [hs, if_neg (fun hh => hh g)]
def numT : Ty := .struct [.bool, .int .i64, .arr 8 (.int .u64)]
theorem p_short : SpecOk Tryz.prog globs 82 (mkSpec real [.st [.bool, .int .i64, .wide]] (s_short ropsL)) := by
  have hfns : FnsOk Tryz.prog globs [(80, .spec (mkSpec real [.st [.bool, .int .i64, .wide]] (s_right ropsK))), (127, .spec (mkSpec real [.wide, .int .i64] (s_wBit rops))), (104, .spec (mkSpec real [.wide, .int .i64] (s_shr rops)))] := (fnsCons (fnSpec (p_right)) (fnsCons (fnSpec (p_wBit)) (fnsCons (fnSpec (p_shr)) fnsNil)))
  refine specL (fun _ => [1,2]) hfns (by kernel_rfl) Tryz.func82 (by kernel_rfl) (by kernel_rfl) (by kernel_rfl) 4 _ _ (.st [.bool, .int .i64, .wide]) ?_
  clear hfns
  generalize hEE : envL (fun _ => [1,2]) [(80, .spec (mkSpec real [.st [.bool, .int .i64, .wide]] (s_right ropsK))), (127, .spec (mkSpec real [.wide, .int .i64] (s_wBit rops))), (104, .spec (mkSpec real [.wide, .int .i64] (s_shr rops)))] = EE
  intro l r hl hr
  simp only [Forms, Form] at hl
  obtain ⟨_, _, rfl, ⟨_, rfl, ⟨_, _, rfl, ⟨x1_1, rfl⟩, _, _, rfl, ⟨x1_2, rfl, x1_2lo, x1_2hi⟩, _, _, rfl, ⟨x1_3, rfl⟩, rfl⟩⟩, rfl⟩ := hl
  subst hEE
  generalize hK : kR (.st [.bool, .int .i64, .wide]) r = K
  generalize hO : real = O
  generalize hS0 : rops = S0
  generalize hS1 : ropsB = S1
  generalize hS2 : ropsC = S2
  generalize hS3 : ropsD = S3
  generalize hS4 : ropsE = S4
  generalize hS5 : ropsF = S5
  generalize hS6 : ropsG = S6
  generalize hS7 : ropsH = S7
  generalize hS8 : ropsI = S8
  generalize hS9 : ropsJ = S9
  generalize hS10 : ropsK = S10
  generalize hS11 : ropsL = S11
  set_option maxRecDepth 100000 in cbv
  have hr : r = _ := hr.symm
  subst hO hK hS0 hS1 hS2 hS3 hS4 hS5 hS6 hS7 hS8 hS9 hS10 hS11
  subst hr
  have e0 : real.ofLimbs 0 0 0 0 0 0 0 0 = 0 := ofLimbs_0
  refine ⟨imp_f fun h => ?_, imp_t fun h => ⟨imp_f fun h2 => ?_, imp_t fun h2 => ?_⟩⟩
  · replace h : (!rgtE x1_2) = true := h
    rw [Bool.not_eq_true'] at h
    have ho : topOk x1_2 x1_3 = false := by unfold topOk; rw [h]; rfl
    (dsimp only [real, rops, ropsB, ropsC, ropsD, ropsE, ropsF, ropsG, ropsH, ropsI, ropsJ, ropsK, ropsL])
    simp only [kR, canon, canons, ekEq, numE, getW, getWord, allInts8, asInt, isK, kindEq, isArgB, strOf, cBig, cInts, cWords, allInts, allWords, r_ofLimbs, r_mkWord, Option.some.injEq, LV.wide.injEq, LV.word.injEq, LV.int.injEq, LV.bool.injEq, LV.str.injEq, LV.big.injEq, LV.tup.injEq, LV.agg.injEq, List.cons.injEq, and_true, true_and]
    unfold shNeg shExp shSig
    simp [h, ho, ofLimbs_0]
  · replace h : (!rgtE x1_2) = false := h
    rw [Bool.not_eq_false'] at h
    replace h2 : decide (x1_3 = real.ofLimbs 0 0 0 0 0 0 0 0) = true := h2
    rw [e0] at h2
    have ho : topOk x1_2 x1_3 = false := by unfold topOk; rw [h2]; simp
    (dsimp only [real, rops, ropsB, ropsC, ropsD, ropsE, ropsF, ropsG, ropsH, ropsI, ropsJ, ropsK, ropsL])
    simp only [kR, canon, canons, ekEq, numE, getW, getWord, allInts8, asInt, isK, kindEq, isArgB, strOf, cBig, cInts, cWords, allInts, allWords, r_ofLimbs, r_mkWord, Option.some.injEq, LV.wide.injEq, LV.word.injEq, LV.int.injEq, LV.bool.injEq, LV.str.injEq, LV.big.injEq, LV.tup.injEq, LV.agg.injEq, List.cons.injEq, and_true, true_and]
    unfold shNeg shExp shSig
    simp [h, ho, ofLimbs_0]
  · replace h : (!rgtE x1_2) = false := h
    rw [Bool.not_eq_false'] at h
    replace h2 : decide (x1_3 = real.ofLimbs 0 0 0 0 0 0 0 0) = false := h2
    rw [e0] at h2
    have ho : topOk x1_2 x1_3 = true := by unfold topOk; rw [h, h2]; rfl
    obtain ⟨hpos, _⟩ := sh_parts ho
    have hrg := ((topOk_iff x1_2 x1_3).1 ho).1
    have h512 := tzN_512 x1_3 hpos
    refine loop_rule (α := Int × W × W) (fun p => ⟨[.undef, .ptr 0 0, .ptr 1 0, .undef, .undef, .undef, .undef, .undef, .undef, .undef, .undef, .undef, .undef, .undef, .undef, .undef, .undef, .undef, .undef, .undef, .undef, .undef, .undef, .undef, .undef, .undef, .undef, .undef, .undef, .undef], ofL [some (numT, .agg [.bool x1_1, .int .i64 p.1, .wide p.2.1]), some (numT, .agg [.bool false, .int .i64 0, .wide p.2.2]), none, none, none, none, none, none, none], 9⟩)
      (fun m p => shP x1_2 x1_3 p.1 p.2.1 ∧ tzN p.2.1.toNat ≤ m) ?_ (tzN x1_3.toNat) (x1_2, x1_3, _) ⟨⟨hpos, rfl, rfl⟩, Nat.le_refl _⟩
    rintro m ⟨e, s, z⟩ X ⟨g1, g2⟩ hX
    (generalize hK : kR _ _ = K; generalize hO : real = O; generalize hS0 : rops = S0; generalize hS1 : ropsB = S1; generalize hS2 : ropsC = S2; generalize hS3 : ropsD = S3; generalize hS4 : ropsE = S4; generalize hS5 : ropsF = S5; generalize hS6 : ropsG = S6; generalize hS7 : ropsH = S7; generalize hS8 : ropsI = S8; generalize hS9 : ropsJ = S9; generalize hS10 : ropsK = S10; generalize hS11 : ropsL = S11; set_option maxRecDepth 100000 in cbv; subst hO hK hS0 hS1 hS2 hS3 hS4 hS5 hS6 hS7 hS8 hS9 hS10 hS11; dsimp only [real, rops, ropsB, ropsC, ropsD, ropsE, ropsF, ropsG, ropsH, ropsI, ropsJ, ropsK, ropsL])
    have k1 : shP x1_2 x1_3 e s := g1
    have k2 : tzN s.toNat ≤ m := g2
    clear g1 g2
    refine ⟨imp_f fun g => ?_, imp_t fun g => ?_⟩
    · rw [Bool.not_eq_true'] at g
      obtain ⟨s1, s2⟩ := shP_step k1 g
      have hk := k1.2.1
      have h513 := tzN_512 s k1.1
      have e3 : arithR .add .i64 e 1 = e + 1 := add_i64 (by omega) (by omega)
      rw [e3]
      exact hX (m - 1) (e + 1, wShr s 1, z) (by omega) ⟨s1, by show tzN (wShr s 1).toNat ≤ m - 1; omega⟩
    · rw [Bool.not_eq_false'] at g
      obtain ⟨s1, s2⟩ := shP_end k1 g ho
      simp only [kR, canon, canons, ekEq, numE, getW, getWord, allInts8, asInt, isK, kindEq, isArgB, strOf, cBig, cInts, cWords, allInts, allWords, r_ofLimbs, r_mkWord, Option.some.injEq, LV.wide.injEq, LV.word.injEq, LV.int.injEq, LV.bool.injEq, LV.str.injEq, LV.big.injEq, LV.tup.injEq, LV.agg.injEq, List.cons.injEq, and_true, true_and]
      unfold shNeg
      rw [h, ← s1, ← s2]
      simp
end Go.LE