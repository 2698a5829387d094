import Derived.Test.YtnanihpaifaceaaGreatDoorW14
import Derived.Test.YtnanihpaifaceaaGreatDoorLeP
set_option linter.unusedVariables false
set_option linter.unusedSimpArgs false
namespace Go.LE
open Go Go.Proofs
structure OpsL where
  fin : Int → BitVec 128 → Prop
  nof : Int → BitVec 128 → Prop
  vNeg : Int → BitVec 128 → Bool
  vExp : Int → BitVec 128 → Int
  vSig : Int → BitVec 128 → W
  vOk : Int → BitVec 128 → Bool
  uExp : Int → BitVec 128 → Int
  uSig : Int → BitVec 128 → W
  uOk : Int → BitVec 128 → Bool
  uNeg : Int → BitVec 128 → Bool
  sNeg : Bool → Int → W → Bool
  sExp : Int → W → Int
  sSig : Int → W → W
  top : Int → W → Int
  topOk : Int → W → Bool
  size : Nat → Int → Nat → Int → Int
  okN : Nat → Int → Prop
  pNeg : Bool → W → Bool
  pExp : Int → Int → W → Int
  pSig : Int → W → W
  pOk : W → Bool
noncomputable def ropsL : OpsL where
  fin := fun f w => wFin f w = true
  nof := fun f w => wFin f w = false
  vNeg := vNeg
  vExp := vExp
  vSig := vSig
  vOk := wFin
  uExp := uExp
  uSig := uSig
  uOk := uOk
  uNeg := uNeg
  sNeg := shNeg
  sExp := shExp
  sSig := shSig
  top := topE
  topOk := topOk
  size := sizeN
  okN := okN
  pNeg := upNeg
  pExp := upExp
  pSig := upSig
  pOk := upOk
def s_valueP (_ : OpsL) : List LV → R LV
  | [_, .agg [.bool b, .int _ e, .wide s]] => .ok (.tup [.agg [.bool b, .int .i64 e, .wide s], .bool true])
  | _ => .fail
def s_unpackP (S : OpsL) : List LV → R LV
  | [.agg [_, .int _ p, _, _, _], .agg [.bool b, .int _ e, .wide s]] => .ok (.tup [.agg [.bool (S.pNeg b s), .int .i64 (S.pExp p e s), .wide (S.pSig p s)], .bool (S.pOk s)])
  | _ => .fail
def s_value (S : OpsL) : List LV → R LV
  | [.int _ f, .word w] => .ok (.tup [.agg [.bool (S.vNeg f w), .int .i64 (S.vExp f w), .wide (S.vSig f w)], .bool (S.vOk f w)])
  | _ => .fail
def s_unpack (S : OpsL) : List LV → R LV
  | [.int _ f, .word w] => .ok (.tup [.agg [.bool (S.uNeg f w), .int .i64 (S.uExp f w), .wide (S.uSig f w)], .bool (S.uOk f w)])
  | _ => .fail
def s_short (S : OpsL) : List LV → R LV
  | [.agg [.bool b, .int _ e, .wide s]] => .ok (.agg [.bool (S.sNeg b e s), .int .i64 (S.sExp e s), .wide (S.sSig e s)])
  | _ => .fail
def s_top (S : OpsL) : List LV → R LV
  | [.agg [.bool _, .int _ e, .wide s]] => .ok (.tup [.int .i64 (S.top e s), .bool (S.topOk e s)])
  | _ => .fail
def s_of07 (S : OpsK) : List LV → R LV
  | [.agg [.bool b, .int _ e, .wide s]] => .ok (.agg [.bool b, .big (S.wn s), .int .i64 e])
  | _ => .fail
def s_size07 (S : OpsL) : List LV → R LV
  | [.agg [.bool _, .big a, .int _ e], .agg [.bool _, .big b, .int _ g]] => .req (S.okN a e) (.req (S.okN b g) (.ok (.int .i64 (S.size a e b g))))
  | _ => .fail
def s_awake07 (_ : OpsL) : List LV → R LV := fun _ => .ok (.bool true)
def s_UnpackShort (_ : OpsL) : List LV → R LV := fun _ => .ok (.bool true)
theorem p_valueP : SpecOk Tryz.prog globs 90 (mkSpec real [.st [.int .i64, .int .i64, .int .i64, .int .i64, .int .i64], .st [.bool, .int .i64, .wide]] (s_valueP ropsL)) := by
  have hfns : FnsOk Tryz.prog globs [] := fnsNil
  refine spec0 hfns (by kernel_rfl) Tryz.func90 (by kernel_rfl) (by kernel_rfl) (by kernel_rfl) 4 _ _ (.tup [.st [.bool, .int .i64, .wide], .bool]) ?_
  clear hfns
  generalize hEE : env0 [] = EE
  intro l r hl hr
  simp only [Forms, Form] at hl
  obtain ⟨_, _, rfl, ⟨_, rfl, ⟨_, _, rfl, ⟨x1_1, rfl, x1_1lo, x1_1hi⟩, _, _, rfl, ⟨x1_2, rfl, x1_2lo, x1_2hi⟩, _, _, rfl, ⟨x1_3, rfl, x1_3lo, x1_3hi⟩, _, _, rfl, ⟨x1_4, rfl, x1_4lo, x1_4hi⟩, _, _, rfl, ⟨x1_5, rfl, x1_5lo, x1_5hi⟩, rfl⟩⟩, _, _, rfl, ⟨_, rfl, ⟨_, _, rfl, ⟨x2_1, rfl⟩, _, _, rfl, ⟨x2_2, rfl, x2_2lo, x2_2hi⟩, _, _, rfl, ⟨x2_3, rfl⟩, rfl⟩⟩, rfl⟩ := hl
  subst hEE
  generalize hK : kR (.tup [.st [.bool, .int .i64, .wide], .bool]) r = K
  generalize hO : real = O
  set_option maxRecDepth 100000 in cbv
  subst hO hK 
  simp only [s_valueP, R.Y] at hr
  subst hr
  try dsimp only [real, rops, ropsB, ropsC, ropsD, ropsE, ropsF, ropsG, ropsH, ropsI, ropsJ, ropsK, ropsL]
  simp only [kR, canon, canons, ekEq, numE, getW, getWord, allInts8, asInt, isK, kindEq, isArgB, strOf, cBig, cInts, cWords, allInts, allWords, r_ofLimbs, r_mkWord, Option.some.injEq, LV.wide.injEq, LV.word.injEq, LV.int.injEq, LV.bool.injEq, LV.str.injEq, LV.big.injEq, LV.tup.injEq, LV.agg.injEq, List.cons.injEq, and_true, true_and]
theorem p_unpackP : SpecOk Tryz.prog globs 139 (mkSpec real [.st [.int .i64, .int .i64, .int .i64, .int .i64, .int .i64], .st [.bool, .int .i64, .wide]] (s_unpackP ropsL)) := by
  have hfns : FnsOk Tryz.prog globs [(42, .spec (mkSpec real [.wide] (s_wLen rops))), (88, .spec (mkSpec real [.wide, .int .i64] (s_shl rops)))] := (fnsCons (fnSpec (p_wLen)) (fnsCons (fnSpec (p_shl)) fnsNil))
  refine spec0 hfns (by kernel_rfl) Tryz.func139 (by kernel_rfl) (by kernel_rfl) (by kernel_rfl) 4 _ _ (.tup [.st [.bool, .int .i64, .wide], .bool]) ?_
  clear hfns
  generalize hEE : env0 [(42, .spec (mkSpec real [.wide] (s_wLen rops))), (88, .spec (mkSpec real [.wide, .int .i64] (s_shl rops)))] = EE
  intro l r hl hr
  simp only [Forms, Form] at hl
  obtain ⟨_, _, rfl, ⟨_, rfl, ⟨_, _, rfl, ⟨x1_1, rfl, x1_1lo, x1_1hi⟩, _, _, rfl, ⟨x1_2, rfl, x1_2lo, x1_2hi⟩, _, _, rfl, ⟨x1_3, rfl, x1_3lo, x1_3hi⟩, _, _, rfl, ⟨x1_4, rfl, x1_4lo, x1_4hi⟩, _, _, rfl, ⟨x1_5, rfl, x1_5lo, x1_5hi⟩, rfl⟩⟩, _, _, rfl, ⟨_, rfl, ⟨_, _, rfl, ⟨x2_1, rfl⟩, _, _, rfl, ⟨x2_2, rfl, x2_2lo, x2_2hi⟩, _, _, rfl, ⟨x2_3, rfl⟩, rfl⟩⟩, rfl⟩ := hl
  subst hEE
  generalize hK : kR (.tup [.st [.bool, .int .i64, .wide], .bool]) r = K
  generalize hO : real = O
  generalize hS0 : rops = S0
  generalize hS1 : ropsB = S1
  generalize hS2 : ropsC = S2
  generalize hS3 : ropsD = S3
  generalize hS4 : ropsE = S4
  generalize hS5 : ropsF = S5
  generalize hS6 : ropsG = S6
  generalize hS7 : ropsH = S7
  generalize hS8 : ropsI = S8
  generalize hS9 : ropsJ = S9
  generalize hS10 : ropsK = S10
  generalize hS11 : ropsL = S11
  set_option maxRecDepth 100000 in cbv
  subst hO hK hS0 hS1 hS2 hS3 hS4 hS5 hS6 hS7 hS8 hS9 hS10 hS11
  simp only [s_unpackP, R.Y] at hr
  subst hr
  try dsimp only [real, rops, ropsB, ropsC, ropsD, ropsE, ropsF, ropsG, ropsH, ropsI, ropsJ, ropsK, ropsL]
  have e0 : ofLimbsR 0 0 0 0 0 0 0 0 = 0 := ofLimbs_0
  rw [e0]
  refine ⟨imp_f fun h => ?_, imp_t fun h => ?_⟩
  · have h : upOk x2_3 = false := by unfold upOk; rw [h]; rfl
    simp only [kR, canon, canons, ekEq, numE, getW, getWord, allInts8, asInt, isK, kindEq, isArgB, strOf, cBig, cInts, cWords, allInts, allWords, r_ofLimbs, r_mkWord, Option.some.injEq, LV.wide.injEq, LV.word.injEq, LV.int.injEq, LV.bool.injEq, LV.str.injEq, LV.big.injEq, LV.tup.injEq, LV.agg.injEq, List.cons.injEq, and_true, true_and]
    unfold upNeg upExp upSig
    simp [h, e0]
  · have h : upOk x2_3 = true := by unfold upOk; rw [h]; rfl
    simp only [kR, canon, canons, ekEq, numE, getW, getWord, allInts8, asInt, isK, kindEq, isArgB, strOf, cBig, cInts, cWords, allInts, allWords, r_ofLimbs, r_mkWord, Option.some.injEq, LV.wide.injEq, LV.word.injEq, LV.int.injEq, LV.bool.injEq, LV.str.injEq, LV.big.injEq, LV.tup.injEq, LV.agg.injEq, List.cons.injEq, and_true, true_and]
    unfold upNeg upExp upSig
    simp [h]
theorem p_value : SpecOk Tryz.prog globs 61 (mkSpec real [.int .i64, .word] (s_value ropsL)) := by
  have hfns : FnsOk Tryz.prog globs [(89, inlF Tryz.f89), (122, .spec (mkSpec real [.int .i64, .word] (s_cFinite ropsE))), (41, .spec (mkSpec real [.int .i64] (s_fmtOf rops))), (123, .spec (mkSpec real [.int .i64, .word] (s_cField ropsC))), (124, .spec (mkSpec real [.int .i64, .word] (s_cFrac ropsC))), (106, .spec (mkSpec real [.wide, .wide] (s_wAdd rops))), (107, .spec (mkSpec real [.int .i64] (s_power rops))), (52, .spec (mkSpec real [.int .i64, .word] (s_cNeg ropsC))), (90, .spec (mkSpec real [.st [.int .i64, .int .i64, .int .i64, .int .i64, .int .i64], .st [.bool, .int .i64, .wide]] (s_valueP ropsL)))] := (fnsCons (inl_ok Tryz.func89 (by kernel_rfl) (by kernel_rfl)) (fnsCons (fnSpec (p_cFinite)) (fnsCons (fnSpec (p_fmtOf)) (fnsCons (fnSpec (p_cField)) (fnsCons (fnSpec (p_cFrac)) (fnsCons (fnSpec (p_wAdd)) (fnsCons (fnSpec (p_power)) (fnsCons (fnSpec (p_cNeg)) (fnsCons (fnSpec (p_valueP)) fnsNil)))))))))
  refine spec0 hfns (by kernel_rfl) Tryz.func61 (by kernel_rfl) (by kernel_rfl) (by kernel_rfl) 6 _ _ (.tup [.st [.bool, .int .i64, .wide], .bool]) ?_
  clear hfns
  generalize hEE : env0 [(89, inlF Tryz.f89), (122, .spec (mkSpec real [.int .i64, .word] (s_cFinite ropsE))), (41, .spec (mkSpec real [.int .i64] (s_fmtOf rops))), (123, .spec (mkSpec real [.int .i64, .word] (s_cField ropsC))), (124, .spec (mkSpec real [.int .i64, .word] (s_cFrac ropsC))), (106, .spec (mkSpec real [.wide, .wide] (s_wAdd rops))), (107, .spec (mkSpec real [.int .i64] (s_power rops))), (52, .spec (mkSpec real [.int .i64, .word] (s_cNeg ropsC))), (90, .spec (mkSpec real [.st [.int .i64, .int .i64, .int .i64, .int .i64, .int .i64], .st [.bool, .int .i64, .wide]] (s_valueP ropsL)))] = EE
  intro l r hl hr
  simp only [Forms, Form] at hl
  obtain ⟨_, _, rfl, ⟨x1, rfl, x1lo, x1hi⟩, _, _, rfl, ⟨x2, rfl⟩, rfl⟩ := hl
  subst hEE
  generalize hK : kR (.tup [.st [.bool, .int .i64, .wide], .bool]) r = K
  generalize hO : real = O
  generalize hS0 : rops = S0
  generalize hS1 : ropsB = S1
  generalize hS2 : ropsC = S2
  generalize hS3 : ropsD = S3
  generalize hS4 : ropsE = S4
  generalize hS5 : ropsF = S5
  generalize hS6 : ropsG = S6
  generalize hS7 : ropsH = S7
  generalize hS8 : ropsI = S8
  generalize hS9 : ropsJ = S9
  generalize hS10 : ropsK = S10
  generalize hS11 : ropsL = S11
  set_option maxRecDepth 100000 in cbv
  subst hO hK hS0 hS1 hS2 hS3 hS4 hS5 hS6 hS7 hS8 hS9 hS10 hS11
  simp only [s_value, R.Y] at hr
  subst hr
  try dsimp only [real, rops, ropsB, ropsC, ropsD, ropsE, ropsF, ropsG, ropsH, ropsI, ropsJ, ropsK, ropsL]
  cases h : wFin x1 x2 with
  | false =>
    obtain ⟨e1, e2, e3⟩ := v_no h
    refine ⟨.inr ?_, .inl rfl⟩
    rw [e1, e2, e3]
    simp only [kR, canon, canons, ekEq, numE, getW, getWord, allInts8, asInt, isK, kindEq, isArgB, strOf, cBig, cInts, cWords, allInts, allWords, r_ofLimbs, r_mkWord, Option.some.injEq, LV.wide.injEq, LV.word.injEq, LV.int.injEq, LV.bool.injEq, LV.str.injEq, LV.big.injEq, LV.tup.injEq, LV.agg.injEq, List.cons.injEq, and_true, true_and]
    exact ofLimbs_0
  | true =>
    obtain ⟨e1, e2, e3⟩ := fin_parts h
    obtain ⟨g1, g2⟩ := val_exp h
    have en : vNeg x1 x2 = wNeg x1 x2 := by unfold vNeg; rw [h]; rfl
    obtain ⟨_, hf⟩ := fin_fits h
    simp only [e1, e2, e3, en, (sub_prec hf).1]
    refine ⟨.inl rfl, .inr ⟨imp_f fun g => ?_, imp_t fun g => ?_⟩⟩
    · rw [c_gtr_t] at g
      rw [(g1 g).1, (g1 g).2]
      simp only [kR, canon, canons, ekEq, numE, getW, getWord, allInts8, asInt, isK, kindEq, isArgB, strOf, cBig, cInts, cWords, allInts, allWords, r_ofLimbs, r_mkWord, Option.some.injEq, LV.wide.injEq, LV.word.injEq, LV.int.injEq, LV.bool.injEq, LV.str.injEq, LV.big.injEq, LV.tup.injEq, LV.agg.injEq, List.cons.injEq, and_true, true_and]
    · rw [c_gtr_f] at g
      rw [(g2 g).1, (g2 g).2]
      simp only [kR, canon, canons, ekEq, numE, getW, getWord, allInts8, asInt, isK, kindEq, isArgB, strOf, cBig, cInts, cWords, allInts, allWords, r_ofLimbs, r_mkWord, Option.some.injEq, LV.wide.injEq, LV.word.injEq, LV.int.injEq, LV.bool.injEq, LV.str.injEq, LV.big.injEq, LV.tup.injEq, LV.agg.injEq, List.cons.injEq, and_true, true_and]
theorem p_unpack : SpecOk Tryz.prog globs 117 (mkSpec real [.int .i64, .word] (s_unpack ropsL)) := by
  have hfns : FnsOk Tryz.prog globs [(89, inlF Tryz.f89), (122, .spec (mkSpec real [.int .i64, .word] (s_cFinite ropsE))), (41, .spec (mkSpec real [.int .i64] (s_fmtOf rops))), (123, .spec (mkSpec real [.int .i64, .word] (s_cField ropsC))), (124, .spec (mkSpec real [.int .i64, .word] (s_cFrac ropsC))), (106, .spec (mkSpec real [.wide, .wide] (s_wAdd rops))), (107, .spec (mkSpec real [.int .i64] (s_power rops))), (52, .spec (mkSpec real [.int .i64, .word] (s_cNeg ropsC))), (139, .spec (mkSpec real [.st [.int .i64, .int .i64, .int .i64, .int .i64, .int .i64], .st [.bool, .int .i64, .wide]] (s_unpackP ropsL)))] := (fnsCons (inl_ok Tryz.func89 (by kernel_rfl) (by kernel_rfl)) (fnsCons (fnSpec (p_cFinite)) (fnsCons (fnSpec (p_fmtOf)) (fnsCons (fnSpec (p_cField)) (fnsCons (fnSpec (p_cFrac)) (fnsCons (fnSpec (p_wAdd)) (fnsCons (fnSpec (p_power)) (fnsCons (fnSpec (p_cNeg)) (fnsCons (fnSpec (p_unpackP)) fnsNil)))))))))
  refine spec0 hfns (by kernel_rfl) Tryz.func117 (by kernel_rfl) (by kernel_rfl) (by kernel_rfl) 6 _ _ (.tup [.st [.bool, .int .i64, .wide], .bool]) ?_
  clear hfns
  generalize hEE : env0 [(89, inlF Tryz.f89), (122, .spec (mkSpec real [.int .i64, .word] (s_cFinite ropsE))), (41, .spec (mkSpec real [.int .i64] (s_fmtOf rops))), (123, .spec (mkSpec real [.int .i64, .word] (s_cField ropsC))), (124, .spec (mkSpec real [.int .i64, .word] (s_cFrac ropsC))), (106, .spec (mkSpec real [.wide, .wide] (s_wAdd rops))), (107, .spec (mkSpec real [.int .i64] (s_power rops))), (52, .spec (mkSpec real [.int .i64, .word] (s_cNeg ropsC))), (139, .spec (mkSpec real [.st [.int .i64, .int .i64, .int .i64, .int .i64, .int .i64], .st [.bool, .int .i64, .wide]] (s_unpackP ropsL)))] = EE
  intro l r hl hr
  simp only [Forms, Form] at hl
  obtain ⟨_, _, rfl, ⟨x1, rfl, x1lo, x1hi⟩, _, _, rfl, ⟨x2, rfl⟩, rfl⟩ := hl
  subst hEE
  generalize hK : kR (.tup [.st [.bool, .int .i64, .wide], .bool]) r = K
  generalize hO : real = O
  generalize hS0 : rops = S0
  generalize hS1 : ropsB = S1
  generalize hS2 : ropsC = S2
  generalize hS3 : ropsD = S3
  generalize hS4 : ropsE = S4
  generalize hS5 : ropsF = S5
  generalize hS6 : ropsG = S6
  generalize hS7 : ropsH = S7
  generalize hS8 : ropsI = S8
  generalize hS9 : ropsJ = S9
  generalize hS10 : ropsK = S10
  generalize hS11 : ropsL = S11
  set_option maxRecDepth 100000 in cbv
  subst hO hK hS0 hS1 hS2 hS3 hS4 hS5 hS6 hS7 hS8 hS9 hS10 hS11
  simp only [s_unpack, R.Y] at hr
  subst hr
  try dsimp only [real, rops, ropsB, ropsC, ropsD, ropsE, ropsF, ropsG, ropsH, ropsI, ropsJ, ropsK, ropsL]
  cases h : wFin x1 x2 with
  | false =>
    obtain ⟨e0, e1, e2, e3⟩ := u_no h
    refine ⟨.inr ?_, .inl rfl⟩
    rw [e0, e1, e2, e3]
    simp only [kR, canon, canons, ekEq, numE, getW, getWord, allInts8, asInt, isK, kindEq, isArgB, strOf, cBig, cInts, cWords, allInts, allWords, r_ofLimbs, r_mkWord, Option.some.injEq, LV.wide.injEq, LV.word.injEq, LV.int.injEq, LV.bool.injEq, LV.str.injEq, LV.big.injEq, LV.tup.injEq, LV.agg.injEq, List.cons.injEq, and_true, true_and]
    exact ofLimbs_0
  | true =>
    obtain ⟨e1, e2, e3⟩ := fin_parts h
    obtain ⟨g1, g2⟩ := val_exp h
    obtain ⟨p1, p2, p3, p4⟩ := up_exp h true
    obtain ⟨_, hf⟩ := fin_fits h
    simp only [e1, e2, e3, (sub_prec hf).1]
    refine ⟨.inl rfl, .inr ⟨imp_f fun g => ?_, imp_t fun g => ?_⟩⟩
    · rw [c_gtr_t] at g
      rw [(g1 g).1, (g1 g).2, p1, p2, p3, p4]
      simp only [kR, canon, canons, ekEq, numE, getW, getWord, allInts8, asInt, isK, kindEq, isArgB, strOf, cBig, cInts, cWords, allInts, allWords, r_ofLimbs, r_mkWord, Option.some.injEq, LV.wide.injEq, LV.word.injEq, LV.int.injEq, LV.bool.injEq, LV.str.injEq, LV.big.injEq, LV.tup.injEq, LV.agg.injEq, List.cons.injEq, and_true, true_and]
    · rw [c_gtr_f] at g
      rw [(g2 g).1, (g2 g).2, p1, p2, p3, p4]
      simp only [kR, canon, canons, ekEq, numE, getW, getWord, allInts8, asInt, isK, kindEq, isArgB, strOf, cBig, cInts, cWords, allInts, allWords, r_ofLimbs, r_mkWord, Option.some.injEq, LV.wide.injEq, LV.word.injEq, LV.int.injEq, LV.bool.injEq, LV.str.injEq, LV.big.injEq, LV.tup.injEq, LV.agg.injEq, List.cons.injEq, and_true, true_and]
theorem min_if (x y : Int) : (if y < x then y else x) = min x y := by split <;> omega
def numT : Ty := .struct [.bool, .int .i64, .arr 8 (.int .u64)]
end Go.LE