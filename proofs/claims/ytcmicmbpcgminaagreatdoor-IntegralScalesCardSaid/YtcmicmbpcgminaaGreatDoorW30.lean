import Derived.Test.YtcmicmbpcgminaaGreatDoorW29
import Derived.Test.YtcmicmbpcgminaaGreatDoorLeS
set_option linter.unusedVariables false
set_option linter.unusedSimpArgs false
namespace Go.LE
open Go Go.Proofs
theorem sgn_wM {f : Int} (hf : 1 ≤ f ∧ f ≤ 4) {M : Nat} (hM : M < halfN f) (b : Bool) : sgn f (wM f M) b = fWordOf f b M := by
  have hm := wOf_mag hf hM false
  unfold magN halfN at hm
  unfold sgn wM
  rw [hm]
theorem over_dec (m : Int) (b : Bool) : overInf m b = (decide (m = 1) || (decide (m = 2) || ((decide (m = 4) && !b) || (decide (m = 5) && b)))) := by
  unfold overInf growsM
  by_cases h1 : m = 1
  · simp [h1]
  by_cases h2 : m = 2
  · simp [h2]
  by_cases h4 : m = 4
  · subst h4; cases b <;> decide
  by_cases h5 : m = 5
  · subst h5; cases b <;> decide
  simp [h1, h2, h4, h5]
theorem p_round09 : SpecOk Tryz.prog globs 62 (mkSpec real [.int .i64, .int .i64, .st [.bool, .int .i64, .big, .big, .int .i64]] (s_round09 ropsU)) := by
  have hfns : FnsOk Tryz.prog globs [(43, .spec (mkSpec real [.int .i64] (s_prec rops))), (110, .spec (mkSpec real [.st [.bool, .int .i64, .big, .big, .int .i64]] (s_top09 ropsU))), (111, .spec (mkSpec real [.st [.bool, .int .i64, .big, .big, .int .i64], .int .i64, .int .i64, .int .i64] (s_at09 ropsU))), (19, .spec (mkSpec real [.big] (s_len01 ropsH))), (41, .spec (mkSpec real [.int .i64] (s_emax rops))), (112, .spec (mkSpec real [.int .i64, .bool] (s_refInf rops))), (113, .spec (mkSpec real [.int .i64, .bool] (s_refMax rops))), (47, .spec (mkSpec real [.int .i64] (s_emin rops))), (70, .spec (mkSpec real [.int .i64, .st [.bool, .big, .int .i64]] (s_find07 ropsP))), (37, .spec (mkSpec real [.int .i64, .word, .bool] (s_signed06 ropsC)))] := (fnsCons (fnSpec (p_prec)) (fnsCons (fnSpec (p_top09)) (fnsCons (fnSpec (p_at09)) (fnsCons (fnSpec (p_len01)) (fnsCons (fnSpec (p_emax)) (fnsCons (fnSpec (p_refInf)) (fnsCons (fnSpec (p_refMax)) (fnsCons (fnSpec (p_emin)) (fnsCons (fnSpec (p_find07)) (fnsCons (fnSpec (p_signed06)) fnsNil))))))))))
  refine spec0 hfns (by kernel_rfl) Tryz.func62 (by kernel_rfl) (by kernel_rfl) (by kernel_rfl) 4 _ _ (.tup [.word, .int .i64]) ?_
  clear hfns
  generalize hEE : env0 [(43, .spec (mkSpec real [.int .i64] (s_prec rops))), (110, .spec (mkSpec real [.st [.bool, .int .i64, .big, .big, .int .i64]] (s_top09 ropsU))), (111, .spec (mkSpec real [.st [.bool, .int .i64, .big, .big, .int .i64], .int .i64, .int .i64, .int .i64] (s_at09 ropsU))), (19, .spec (mkSpec real [.big] (s_len01 ropsH))), (41, .spec (mkSpec real [.int .i64] (s_emax rops))), (112, .spec (mkSpec real [.int .i64, .bool] (s_refInf rops))), (113, .spec (mkSpec real [.int .i64, .bool] (s_refMax rops))), (47, .spec (mkSpec real [.int .i64] (s_emin rops))), (70, .spec (mkSpec real [.int .i64, .st [.bool, .big, .int .i64]] (s_find07 ropsP))), (37, .spec (mkSpec real [.int .i64, .word, .bool] (s_signed06 ropsC)))] = EE
  intro l r hl hr
  simp only [Forms, Form] at hl
  obtain ⟨_, _, rfl, ⟨x1, rfl, x1lo, x1hi⟩, _, _, rfl, ⟨x2, rfl, x2lo, x2hi⟩, _, _, rfl, ⟨_, rfl, ⟨_, _, rfl, ⟨x3_1, rfl⟩, _, _, rfl, ⟨x3_2, rfl, x3_2lo, x3_2hi⟩, _, _, rfl, ⟨x3_3, rfl, x3_3len⟩, _, _, rfl, ⟨x3_4, rfl, x3_4len⟩, _, _, rfl, ⟨x3_5, rfl, x3_5lo, x3_5hi⟩, rfl⟩⟩, rfl⟩ := hl
  subst hEE
  generalize hK : kR (.tup [.word, .int .i64]) r = K
  generalize hO : real = O
  generalize hS0 : rops = S0
  generalize hS1 : ropsB = S1
  generalize hS2 : ropsC = S2
  generalize hS3 : ropsD = S3
  generalize hS4 : ropsE = S4
  generalize hS5 : ropsF = S5
  generalize hS6 : ropsG = S6
  generalize hS7 : ropsH = S7
  generalize hS8 : ropsI = S8
  generalize hS9 : ropsJ = S9
  generalize hS10 : ropsK = S10
  generalize hS11 : ropsL = S11
  generalize hS12 : ropsM = S12
  generalize hS13 : ropsN = S13
  generalize hS14 : ropsP = S14
  generalize hS15 : ropsQ = S15
  generalize hS16 : ropsT = S16
  generalize hS17 : ropsUm = S17
  generalize hS18 : ropsU = S18
  generalize hS19 : ropsV = S19
  set_option maxRecDepth 100000 in cbv
  subst hO hK hS0 hS1 hS2 hS3 hS4 hS5 hS6 hS7 hS8 hS9 hS10 hS11 hS12 hS13 hS14 hS15 hS16 hS17 hS18 hS19
  simp only [s_round09, R.Y] at hr
  try dsimp only [real, rops, ropsB, ropsC, ropsD, ropsE, ropsF, ropsG, ropsH, ropsI, ropsJ, ropsK, ropsL, ropsM, ropsN, ropsP, ropsQ, ropsT, ropsUm, ropsU, ropsV]
  obtain ⟨hf, ⟨hk, hd⟩, ho, hr⟩ := hr
  subst hr hk hd
  dsimp only [ropsU]
  replace hf : 1 ≤ x1 ∧ x1 ≤ 4 := hf
  have ho : okR x3_3 x3_5 := ho
  have hne := ho.1
  have hTr := okR_top ho
  have hp := p_rng x1 hf
  have hE := e_rng x1 hf
  have hi := inf_pos hf
  have e1 : arithR .sub .i64 (topQ x3_3 x3_5) (fPrec x1) = topQ x3_3 x3_5 - fPrec x1 := sub_i64 (by omega) (by omega)
  have e2 : arithR .add .i64 (topQ x3_3 x3_5 - fPrec x1) 1 = topQ x3_3 x3_5 - fPrec x1 + 1 := add_i64 (by omega) (by omega)
  have hU : upQ x2 x3_1 x3_3 x3_5 (topQ x3_3 x3_5 - fPrec x1 + 1) = rdU x1 x2 x3_1 x3_3 x3_5 := rfl
  have hT : rdT x1 x2 x3_1 x3_3 x3_5 = topQ x3_3 x3_5 - fPrec x1 + lenN (rdU x1 x2 x3_1 x3_3 x3_5) := rfl
  obtain ⟨u1, u2⟩ := rdU_rng hf hne x3_5 x2 x3_1
  have hbu := bitN_pow_le u2
  have hl : 0 ≤ lenN (rdU x1 x2 x3_1 x3_3 x3_5) ∧ lenN (rdU x1 x2 x3_1 x3_3 x3_5) ≤ 114 := by
    show 0 ≤ ((bitN _ : Nat) : Int) ∧ ((bitN _ : Nat) : Int) ≤ 114
    omega
  have e3 : arithR .add .i64 (topQ x3_3 x3_5 - fPrec x1 + 1) (lenN (rdU x1 x2 x3_1 x3_3 x3_5)) = topQ x3_3 x3_5 - fPrec x1 + 1 + lenN (rdU x1 x2 x3_1 x3_3 x3_5) := add_i64 (by omega) (by omega)
  have e4 : arithR .sub .i64 (topQ x3_3 x3_5 - fPrec x1 + 1 + lenN (rdU x1 x2 x3_1 x3_3 x3_5)) 1 = rdT x1 x2 x3_1 x3_3 x3_5 := by rw [sub_i64 (by omega) (by omega)]; omega
  have hexp : expO x1 = 2 - fEMax x1 - fPrec x1 := rfl
  have e5 : arithR .sub .i64 (1 - fEMax x1) (fPrec x1) = 1 - fEMax x1 - fPrec x1 := sub_i64 (by omega) (by omega)
  have e6 : arithR .add .i64 (1 - fEMax x1 - fPrec x1) 1 = expO x1 := by rw [add_i64 (by omega) (by omega)]; omega
  rw [e1, e2, hU, e3, e4, e5, e6, gtr_dec, lss_dec]
  have hfl := floor_top hne x3_5 (P := (fPrec x1).toNat) (by omega)
  rw [show (((fPrec x1).toNat : Nat) : Int) = fPrec x1 by omega] at hfl
  have hsu : small (rdU x1 x2 x3_1 x3_3 x3_5) := small_bits (k := 4) (by omega) (by decide)
  have hXd : rdX x1 x2 x3_1 x3_3 x3_5 = if fEMax x1 < rdT x1 x2 x3_1 x3_3 x3_5 then 20 else if rdT x1 x2 x3_1 x3_3 x3_5 < 1 - fEMax x1 then (if restQ x3_3 x3_5 (expO x1) = 0 then 0 else 24) else if restQ x3_3 x3_5 (topQ x3_3 x3_5 - fPrec x1 + 1) = 0 then 0 else 16 := rfl
  rw [hXd]
  refine ⟨⟨rfl, rfl⟩, ho, ⟨rfl, rfl⟩, ⟨ho, ⟨by omega, by omega⟩, ⟨by omega, by omega⟩, hfl.2⟩, hsu, hf, imp_f fun g => ?_, imp_t fun g => ⟨hf, imp_f fun g2 => ⟨hf, ⟨rfl, rfl⟩, ⟨ho, ⟨by omega, by omega⟩, ⟨by omega, by omega⟩, ?_⟩, ?_⟩, imp_t fun g2 => ?_⟩⟩
  · rw [decide_eq_true_eq] at g
    have hW : rdW x1 x2 x3_1 x3_3 x3_5 = bif overInf x2 x3_1 then fInf x1 x3_1 else fMax x1 x3_1 := by
      unfold rdW rdMag
      rw [if_pos g]
      cases overInf x2 x3_1
      · exact (max_word x1 hf x3_1).symm
      · rfl
    rw [if_pos g, hW, over_dec]
    simp only [eql_dec]
    by_cases b1 : x2 = 1
    · simp [b1, hf, kR, canon, canons, isK, asInt, kindEq, getWord]
    by_cases b2 : x2 = 2
    · simp [b2, hf, kR, canon, canons, isK, asInt, kindEq, getWord]
    by_cases b4 : x2 = 4
    · subst b4
      cases x3_1 <;> simp [hf, kR, canon, canons, isK, asInt, kindEq, getWord]
    by_cases b5 : x2 = 5
    · subst b5
      cases x3_1 <;> simp [hf, kR, canon, canons, isK, asInt, kindEq, getWord]
    simp [b1, b2, b4, b5, hf, kR, canon, canons, isK, asInt, kindEq, getWord]
  · rw [decide_eq_true_eq] at g2
    obtain ⟨s1, s2, s3, s4, s5⟩ := rd_sub hf hne g2
    exact floor_low hne (by omega)
  · rw [decide_eq_false_iff_not] at g
    rw [decide_eq_true_eq] at g2
    obtain ⟨s1, s2, s3, s4, s5⟩ := rd_sub hf hne g2
    have hbs := bitN_pow_le s2
    have okn : okN (upQ x2 x3_1 x3_3 x3_5 (expO x1)) (expO x1) := ⟨by rw [← s1]; omega, by omega, by omega⟩
    rw [if_neg g, if_pos g2, s4, sgn_wM hf (by omega)]
    refine ⟨imp_f fun h => ⟨hf, okn, hf, ?_⟩, imp_t fun h => ⟨hf, okn, hf, ?_⟩⟩
    · rw [Bool.not_eq_true', decide_eq_false_iff_not] at h
      rw [if_neg h]
      simp only [kR, canon, canons, ekEq, numE, getW, getWord, allInts8, asInt, isK, kindEq, isArgB, strOf, cBig, cInts, cWords, allInts, allWords, r_ofLimbs, r_mkWord, Option.some.injEq, LV.wide.injEq, LV.word.injEq, LV.int.injEq, LV.bool.injEq, LV.str.injEq, LV.big.injEq, LV.tup.injEq, LV.agg.injEq, List.cons.injEq, and_true, true_and]
      rfl
    · rw [Bool.not_eq_false', decide_eq_true_eq] at h
      rw [if_pos h]
      simp only [kR, canon, canons, ekEq, numE, getW, getWord, allInts8, asInt, isK, kindEq, isArgB, strOf, cBig, cInts, cWords, allInts, allWords, r_ofLimbs, r_mkWord, Option.some.injEq, LV.wide.injEq, LV.word.injEq, LV.int.injEq, LV.bool.injEq, LV.str.injEq, LV.big.injEq, LV.tup.injEq, LV.agg.injEq, List.cons.injEq, and_true, true_and]
      rfl
  · rw [decide_eq_false_iff_not] at g g2
    obtain ⟨n1, n2, _, _⟩ := rd_normal hf hne (g := x3_5) (m := x2) (neg := x3_1) (by omega) (by omega)
    have okn : okN (rdU x1 x2 x3_1 x3_3 x3_5) (topQ x3_3 x3_5 - fPrec x1 + 1) := ⟨by omega, by omega, by omega⟩
    rw [if_neg g, if_neg g2, n2, sgn_wM hf (by omega)]
    refine ⟨imp_f fun h => ⟨hf, okn, hf, ?_⟩, imp_t fun h => ⟨hf, okn, hf, ?_⟩⟩
    · rw [Bool.not_eq_true', decide_eq_false_iff_not] at h
      rw [if_neg h]
      simp only [kR, canon, canons, ekEq, numE, getW, getWord, allInts8, asInt, isK, kindEq, isArgB, strOf, cBig, cInts, cWords, allInts, allWords, r_ofLimbs, r_mkWord, Option.some.injEq, LV.wide.injEq, LV.word.injEq, LV.int.injEq, LV.bool.injEq, LV.str.injEq, LV.big.injEq, LV.tup.injEq, LV.agg.injEq, List.cons.injEq, and_true, true_and]
      rfl
    · rw [Bool.not_eq_false', decide_eq_true_eq] at h
      rw [if_pos h]
      simp only [kR, canon, canons, ekEq, numE, getW, getWord, allInts8, asInt, isK, kindEq, isArgB, strOf, cBig, cInts, cWords, allInts, allWords, r_ofLimbs, r_mkWord, Option.some.injEq, LV.wide.injEq, LV.word.injEq, LV.int.injEq, LV.bool.injEq, LV.str.injEq, LV.big.injEq, LV.tup.injEq, LV.agg.injEq, List.cons.injEq, and_true, true_and]
      rfl
end Go.LE