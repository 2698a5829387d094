import Derived.Test.YtcmicmbpcgminaaGreatDoorW18
import Derived.Test.YtcmicmbpcgminaaGreatDoorLeP
set_option linter.unusedVariables false
set_option linter.unusedSimpArgs false
namespace Go.LE
open Go Go.Proofs
structure OpsM where
  fin : Int → BitVec 128 → Prop
  vNeg : Int → BitVec 128 → Bool
  vExp : Int → BitVec 128 → Int
  vSig : Int → BitVec 128 → W
  sg : Bool → Nat → Int
  sml : Nat → Prop
  okN : Nat → Int → Prop
  cmp : Bool → Nat → Int → Bool → Nat → Int → Int
  eqI : Int → Int → Prop
noncomputable def ropsM : OpsM where
  fin := fun f w => wFin f w = true
  vNeg := vNeg
  vExp := vExp
  vSig := vSig
  sg := sgN
  sml := small
  okN := okN
  cmp := cmp7
  eqI := fun a b => a = b
def s_value07 (S : OpsM) : List LV → R LV
  | [.int _ f, .word w] => .req (S.fin f w) (.ok (.agg [.bool (S.vNeg f w), .int .i64 (S.vExp f w), .wide (S.vSig f w)]))
  | _ => .fail
def s_sign07 (S : OpsM) : List LV → R LV
  | [.agg [.bool b, .big a, .int _ _]] => .req (S.sml a) (.ok (.int .i64 (S.sg b a)))
  | _ => .fail
def s_cmp07 (S : OpsM) : List LV → R LV
  | [.agg [.bool b, .big a, .int _ e], .agg [.bool c, .big d, .int _ g]] => .req (S.okN a e) (.req (S.okN d g) (.ok (.int .i64 (S.cmp b a e c d g))))
  | _ => .fail
def s_precL (f0 : Int) (S : OpsM) : List LV → R LV
  | [.int _ f] => .req (S.eqI f f0) (.ok (.lit .i64 (fPrec f0)))
  | _ => .fail
def s_eminL (f0 : Int) (S : OpsM) : List LV → R LV
  | [.int _ f] => .req (S.eqI f f0 ∧ (1 ≤ f0 ∧ f0 ≤ 4)) (.ok (.lit .i64 (1 - fEMax f0)))
  | _ => .fail
def s_value07At (f0 : Int) (S : OpsM) : List LV → R LV
  | [.int _ f, .word w] => .req (S.eqI f f0) (.req (S.fin f w) (.ok (.agg [.bool (S.vNeg f w), .int .i64 (S.vExp f w), .wide (S.vSig f w)])))
  | _ => .fail
theorem p_precL (f0 : Int) : SpecOk Tryz.prog globs 43 (mkSpec real [.int .i64] (s_precL f0 ropsM)) := by
  refine spec_as p_prec ?_
  intro l r h
  unfold s_precL at h
  split at h
  · rename_i k f
    obtain ⟨h1, rfl⟩ := h
    have h1 : f = f0 := h1
    subst h1
    exact ⟨_, rfl, same_lit _ _⟩
  · exact h.elim
theorem p_eminL (f0 : Int) : SpecOk Tryz.prog globs 47 (mkSpec real [.int .i64] (s_eminL f0 ropsM)) := by
  refine spec_as p_emin ?_
  intro l r h
  unfold s_eminL at h
  split at h
  · rename_i k f
    obtain ⟨⟨h1, h2⟩, rfl⟩ := h
    have h1 : f = f0 := h1
    subst h1
    exact ⟨_, ⟨h2, rfl⟩, same_lit _ _⟩
  · exact h.elim
theorem p_value07At (f0 : Int) (hf0 : 1 ≤ f0 ∧ f0 ≤ 4) : SpecOk Tryz.prog globs 13 (mkSpec real [.int .i64, .word] (s_value07At f0 ropsM)) := by
  have hfns : FnsOk Tryz.prog globs [(39, .spec (mkSpec real [.int .i64, .word] (s_field06 ropsC))), (32, .spec (mkSpec real [.int .i64, .word] (s_neg06 ropsC))), (40, .spec (mkSpec real [.int .i64, .word] (s_frac06 ropsC))), (47, .spec (mkSpec real [.int .i64] (s_eminL f0 ropsM))), (43, .spec (mkSpec real [.int .i64] (s_precL f0 ropsM)))] := (fnsCons (fnSpec (p_field06)) (fnsCons (fnSpec (p_neg06)) (fnsCons (fnSpec (p_frac06)) (fnsCons (fnSpec (p_eminL f0)) (fnsCons (fnSpec (p_precL f0)) fnsNil)))))
  refine spec0' hfns (by kernel_rfl) Tryz.func13 (by kernel_rfl) (by kernel_rfl) (by kernel_rfl) 4 _ _ (.st [.bool, .int .i64, .wide]) ?_
  clear hfns
  generalize hEE : env0 [(39, .spec (mkSpec real [.int .i64, .word] (s_field06 ropsC))), (32, .spec (mkSpec real [.int .i64, .word] (s_neg06 ropsC))), (40, .spec (mkSpec real [.int .i64, .word] (s_frac06 ropsC))), (47, .spec (mkSpec real [.int .i64] (s_eminL f0 ropsM))), (43, .spec (mkSpec real [.int .i64] (s_precL f0 ropsM)))] = EE
  intro l r hl hr
  simp only [Forms, Form] at hl
  obtain ⟨_, _, rfl, ⟨x1, rfl, x1lo, x1hi⟩, _, _, rfl, ⟨x2, rfl⟩, rfl⟩ := hl
  subst hEE
  obtain ⟨he, hq, hr⟩ := hr
  have hr : r = _ := hr.symm
  subst hr
  have hfin : wFin x1 x2 = true := hq
  have he : x1 = f0 := he
  subst he
  obtain ⟨hF, hf⟩ := fin_fits hfin
  obtain ⟨v1, v2⟩ := val_exp hfin
  obtain ⟨f0, f1, _⟩ := fin_fld hfin
  have en : vNeg x1 x2 = wNeg x1 x2 := by unfold vNeg; rw [hfin]; rfl
  obtain ⟨s1, s2⟩ := vSig_nat hfin
  rcases f_cases hf with rfl | rfl | rfl | rfl
  · refine ⟨[.lit .i64 1, .word x2], ⟨same_lit _ _, same_refl _, trivial⟩, ?_⟩
    (generalize hK : kR _ _ = K; generalize hO : real = O; generalize hS0 : rops = S0; generalize hS1 : ropsB = S1; generalize hS2 : ropsC = S2; generalize hS3 : ropsD = S3; generalize hS4 : ropsE = S4; generalize hS5 : ropsF = S5; generalize hS6 : ropsG = S6; generalize hS7 : ropsH = S7; generalize hS8 : ropsI = S8; generalize hS9 : ropsJ = S9; generalize hS10 : ropsK = S10; generalize hS11 : ropsL = S11; generalize hS12 : ropsM = S12; set_option maxRecDepth 100000 in cbv; subst hO hK hS0 hS1 hS2 hS3 hS4 hS5 hS6 hS7 hS8 hS9 hS10 hS11 hS12; dsimp only [real, rops, ropsB, ropsC, ropsD, ropsE, ropsF, ropsG, ropsH, ropsI, ropsJ, ropsK, ropsL, ropsM])
    have c1 : fEMax 1 = 15 := rfl
    have c2 : fPrec 1 = 11 := rfl
    refine ⟨by decide, by decide, ⟨rfl, trivial⟩, rfl, imp_f fun g => ⟨rfl, ?_⟩, imp_t fun g => ?_⟩
    · rw [c_gtr_t] at g
      have hx : vExp 1 x2 = bFld 1 x2 - 1 + (-24) := by unfold vExp; rw [hfin, cond_true, if_pos g]; omega
      have hsg := (v1 g).2
      have hb := add_bit0 (k := 10) (c := 1024) (by decide) (by decide) s2
      rw [add_i64 (by omega) (by omega), sub_i64 (by omega) (by omega)]
      simp only [kR, canon, canons, ekEq, numE, getW, getWord, allInts8, asInt, isK, kindEq, isArgB, strOf, cBig, cInts, cWords, allInts, allWords, r_ofLimbs, r_mkWord, Option.some.injEq, LV.wide.injEq, LV.word.injEq, LV.int.injEq, LV.bool.injEq, LV.str.injEq, LV.big.injEq, LV.tup.injEq, LV.agg.injEq, List.cons.injEq, and_true, true_and]
      refine ⟨en.symm, by omega, ?_⟩
      rw [← hsg]
      exact hb
    · rw [c_gtr_f] at g
      have hx : vExp 1 x2 = (-24) := by unfold vExp; rw [hfin, cond_true, if_neg (by omega)]; omega
      have hsg := (v2 g).2
      simp only [kR, canon, canons, ekEq, numE, getW, getWord, allInts8, asInt, isK, kindEq, isArgB, strOf, cBig, cInts, cWords, allInts, allWords, r_ofLimbs, r_mkWord, Option.some.injEq, LV.wide.injEq, LV.word.injEq, LV.int.injEq, LV.bool.injEq, LV.str.injEq, LV.big.injEq, LV.tup.injEq, LV.agg.injEq, List.cons.injEq, and_true, true_and]
      exact ⟨en.symm, hx.symm, hsg⟩
  · refine ⟨[.lit .i64 2, .word x2], ⟨same_lit _ _, same_refl _, trivial⟩, ?_⟩
    (generalize hK : kR _ _ = K; generalize hO : real = O; generalize hS0 : rops = S0; generalize hS1 : ropsB = S1; generalize hS2 : ropsC = S2; generalize hS3 : ropsD = S3; generalize hS4 : ropsE = S4; generalize hS5 : ropsF = S5; generalize hS6 : ropsG = S6; generalize hS7 : ropsH = S7; generalize hS8 : ropsI = S8; generalize hS9 : ropsJ = S9; generalize hS10 : ropsK = S10; generalize hS11 : ropsL = S11; generalize hS12 : ropsM = S12; set_option maxRecDepth 100000 in cbv; subst hO hK hS0 hS1 hS2 hS3 hS4 hS5 hS6 hS7 hS8 hS9 hS10 hS11 hS12; dsimp only [real, rops, ropsB, ropsC, ropsD, ropsE, ropsF, ropsG, ropsH, ropsI, ropsJ, ropsK, ropsL, ropsM])
    have c1 : fEMax 2 = 127 := rfl
    have c2 : fPrec 2 = 24 := rfl
    refine ⟨by decide, by decide, ⟨rfl, trivial⟩, rfl, imp_f fun g => ⟨rfl, ?_⟩, imp_t fun g => ?_⟩
    · rw [c_gtr_t] at g
      have hx : vExp 2 x2 = bFld 2 x2 - 1 + (-149) := by unfold vExp; rw [hfin, cond_true, if_pos g]; omega
      have hsg := (v1 g).2
      have hb := add_bit0 (k := 23) (c := 8388608) (by decide) (by decide) s2
      rw [add_i64 (by omega) (by omega), sub_i64 (by omega) (by omega)]
      simp only [kR, canon, canons, ekEq, numE, getW, getWord, allInts8, asInt, isK, kindEq, isArgB, strOf, cBig, cInts, cWords, allInts, allWords, r_ofLimbs, r_mkWord, Option.some.injEq, LV.wide.injEq, LV.word.injEq, LV.int.injEq, LV.bool.injEq, LV.str.injEq, LV.big.injEq, LV.tup.injEq, LV.agg.injEq, List.cons.injEq, and_true, true_and]
      refine ⟨en.symm, by omega, ?_⟩
      rw [← hsg]
      exact hb
    · rw [c_gtr_f] at g
      have hx : vExp 2 x2 = (-149) := by unfold vExp; rw [hfin, cond_true, if_neg (by omega)]; omega
      have hsg := (v2 g).2
      simp only [kR, canon, canons, ekEq, numE, getW, getWord, allInts8, asInt, isK, kindEq, isArgB, strOf, cBig, cInts, cWords, allInts, allWords, r_ofLimbs, r_mkWord, Option.some.injEq, LV.wide.injEq, LV.word.injEq, LV.int.injEq, LV.bool.injEq, LV.str.injEq, LV.big.injEq, LV.tup.injEq, LV.agg.injEq, List.cons.injEq, and_true, true_and]
      exact ⟨en.symm, hx.symm, hsg⟩
  · refine ⟨[.lit .i64 3, .word x2], ⟨same_lit _ _, same_refl _, trivial⟩, ?_⟩
    (generalize hK : kR _ _ = K; generalize hO : real = O; generalize hS0 : rops = S0; generalize hS1 : ropsB = S1; generalize hS2 : ropsC = S2; generalize hS3 : ropsD = S3; generalize hS4 : ropsE = S4; generalize hS5 : ropsF = S5; generalize hS6 : ropsG = S6; generalize hS7 : ropsH = S7; generalize hS8 : ropsI = S8; generalize hS9 : ropsJ = S9; generalize hS10 : ropsK = S10; generalize hS11 : ropsL = S11; generalize hS12 : ropsM = S12; set_option maxRecDepth 100000 in cbv; subst hO hK hS0 hS1 hS2 hS3 hS4 hS5 hS6 hS7 hS8 hS9 hS10 hS11 hS12; dsimp only [real, rops, ropsB, ropsC, ropsD, ropsE, ropsF, ropsG, ropsH, ropsI, ropsJ, ropsK, ropsL, ropsM])
    have c1 : fEMax 3 = 1023 := rfl
    have c2 : fPrec 3 = 53 := rfl
    refine ⟨by decide, by decide, ⟨rfl, trivial⟩, rfl, imp_f fun g => ⟨rfl, ?_⟩, imp_t fun g => ?_⟩
    · rw [c_gtr_t] at g
      have hx : vExp 3 x2 = bFld 3 x2 - 1 + (-1074) := by unfold vExp; rw [hfin, cond_true, if_pos g]; omega
      have hsg := (v1 g).2
      have hb := add_bit0 (k := 52) (c := 4503599627370496) (by decide) (by decide) s2
      rw [add_i64 (by omega) (by omega), sub_i64 (by omega) (by omega)]
      simp only [kR, canon, canons, ekEq, numE, getW, getWord, allInts8, asInt, isK, kindEq, isArgB, strOf, cBig, cInts, cWords, allInts, allWords, r_ofLimbs, r_mkWord, Option.some.injEq, LV.wide.injEq, LV.word.injEq, LV.int.injEq, LV.bool.injEq, LV.str.injEq, LV.big.injEq, LV.tup.injEq, LV.agg.injEq, List.cons.injEq, and_true, true_and]
      refine ⟨en.symm, by omega, ?_⟩
      rw [← hsg]
      exact hb
    · rw [c_gtr_f] at g
      have hx : vExp 3 x2 = (-1074) := by unfold vExp; rw [hfin, cond_true, if_neg (by omega)]; omega
      have hsg := (v2 g).2
      simp only [kR, canon, canons, ekEq, numE, getW, getWord, allInts8, asInt, isK, kindEq, isArgB, strOf, cBig, cInts, cWords, allInts, allWords, r_ofLimbs, r_mkWord, Option.some.injEq, LV.wide.injEq, LV.word.injEq, LV.int.injEq, LV.bool.injEq, LV.str.injEq, LV.big.injEq, LV.tup.injEq, LV.agg.injEq, List.cons.injEq, and_true, true_and]
      exact ⟨en.symm, hx.symm, hsg⟩
  · refine ⟨[.lit .i64 4, .word x2], ⟨same_lit _ _, same_refl _, trivial⟩, ?_⟩
    (generalize hK : kR _ _ = K; generalize hO : real = O; generalize hS0 : rops = S0; generalize hS1 : ropsB = S1; generalize hS2 : ropsC = S2; generalize hS3 : ropsD = S3; generalize hS4 : ropsE = S4; generalize hS5 : ropsF = S5; generalize hS6 : ropsG = S6; generalize hS7 : ropsH = S7; generalize hS8 : ropsI = S8; generalize hS9 : ropsJ = S9; generalize hS10 : ropsK = S10; generalize hS11 : ropsL = S11; generalize hS12 : ropsM = S12; set_option maxRecDepth 100000 in cbv; subst hO hK hS0 hS1 hS2 hS3 hS4 hS5 hS6 hS7 hS8 hS9 hS10 hS11 hS12; dsimp only [real, rops, ropsB, ropsC, ropsD, ropsE, ropsF, ropsG, ropsH, ropsI, ropsJ, ropsK, ropsL, ropsM])
    have c1 : fEMax 4 = 16383 := rfl
    have c2 : fPrec 4 = 113 := rfl
    refine ⟨by decide, by decide, ⟨rfl, trivial⟩, rfl, imp_f fun g => ⟨rfl, ?_⟩, imp_t fun g => ?_⟩
    · rw [c_gtr_t] at g
      have hx : vExp 4 x2 = bFld 4 x2 - 1 + (-16494) := by unfold vExp; rw [hfin, cond_true, if_pos g]; omega
      have hsg := (v1 g).2
      have hb := add_bit1 (k := 48) (c := 281474976710656) (by decide) (by decide) s2
      rw [add_i64 (by omega) (by omega), sub_i64 (by omega) (by omega)]
      simp only [kR, canon, canons, ekEq, numE, getW, getWord, allInts8, asInt, isK, kindEq, isArgB, strOf, cBig, cInts, cWords, allInts, allWords, r_ofLimbs, r_mkWord, Option.some.injEq, LV.wide.injEq, LV.word.injEq, LV.int.injEq, LV.bool.injEq, LV.str.injEq, LV.big.injEq, LV.tup.injEq, LV.agg.injEq, List.cons.injEq, and_true, true_and]
      refine ⟨en.symm, by omega, ?_⟩
      rw [← hsg]
      exact hb
    · rw [c_gtr_f] at g
      have hx : vExp 4 x2 = (-16494) := by unfold vExp; rw [hfin, cond_true, if_neg (by omega)]; omega
      have hsg := (v2 g).2
      simp only [kR, canon, canons, ekEq, numE, getW, getWord, allInts8, asInt, isK, kindEq, isArgB, strOf, cBig, cInts, cWords, allInts, allWords, r_ofLimbs, r_mkWord, Option.some.injEq, LV.wide.injEq, LV.word.injEq, LV.int.injEq, LV.bool.injEq, LV.str.injEq, LV.big.injEq, LV.tup.injEq, LV.agg.injEq, List.cons.injEq, and_true, true_and]
      exact ⟨en.symm, hx.symm, hsg⟩
theorem p_value07 : SpecOk Tryz.prog globs 13 (mkSpec real [.int .i64, .word] (s_value07 ropsM)) := by
  refine spec_fam (ι := Int) (g := fun i => s_value07At i ropsM) 1 (fun i => 1 ≤ i ∧ i ≤ 4) (by decide) (fun i hi => p_value07At i hi) ?_
  intro l r hl hr
  simp only [Forms, Form] at hl
  obtain ⟨_, _, rfl, ⟨f, rfl, _⟩, _, _, rfl, ⟨w, rfl⟩, rfl⟩ := hl
  have hfin : wFin f w = true := hr.1
  exact ⟨f, (fin_fits hfin).2, rfl, hr.1, hr.2⟩
end Go.LE