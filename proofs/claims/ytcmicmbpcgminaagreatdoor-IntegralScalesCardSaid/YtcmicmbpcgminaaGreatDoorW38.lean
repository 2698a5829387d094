import Derived.Test.YtcmicmbpcgminaaGreatDoorW32
import Derived.Test.YtcmicmbpcgminaaGreatDoorLeV
set_option linter.unusedVariables false
set_option linter.unusedSimpArgs false
namespace Go.LE
open Go Go.Proofs
def scWord (f m : Int) (w : BitVec 128) (n : Int) : BitVec 128 := bif irOk f m w then (bif nanIs f [w] then nanV f [w] else bif irSome f w then rdW f m (wNeg f w) (vSig f w).toNat (vExp f w + clB n) else w) else 0
def scX (f m : Int) (w : BitVec 128) (n : Int) : Int := bif irOk f m w then (bif nanIs f [w] then nanX f [w] else bif irSome f w then rdX f m (wNeg f w) (vSig f w).toNat (vExp f w + clB n) else 0) else 0
def lgI (f : Int) (w : BitVec 128) : Int := bif irSome f w then topQ (vSig f w).toNat (vExp f w) else 0
structure OpsSc where
  scW : Int → Int → BitVec 128 → Int → BitVec 128
  scX : Int → Int → BitVec 128 → Int → Int
  scE : Int → Int → BitVec 128 → Int
  lgI : Int → BitVec 128 → Int
  lgB : Int → BitVec 128 → Bool
  some_ : Int → BitVec 128 → Prop
  isM : Int → Prop
  isF : Int → Prop
  someF : Int → BitVec 128 → Prop
  nr : Int → Prop
  rw_ : Int → Int → BitVec 128 → Int → BitVec 128
  rx_ : Int → Int → BitVec 128 → Int → Int
noncomputable def ropsSc : OpsSc where
  scW := scWord
  scX := scX
  scE := irE
  lgI := lgI
  lgB := irSome
  some_ := fun f w => irSome f w = true
  isM := fun m => isM m = true
  isF := fun m => isM m = false
  someF := fun f w => irSome f w = false
  nr := fun n => -100000 ≤ n ∧ n ≤ 100000
  rw_ := fun f m w n => rdW f m (wNeg f w) (vSig f w).toNat (vExp f w + n)
  rx_ := fun f m w n => rdX f m (wNeg f w) (vSig f w).toNat (vExp f w + n)
def s_iscale (S : OpsSc) : List LV → R LV
  | [.int _ f, .int _ m, .word w, .int _ n] => .ok (.tup [.word (S.scW f m w n), .int .i64 (S.scX f m w n), .int .i64 (S.scE f m w)])
  | _ => .fail
def s_ilog (S : OpsSc) : List LV → R LV
  | [.int _ f, .word w] => .ok (.tup [.int .i64 (S.lgI f w), .bool (S.lgB f w)])
  | _ => .fail
def s_scale32 (S : OpsSc) : List LV → R LV
  | [.int _ f, .int _ m, .word w, .int _ n] => .req (S.some_ f w) (.req (S.isM m) (.req (S.nr n) (.ok (.tup [.word (S.rw_ f m w n), .int .i64 (S.rx_ f m w n)]))))
  | _ => .fail
def s_some32Y (S : OpsSc) : List LV → R LV
  | [.int _ f, .word w] => .req (S.some_ f w) (.ok (.blit true))
  | _ => .fail
def s_some32N (S : OpsSc) : List LV → R LV
  | [.int _ f, .word w] => .req (S.someF f w) (.ok (.blit false))
  | _ => .fail
def s_IntegralScalesA (S : OpsSc) : List LV → R LV
  | [.agg [.int _ _, .int _ m], .word _, .int _ _] => .req (S.isF m) (.ok (.bool true))
  | _ => .fail
def s_IntegralScalesB (S : OpsSc) : List LV → R LV
  | [.agg [.int _ f, .int _ m], .word w, .int _ _] => .req (S.isM m ∧ S.some_ f w) (.ok (.bool true))
  | _ => .fail
def s_IntegralScalesC (S : OpsSc) : List LV → R LV
  | [.agg [.int _ f, .int _ m], .word w, .int _ _] => .req (S.isM m ∧ S.someF f w) (.ok (.bool true))
  | _ => .fail
def s_IntegralScales (_ : OpsSc) : List LV → R LV := fun _ => .ok (.bool true)
theorem cl_if (n L M : Int) (h : M ≤ L) : (if (if n < L then n else L) > M then (if n < L then n else L) else M) = max M (min L n) := by
  by_cases q : n < L
  · simp only [if_pos q]; split <;> omega
  · simp only [if_neg q]; split <;> omega
theorem sc_round {f m : Int} {w : BitVec 128} (hs : irSome f w = true) (hm : isM m = true) (n : Int) :
    rW f m (vNeg f w) (vExp f w + clA n) (vSig f w) false = rdW f m (wNeg f w) (vSig f w).toNat (vExp f w + clB n) ∧ rX f m (vNeg f w) (vExp f w + clA n) (vSig f w) false = rdX f m (wNeg f w) (vSig f w).toNat (vExp f w + clB n) := by
  obtain ⟨hfin, hz⟩ : wFin f w = true ∧ vSig f w ≠ 0 := by
    unfold irSome at hs
    simp only [Bool.and_eq_true, Bool.not_eq_true', decide_eq_false_iff_not] at hs
    exact hs
  obtain ⟨hF, hf⟩ := fin_fits hfin
  have hp := p_rng f hf
  have hrg := vExp_rng hfin
  have hv : vNeg f w = wNeg f w := by unfold vNeg; rw [hfin]; rfl
  have hzn : (vSig f w).toNat ≠ 0 := fun hh => hz (by rw [w_zero]; exact hh)
  have hlt := vSig_lt hfin
  have hcl : -262144 ≤ clA n ∧ clA n ≤ 262144 := by unfold clA; omega
  have hl : wLen (vSig f w) ≤ 511 := by
    have : bitN (vSig f w).toNat ≤ (fPrec f).toNat := bitN_le.2 hlt
    rw [← bitN_wLen]
    omega
  have ho : rOk f m (vExp f w + clA n) (vSig f w) false = true := by
    unfold rOk rightN
    rw [hm, show fOk f = true from decide_eq_true hf, decide_eq_true (show 1 ≤ fPrec f ∧ fPrec f ≤ 500 by omega), show rgtE (vExp f w + clA n) = true from decide_eq_true (by omega), decide_eq_true hl]
    rfl
  obtain ⟨c1, c2⟩ := cl_same hf hzn (n := n) (m := m) (b := wNeg f w) hrg
  unfold rW rX
  rw [ho, hv, cond_true, cond_true, if_neg hz, if_neg hz]
  exact ⟨c1, c2⟩
theorem p_iscale : SpecOk Tryz.prog globs 16 (mkSpec real [.int .i64, .int .i64, .word, .int .i64] (s_iscale ropsSc)) := by
  have hfns : FnsOk Tryz.prog globs [(49, inlF Tryz.f49), (50, inlF Tryz.f50), (87, .spec (mkSpec real [.int .i64] (s_mIs ropsT))), (88, .spec (mkSpec real [.int .i64, .word] (s_fits ropsB))), (96, .spec (mkSpec real [.int .i64, .words] (s_nanOf ropsG))), (44, .spec (mkSpec real [.int .i64, .word] (s_value ropsL))), (51, .spec (mkSpec real [.int .i64, .int .i64, .st [.bool, .int .i64, .wide], .bool] (s_round ropsT)))] := (fnsCons (inl_ok Tryz.func49 (by kernel_rfl) (by kernel_rfl)) (fnsCons (inl_ok Tryz.func50 (by kernel_rfl) (by kernel_rfl)) (fnsCons (fnSpec (p_mIs)) (fnsCons (fnSpec (p_fits)) (fnsCons (fnSpec (p_nanOf)) (fnsCons (fnSpec (p_value)) (fnsCons (fnSpec (p_round)) fnsNil)))))))
  refine spec0 hfns (by kernel_rfl) Tryz.func16 (by kernel_rfl) (by kernel_rfl) (by kernel_rfl) 6 _ _ (.tup [.word, .int .i64, .int .i64]) ?_
  clear hfns
  generalize hEE : env0 [(49, inlF Tryz.f49), (50, inlF Tryz.f50), (87, .spec (mkSpec real [.int .i64] (s_mIs ropsT))), (88, .spec (mkSpec real [.int .i64, .word] (s_fits ropsB))), (96, .spec (mkSpec real [.int .i64, .words] (s_nanOf ropsG))), (44, .spec (mkSpec real [.int .i64, .word] (s_value ropsL))), (51, .spec (mkSpec real [.int .i64, .int .i64, .st [.bool, .int .i64, .wide], .bool] (s_round ropsT)))] = EE
  intro l r hl hr
  simp only [Forms, Form] at hl
  obtain ⟨_, _, rfl, ⟨x1, rfl, x1lo, x1hi⟩, _, _, rfl, ⟨x2, rfl, x2lo, x2hi⟩, _, _, rfl, ⟨x3, rfl⟩, _, _, rfl, ⟨x4, rfl, x4lo, x4hi⟩, rfl⟩ := hl
  subst hEE
  generalize hK : kR (.tup [.word, .int .i64, .int .i64]) r = K
  generalize hO : real = O
  generalize hS0 : rops = S0
  generalize hS1 : ropsB = S1
  generalize hS2 : ropsC = S2
  generalize hS3 : ropsD = S3
  generalize hS4 : ropsE = S4
  generalize hS5 : ropsF = S5
  generalize hS6 : ropsG = S6
  generalize hS7 : ropsH = S7
  generalize hS8 : ropsI = S8
  generalize hS9 : ropsJ = S9
  generalize hS10 : ropsK = S10
  generalize hS11 : ropsL = S11
  generalize hS12 : ropsM = S12
  generalize hS13 : ropsN = S13
  generalize hS14 : ropsP = S14
  generalize hS15 : ropsQ = S15
  generalize hS16 : ropsT = S16
  generalize hS17 : ropsUm = S17
  generalize hS18 : ropsU = S18
  generalize hS19 : ropsV = S19
  generalize hS20 : ropsW = S20
  generalize hS21 : ropsQs = S21
  generalize hS22 : ropsX = S22
  generalize hS23 : ropsSc = S23
  set_option maxRecDepth 100000 in cbv
  subst hO hK hS0 hS1 hS2 hS3 hS4 hS5 hS6 hS7 hS8 hS9 hS10 hS11 hS12 hS13 hS14 hS15 hS16 hS17 hS18 hS19 hS20 hS21 hS22 hS23
  simp only [s_iscale, R.Y] at hr
  subst hr
  try dsimp only [real, rops, ropsB, ropsC, ropsD, ropsE, ropsF, ropsG, ropsH, ropsI, ropsJ, ropsK, ropsL, ropsM, ropsN, ropsP, ropsQ, ropsT, ropsUm, ropsU, ropsV, ropsW, ropsQs, ropsX, ropsSc]
  have leaf0 : irOk x1 x2 x3 = false → kR (AT.tup [AT.word, AT.int IntKind.i64, AT.int IntKind.i64]) (LV.tup [LV.word (scWord x1 x2 x3 x4), LV.int IntKind.i64 (scX x1 x2 x3 x4), LV.int IntKind.i64 (irE x1 x2 x3)])
      (LV.tup [LV.agg [LV.lit IntKind.u64 0, LV.lit IntKind.u64 0], LV.lit IntKind.i64 0, LV.lit IntKind.i64 1]) := fun h => by
    unfold scWord scX irE
    rw [h]
    simp only [kR, canon, canons, ekEq, numE, getW, getWord, allInts8, asInt, isK, kindEq, isArgB, strOf, cBig, cInts, cWords, allInts, allWords, r_ofLimbs, r_mkWord, Option.some.injEq, LV.wide.injEq, LV.word.injEq, LV.int.injEq, LV.bool.injEq, LV.str.injEq, LV.big.injEq, LV.tup.injEq, LV.agg.injEq, List.cons.injEq, and_true, true_and]
    exact ⟨mkWord_0, rfl, rfl⟩
  cases hm : isM x2 with
  | false => exact ⟨imp_f fun _ => leaf0 (by unfold irOk; rw [hm]; rfl), imp_t fun h => by simp at h⟩
  | true =>
    refine ⟨imp_f fun h => by simp at h, imp_t fun _ => ?_⟩
    cases hF : fFits x1 x3 with
    | false => exact ⟨imp_f fun _ => leaf0 (by unfold irOk; rw [hm, hF]; rfl), imp_t fun h => by simp at h⟩
    | true =>
      refine ⟨imp_f fun h => by simp at h, imp_t fun _ => ?_⟩
      have ho : irOk x1 x2 x3 = true := by unfold irOk; rw [hm, hF]; rfl
      have he : irE x1 x2 x3 = 0 := by unfold irE; rw [ho]; rfl
      rw [ofLimbs_0, he, cl_if x4 262144 (-262144) (by decide), show max (-262144) (min 262144 x4) = clA x4 from rfl]
      have hcl : -262144 ≤ clA x4 ∧ clA x4 ≤ 262144 := by unfold clA; omega
      cases hn : nanIs x1 [x3] with
      | true =>
        refine ⟨imp_f fun _ => ?_, imp_t fun h => (by cases h)⟩
        unfold scWord scX
        rw [ho, hn]
        simp only [kR, canon, canons, ekEq, numE, getW, getWord, allInts8, asInt, isK, kindEq, isArgB, strOf, cBig, cInts, cWords, allInts, allWords, r_ofLimbs, r_mkWord, Option.some.injEq, LV.wide.injEq, LV.word.injEq, LV.int.injEq, LV.bool.injEq, LV.str.injEq, LV.big.injEq, LV.tup.injEq, LV.agg.injEq, List.cons.injEq, and_true, true_and]
        exact ⟨rfl, rfl⟩
      | false =>
        refine ⟨imp_f fun h => (by cases h), imp_t fun _ => ?_⟩
        cases hfin : wFin x1 x3 with
        | false =>
          refine ⟨imp_f fun _ => ?_, imp_t fun h => by simp at h⟩
          have hs : irSome x1 x3 = false := by unfold irSome; rw [hfin]; rfl
          unfold scWord scX
          rw [ho, hn, hs]
          simp only [kR, canon, canons, ekEq, numE, getW, getWord, allInts8, asInt, isK, kindEq, isArgB, strOf, cBig, cInts, cWords, allInts, allWords, r_ofLimbs, r_mkWord, Option.some.injEq, LV.wide.injEq, LV.word.injEq, LV.int.injEq, LV.bool.injEq, LV.str.injEq, LV.big.injEq, LV.tup.injEq, LV.agg.injEq, List.cons.injEq, and_true, true_and]
          exact ⟨rfl, rfl⟩
        | true =>
          refine ⟨imp_f fun h => by simp at h, imp_t fun _ => ?_⟩
          have hr := vExp_rng hfin
          refine ⟨imp_f fun hz => ?_, imp_t fun hz => ?_⟩
          · have hs : irSome x1 x3 = false := by unfold irSome; rw [hfin, hz]; rfl
            unfold scWord scX
            rw [ho, hn, hs]
            simp only [kR, canon, canons, ekEq, numE, getW, getWord, allInts8, asInt, isK, kindEq, isArgB, strOf, cBig, cInts, cWords, allInts, allWords, r_ofLimbs, r_mkWord, Option.some.injEq, LV.wide.injEq, LV.word.injEq, LV.int.injEq, LV.bool.injEq, LV.str.injEq, LV.big.injEq, LV.tup.injEq, LV.agg.injEq, List.cons.injEq, and_true, true_and]
            exact ⟨rfl, rfl⟩
          · have hs : irSome x1 x3 = true := by unfold irSome; rw [hfin, hz]; rfl
            have ha : arithR .add .i64 (vExp x1 x3) (clA x4) = vExp x1 x3 + clA x4 := add_i64 (by omega) (by omega)
            obtain ⟨s1, s2⟩ := sc_round hs hm x4
            rw [ha, s1, s2]
            unfold scWord scX
            rw [ho, hn, hs]
            simp only [kR, canon, canons, ekEq, numE, getW, getWord, allInts8, asInt, isK, kindEq, isArgB, strOf, cBig, cInts, cWords, allInts, allWords, r_ofLimbs, r_mkWord, Option.some.injEq, LV.wide.injEq, LV.word.injEq, LV.int.injEq, LV.bool.injEq, LV.str.injEq, LV.big.injEq, LV.tup.injEq, LV.agg.injEq, List.cons.injEq, and_true, true_and]
            exact ⟨rfl, rfl⟩
theorem p_ilog : SpecOk Tryz.prog globs 17 (mkSpec real [.int .i64, .word] (s_ilog ropsSc)) := by
  have hfns : FnsOk Tryz.prog globs [(52, .spec (mkSpec real [.int .i64, .word] (s_cFinite ropsE))), (44, .spec (mkSpec real [.int .i64, .word] (s_value ropsL))), (53, .spec (mkSpec real [.st [.bool, .int .i64, .wide]] (s_top ropsL)))] := (fnsCons (fnSpec (p_cFinite)) (fnsCons (fnSpec (p_value)) (fnsCons (fnSpec (p_top)) fnsNil)))
  refine spec0 hfns (by kernel_rfl) Tryz.func17 (by kernel_rfl) (by kernel_rfl) (by kernel_rfl) 4 _ _ (.tup [.int .i64, .bool]) ?_
  clear hfns
  generalize hEE : env0 [(52, .spec (mkSpec real [.int .i64, .word] (s_cFinite ropsE))), (44, .spec (mkSpec real [.int .i64, .word] (s_value ropsL))), (53, .spec (mkSpec real [.st [.bool, .int .i64, .wide]] (s_top ropsL)))] = EE
  intro l r hl hr
  simp only [Forms, Form] at hl
  obtain ⟨_, _, rfl, ⟨x1, rfl, x1lo, x1hi⟩, _, _, rfl, ⟨x2, rfl⟩, rfl⟩ := hl
  subst hEE
  generalize hK : kR (.tup [.int .i64, .bool]) r = K
  generalize hO : real = O
  generalize hS0 : rops = S0
  generalize hS1 : ropsB = S1
  generalize hS2 : ropsC = S2
  generalize hS3 : ropsD = S3
  generalize hS4 : ropsE = S4
  generalize hS5 : ropsF = S5
  generalize hS6 : ropsG = S6
  generalize hS7 : ropsH = S7
  generalize hS8 : ropsI = S8
  generalize hS9 : ropsJ = S9
  generalize hS10 : ropsK = S10
  generalize hS11 : ropsL = S11
  generalize hS12 : ropsM = S12
  generalize hS13 : ropsN = S13
  generalize hS14 : ropsP = S14
  generalize hS15 : ropsQ = S15
  generalize hS16 : ropsT = S16
  generalize hS17 : ropsUm = S17
  generalize hS18 : ropsU = S18
  generalize hS19 : ropsV = S19
  generalize hS20 : ropsW = S20
  generalize hS21 : ropsQs = S21
  generalize hS22 : ropsX = S22
  generalize hS23 : ropsSc = S23
  set_option maxRecDepth 100000 in cbv
  subst hO hK hS0 hS1 hS2 hS3 hS4 hS5 hS6 hS7 hS8 hS9 hS10 hS11 hS12 hS13 hS14 hS15 hS16 hS17 hS18 hS19 hS20 hS21 hS22 hS23
  simp only [s_ilog, R.Y] at hr
  subst hr
  try dsimp only [real, rops, ropsB, ropsC, ropsD, ropsE, ropsF, ropsG, ropsH, ropsI, ropsJ, ropsK, ropsL, ropsM, ropsN, ropsP, ropsQ, ropsT, ropsUm, ropsU, ropsV, ropsW, ropsQs, ropsX, ropsSc]
  cases hfin : wFin x1 x2 with
  | false =>
    refine ⟨imp_f fun _ => ?_, imp_t fun h => by simp at h⟩
    have hs : irSome x1 x2 = false := by unfold irSome; rw [hfin]; rfl
    unfold lgI
    rw [hs]
    simp only [kR, canon, canons, ekEq, numE, getW, getWord, allInts8, asInt, isK, kindEq, isArgB, strOf, cBig, cInts, cWords, allInts, allWords, r_ofLimbs, r_mkWord, Option.some.injEq, LV.wide.injEq, LV.word.injEq, LV.int.injEq, LV.bool.injEq, LV.str.injEq, LV.big.injEq, LV.tup.injEq, LV.agg.injEq, List.cons.injEq, and_true, true_and]
    rfl
  | true =>
    refine ⟨imp_f fun h => by simp at h, imp_t fun _ => ?_⟩
    have hr := vExp_rng hfin
    have ho : topOk (vExp x1 x2) (vSig x1 x2) = irSome x1 x2 := by
      rw [topOk_rgt _ (show rgtE (vExp x1 x2) = true from decide_eq_true (by omega))]
      unfold irSome; rw [hfin]; rfl
    unfold lgI topE topQ
    rw [ho, ← bitN_wLen]
    simp only [kR, canon, canons, ekEq, numE, getW, getWord, allInts8, asInt, isK, kindEq, isArgB, strOf, cBig, cInts, cWords, allInts, allWords, r_ofLimbs, r_mkWord, Option.some.injEq, LV.wide.injEq, LV.word.injEq, LV.int.injEq, LV.bool.injEq, LV.str.injEq, LV.big.injEq, LV.tup.injEq, LV.agg.injEq, List.cons.injEq, and_true, true_and]
theorem p_scale32 : SpecOk Tryz.prog globs 25 (mkSpec real [.int .i64, .int .i64, .word, .int .i64] (s_scale32 ropsSc)) := by
  have hfns : FnsOk Tryz.prog globs [(13, .spec (mkSpec real [.int .i64, .word] (s_value07 ropsM))), (61, .spec (mkSpec real [.st [.bool, .int .i64, .wide], .bool] (s_of09 ropsU))), (62, .spec (mkSpec real [.int .i64, .int .i64, .st [.bool, .int .i64, .big, .big, .int .i64]] (s_round09 ropsU)))] := (fnsCons (fnSpec (p_value07)) (fnsCons (fnSpec (p_of09)) (fnsCons (fnSpec (p_round09)) fnsNil)))
  refine spec0 hfns (by kernel_rfl) Tryz.func25 (by kernel_rfl) (by kernel_rfl) (by kernel_rfl) 4 _ _ (.tup [.word, .int .i64]) ?_
  clear hfns
  generalize hEE : env0 [(13, .spec (mkSpec real [.int .i64, .word] (s_value07 ropsM))), (61, .spec (mkSpec real [.st [.bool, .int .i64, .wide], .bool] (s_of09 ropsU))), (62, .spec (mkSpec real [.int .i64, .int .i64, .st [.bool, .int .i64, .big, .big, .int .i64]] (s_round09 ropsU)))] = EE
  intro l r hl hr
  simp only [Forms, Form] at hl
  obtain ⟨_, _, rfl, ⟨x1, rfl, x1lo, x1hi⟩, _, _, rfl, ⟨x2, rfl, x2lo, x2hi⟩, _, _, rfl, ⟨x3, rfl⟩, _, _, rfl, ⟨x4, rfl, x4lo, x4hi⟩, rfl⟩ := hl
  subst hEE
  generalize hK : kR (.tup [.word, .int .i64]) r = K
  generalize hO : real = O
  generalize hS0 : rops = S0
  generalize hS1 : ropsB = S1
  generalize hS2 : ropsC = S2
  generalize hS3 : ropsD = S3
  generalize hS4 : ropsE = S4
  generalize hS5 : ropsF = S5
  generalize hS6 : ropsG = S6
  generalize hS7 : ropsH = S7
  generalize hS8 : ropsI = S8
  generalize hS9 : ropsJ = S9
  generalize hS10 : ropsK = S10
  generalize hS11 : ropsL = S11
  generalize hS12 : ropsM = S12
  generalize hS13 : ropsN = S13
  generalize hS14 : ropsP = S14
  generalize hS15 : ropsQ = S15
  generalize hS16 : ropsT = S16
  generalize hS17 : ropsUm = S17
  generalize hS18 : ropsU = S18
  generalize hS19 : ropsV = S19
  generalize hS20 : ropsW = S20
  generalize hS21 : ropsQs = S21
  generalize hS22 : ropsX = S22
  generalize hS23 : ropsSc = S23
  set_option maxRecDepth 100000 in cbv
  subst hO hK hS0 hS1 hS2 hS3 hS4 hS5 hS6 hS7 hS8 hS9 hS10 hS11 hS12 hS13 hS14 hS15 hS16 hS17 hS18 hS19 hS20 hS21 hS22 hS23
  simp only [s_scale32, R.Y] at hr
  try dsimp only [real, rops, ropsB, ropsC, ropsD, ropsE, ropsF, ropsG, ropsH, ropsI, ropsJ, ropsK, ropsL, ropsM, ropsN, ropsP, ropsQ, ropsT, ropsUm, ropsU, ropsV, ropsW, ropsQs, ropsX, ropsSc]
  obtain ⟨hs, hm, hn, hr⟩ := hr
  subst hr
  dsimp only [ropsSc]
  replace hs : irSome x1 x3 = true := hs
  replace hn : -100000 ≤ x4 ∧ x4 ≤ 100000 := hn
  obtain ⟨hfin, hz⟩ : wFin x1 x3 = true ∧ vSig x1 x3 ≠ 0 := by
    unfold irSome at hs
    simp only [Bool.and_eq_true, Bool.not_eq_true', decide_eq_false_iff_not] at hs
    exact hs
  obtain ⟨hF, hf⟩ := fin_fits hfin
  have hrg := vExp_rng hfin
  have hv : vNeg x1 x3 = wNeg x1 x3 := by unfold vNeg; rw [hfin]; rfl
  have hzn : (vSig x1 x3).toNat ≠ 0 := fun hh => hz (by rw [w_zero]; exact hh)
  have hw := bitN_wide (vSig x1 x3)
  have ha : arithR .add .i64 (moreG (vExp x1 x3) false) x4 = vExp x1 x3 + x4 := add_i64 (by show _ ≤ vExp x1 x3 + x4; omega) (by show vExp x1 x3 + x4 ≤ _; omega)
  rw [ha, hv]
  refine ⟨hfin, ⟨by omega, by omega⟩, hf, ⟨rfl, rfl⟩, ⟨hzn, by show bitN (vSig x1 x3).toNat ≤ _; omega, by omega, by omega⟩, ?_⟩
  simp only [kR, canon, canons, ekEq, numE, getW, getWord, allInts8, asInt, isK, kindEq, isArgB, strOf, cBig, cInts, cWords, allInts, allWords, r_ofLimbs, r_mkWord, Option.some.injEq, LV.wide.injEq, LV.word.injEq, LV.int.injEq, LV.bool.injEq, LV.str.injEq, LV.big.injEq, LV.tup.injEq, LV.agg.injEq, List.cons.injEq, and_true, true_and]
  exact ⟨rfl, rfl⟩
theorem p_some32Y : SpecOk Tryz.prog globs 18 (mkSpec real [.int .i64, .word] (s_some32Y ropsSc)) := by
  refine spec_as p_some32 ?_
  intro l r h
  unfold s_some32Y at h
  split at h
  · rename_i k f w
    obtain ⟨h1, rfl⟩ := h
    have h1 : irSome f w = true := h1
    refine ⟨_, rfl, ?_⟩
    show Same (.bool (irSome f w)) _
    rw [h1]
    exact same_blit _
  · exact h.elim
theorem p_some32N : SpecOk Tryz.prog globs 18 (mkSpec real [.int .i64, .word] (s_some32N ropsSc)) := by
  refine spec_as p_some32 ?_
  intro l r h
  unfold s_some32N at h
  split at h
  · rename_i k f w
    obtain ⟨h1, rfl⟩ := h
    have h1 : irSome f w = false := h1
    refine ⟨_, rfl, ?_⟩
    show Same (.bool (irSome f w)) _
    rw [h1]
    exact same_blit _
  · exact h.elim
theorem p_IntegralScalesA : SpecOk Tryz.prog globs 4 (mkSpec real [.st [.int .i64, .int .i64], .word, .int .i64] (s_IntegralScalesA ropsSc)) := by
  have hfns : FnsOk Tryz.prog globs [(16, .spec (mkSpec real [.int .i64, .int .i64, .word, .int .i64] (s_iscale ropsSc))), (17, .spec (mkSpec real [.int .i64, .word] (s_ilog ropsSc))), (18, .spec (mkSpec real [.int .i64, .word] (s_some32 ropsX))), (13, .spec (mkSpec real [.int .i64, .word] (s_value07 ropsM))), (20, .spec (mkSpec real [.wide] (s_big02 ropsK))), (19, .spec (mkSpec real [.big] (s_len01 ropsH))), (21, .spec (mkSpec real [.int .i64] (s_mIs08N ropsV))), (22, .spec (mkSpec real [.int .i64, .word] (s_fits05 ropsB))), (24, .spec (mkSpec real [.int .i64, .word] (s_other32 ropsX))), (25, .spec (mkSpec real [.int .i64, .int .i64, .word, .int .i64] (s_scale32 ropsSc))), (23, .spec (mkSpec real [] (s_awake32 ropsX)))] := (fnsCons (fnSpec (p_iscale)) (fnsCons (fnSpec (p_ilog)) (fnsCons (fnSpec (p_some32)) (fnsCons (fnSpec (p_value07)) (fnsCons (fnSpec (p_big02)) (fnsCons (fnSpec (p_len01)) (fnsCons (fnSpec (p_mIs08N)) (fnsCons (fnSpec (p_fits05)) (fnsCons (fnSpec (p_other32)) (fnsCons (fnSpec (p_scale32)) (fnsCons (fnSpec (p_awake32)) fnsNil)))))))))))
  refine spec0 hfns (by kernel_rfl) Tryz.func4 (by kernel_rfl) (by kernel_rfl) (by kernel_rfl) 7 _ _ (.bool) ?_
  clear hfns
  generalize hEE : env0 [(16, .spec (mkSpec real [.int .i64, .int .i64, .word, .int .i64] (s_iscale ropsSc))), (17, .spec (mkSpec real [.int .i64, .word] (s_ilog ropsSc))), (18, .spec (mkSpec real [.int .i64, .word] (s_some32 ropsX))), (13, .spec (mkSpec real [.int .i64, .word] (s_value07 ropsM))), (20, .spec (mkSpec real [.wide] (s_big02 ropsK))), (19, .spec (mkSpec real [.big] (s_len01 ropsH))), (21, .spec (mkSpec real [.int .i64] (s_mIs08N ropsV))), (22, .spec (mkSpec real [.int .i64, .word] (s_fits05 ropsB))), (24, .spec (mkSpec real [.int .i64, .word] (s_other32 ropsX))), (25, .spec (mkSpec real [.int .i64, .int .i64, .word, .int .i64] (s_scale32 ropsSc))), (23, .spec (mkSpec real [] (s_awake32 ropsX)))] = EE
  intro l r hl hr
  simp only [Forms, Form] at hl
  obtain ⟨_, _, rfl, ⟨_, rfl, ⟨_, _, rfl, ⟨x1_1, rfl, x1_1lo, x1_1hi⟩, _, _, rfl, ⟨x1_2, rfl, x1_2lo, x1_2hi⟩, rfl⟩⟩, _, _, rfl, ⟨x2, rfl⟩, _, _, rfl, ⟨x3, rfl, x3lo, x3hi⟩, rfl⟩ := hl
  subst hEE
  generalize hK : kR (.bool) r = K
  generalize hO : real = O
  generalize hS0 : rops = S0
  generalize hS1 : ropsB = S1
  generalize hS2 : ropsC = S2
  generalize hS3 : ropsD = S3
  generalize hS4 : ropsE = S4
  generalize hS5 : ropsF = S5
  generalize hS6 : ropsG = S6
  generalize hS7 : ropsH = S7
  generalize hS8 : ropsI = S8
  generalize hS9 : ropsJ = S9
  generalize hS10 : ropsK = S10
  generalize hS11 : ropsL = S11
  generalize hS12 : ropsM = S12
  generalize hS13 : ropsN = S13
  generalize hS14 : ropsP = S14
  generalize hS15 : ropsQ = S15
  generalize hS16 : ropsT = S16
  generalize hS17 : ropsUm = S17
  generalize hS18 : ropsU = S18
  generalize hS19 : ropsV = S19
  generalize hS20 : ropsW = S20
  generalize hS21 : ropsQs = S21
  generalize hS22 : ropsX = S22
  generalize hS23 : ropsSc = S23
  set_option maxRecDepth 100000 in cbv
  subst hO hK hS0 hS1 hS2 hS3 hS4 hS5 hS6 hS7 hS8 hS9 hS10 hS11 hS12 hS13 hS14 hS15 hS16 hS17 hS18 hS19 hS20 hS21 hS22 hS23
  simp only [s_IntegralScalesA, R.Y] at hr
  obtain ⟨hreq, hr⟩ := hr
  try dsimp only [rops, ropsB, ropsC, ropsD, ropsE, ropsF, ropsG, ropsH, ropsI, ropsJ, ropsK, ropsL, ropsM, ropsN, ropsP, ropsQ, ropsT, ropsUm, ropsU, ropsV, ropsW, ropsQs, ropsX, ropsSc] at hreq
  subst hr
  try dsimp only [real, rops, ropsB, ropsC, ropsD, ropsE, ropsF, ropsG, ropsH, ropsI, ropsJ, ropsK, ropsL, ropsM, ropsN, ropsP, ropsQ, ropsT, ropsUm, ropsU, ropsV, ropsW, ropsQs, ropsX, ropsSc]
  have hm : isM x1_2 = false := hreq
  have kt : kR AT.bool (LV.bool true) (LV.bool true) := rfl
  try rw [cl_if x3 100000 (-100000) (by decide), show max (-100000) (min 100000 x3) = clB x3 from rfl]
  have hcl : -100000 ≤ clB x3 ∧ clB x3 ≤ 100000 := by unfold clB; omega
  have no : irOk x1_1 x1_2 x2 = false → irE x1_1 x1_2 x2 = 1 ∧ scWord x1_1 x1_2 x2 x3 = 0 ∧ scX x1_1 x1_2 x2 x3 = 0 := fun h => by
    unfold irE scWord scX; rw [h]; exact ⟨rfl, rfl, rfl⟩
  obtain ⟨a1, a2, a3⟩ := no (by unfold irOk; rw [hm]; rfl)
  cases hS : irSome x1_1 x2 with
  | true =>
    obtain ⟨hfin, hz⟩ : wFin x1_1 x2 = true ∧ vSig x1_1 x2 ≠ 0 := by
      unfold irSome at hS
      simp only [Bool.and_eq_true, Bool.not_eq_true', decide_eq_false_iff_not] at hS
      exact hS
    obtain ⟨hF, hf⟩ := fin_fits hfin
    have hrg := vExp_rng hfin
    have hw := bitN_wide (vSig x1_1 x2)
    have sw := small_wide (vSig x1_1 x2)
    have hn : nanIs x1_1 [x2] = false := by
      have := (fin_iff x1_1 x2).1 hfin
      unfold nanIs wNaN
      simp
      omega
    have hl : lgI x1_1 x2 = vExp x1_1 x2 + lenN (vSig x1_1 x2).toNat - 1 := by unfold lgI; rw [hS]; rfl
    have hlen : 0 ≤ lenN (vSig x1_1 x2).toNat ∧ lenN (vSig x1_1 x2).toNat ≤ 512 := by
      show 0 ≤ ((bitN _ : Nat) : Int) ∧ ((bitN _ : Nat) : Int) ≤ 512
      omega
    have e1 : arithR .add .i64 (vExp x1_1 x2) (lenN (vSig x1_1 x2).toNat) = vExp x1_1 x2 + lenN (vSig x1_1 x2).toNat := add_i64 (by omega) (by omega)
    have e2 : arithR .sub .i64 (vExp x1_1 x2 + lenN (vSig x1_1 x2).toNat) 1 = vExp x1_1 x2 + lenN (vSig x1_1 x2).toNat - 1 := sub_i64 (by omega) (by omega)
    rw [e1, e2, hl]
    have n0 : cmpR .neq (vExp x1_1 x2 + lenN (vSig x1_1 x2).toNat - 1) (vExp x1_1 x2 + lenN (vSig x1_1 x2).toNat - 1) = false := by rw [c_neq_f]
    simp [a1, a2, a3, mkWord_0, eql_self, kt, hfin, sw, n0, hm]
  | false =>
    have hl : lgI x1_1 x2 = 0 := by unfold lgI; rw [hS]; rfl
    have n0 : cmpR .neq 0 0 = false := rfl
    rw [hl]
    simp [a1, a2, a3, mkWord_0, eql_self, kt, n0, hm]
theorem p_IntegralScalesB : SpecOk Tryz.prog globs 4 (mkSpec real [.st [.int .i64, .int .i64], .word, .int .i64] (s_IntegralScalesB ropsSc)) := by
  have hfns : FnsOk Tryz.prog globs [(16, .spec (mkSpec real [.int .i64, .int .i64, .word, .int .i64] (s_iscale ropsSc))), (17, .spec (mkSpec real [.int .i64, .word] (s_ilog ropsSc))), (18, .spec (mkSpec real [.int .i64, .word] (s_some32Y ropsSc))), (13, .spec (mkSpec real [.int .i64, .word] (s_value07 ropsM))), (20, .spec (mkSpec real [.wide] (s_big02 ropsK))), (19, .spec (mkSpec real [.big] (s_len01 ropsH))), (21, .spec (mkSpec real [.int .i64] (s_mIs08Y ropsV))), (22, .spec (mkSpec real [.int .i64, .word] (s_fits05 ropsB))), (24, .spec (mkSpec real [.int .i64, .word] (s_other32 ropsX))), (25, .spec (mkSpec real [.int .i64, .int .i64, .word, .int .i64] (s_scale32 ropsSc))), (23, .spec (mkSpec real [] (s_awake32 ropsX)))] := (fnsCons (fnSpec (p_iscale)) (fnsCons (fnSpec (p_ilog)) (fnsCons (fnSpec (p_some32Y)) (fnsCons (fnSpec (p_value07)) (fnsCons (fnSpec (p_big02)) (fnsCons (fnSpec (p_len01)) (fnsCons (fnSpec (p_mIs08Y)) (fnsCons (fnSpec (p_fits05)) (fnsCons (fnSpec (p_other32)) (fnsCons (fnSpec (p_scale32)) (fnsCons (fnSpec (p_awake32)) fnsNil)))))))))))
  refine spec0 hfns (by kernel_rfl) Tryz.func4 (by kernel_rfl) (by kernel_rfl) (by kernel_rfl) 7 _ _ (.bool) ?_
  clear hfns
  generalize hEE : env0 [(16, .spec (mkSpec real [.int .i64, .int .i64, .word, .int .i64] (s_iscale ropsSc))), (17, .spec (mkSpec real [.int .i64, .word] (s_ilog ropsSc))), (18, .spec (mkSpec real [.int .i64, .word] (s_some32Y ropsSc))), (13, .spec (mkSpec real [.int .i64, .word] (s_value07 ropsM))), (20, .spec (mkSpec real [.wide] (s_big02 ropsK))), (19, .spec (mkSpec real [.big] (s_len01 ropsH))), (21, .spec (mkSpec real [.int .i64] (s_mIs08Y ropsV))), (22, .spec (mkSpec real [.int .i64, .word] (s_fits05 ropsB))), (24, .spec (mkSpec real [.int .i64, .word] (s_other32 ropsX))), (25, .spec (mkSpec real [.int .i64, .int .i64, .word, .int .i64] (s_scale32 ropsSc))), (23, .spec (mkSpec real [] (s_awake32 ropsX)))] = EE
  intro l r hl hr
  simp only [Forms, Form] at hl
  obtain ⟨_, _, rfl, ⟨_, rfl, ⟨_, _, rfl, ⟨x1_1, rfl, x1_1lo, x1_1hi⟩, _, _, rfl, ⟨x1_2, rfl, x1_2lo, x1_2hi⟩, rfl⟩⟩, _, _, rfl, ⟨x2, rfl⟩, _, _, rfl, ⟨x3, rfl, x3lo, x3hi⟩, rfl⟩ := hl
  subst hEE
  generalize hK : kR (.bool) r = K
  generalize hO : real = O
  generalize hS0 : rops = S0
  generalize hS1 : ropsB = S1
  generalize hS2 : ropsC = S2
  generalize hS3 : ropsD = S3
  generalize hS4 : ropsE = S4
  generalize hS5 : ropsF = S5
  generalize hS6 : ropsG = S6
  generalize hS7 : ropsH = S7
  generalize hS8 : ropsI = S8
  generalize hS9 : ropsJ = S9
  generalize hS10 : ropsK = S10
  generalize hS11 : ropsL = S11
  generalize hS12 : ropsM = S12
  generalize hS13 : ropsN = S13
  generalize hS14 : ropsP = S14
  generalize hS15 : ropsQ = S15
  generalize hS16 : ropsT = S16
  generalize hS17 : ropsUm = S17
  generalize hS18 : ropsU = S18
  generalize hS19 : ropsV = S19
  generalize hS20 : ropsW = S20
  generalize hS21 : ropsQs = S21
  generalize hS22 : ropsX = S22
  generalize hS23 : ropsSc = S23
  set_option maxRecDepth 100000 in cbv
  subst hO hK hS0 hS1 hS2 hS3 hS4 hS5 hS6 hS7 hS8 hS9 hS10 hS11 hS12 hS13 hS14 hS15 hS16 hS17 hS18 hS19 hS20 hS21 hS22 hS23
  simp only [s_IntegralScalesB, R.Y] at hr
  obtain ⟨hreq, hr⟩ := hr
  try dsimp only [rops, ropsB, ropsC, ropsD, ropsE, ropsF, ropsG, ropsH, ropsI, ropsJ, ropsK, ropsL, ropsM, ropsN, ropsP, ropsQ, ropsT, ropsUm, ropsU, ropsV, ropsW, ropsQs, ropsX, ropsSc] at hreq
  subst hr
  try dsimp only [real, rops, ropsB, ropsC, ropsD, ropsE, ropsF, ropsG, ropsH, ropsI, ropsJ, ropsK, ropsL, ropsM, ropsN, ropsP, ropsQ, ropsT, ropsUm, ropsU, ropsV, ropsW, ropsQs, ropsX, ropsSc]
  obtain ⟨hm, hS⟩ : isM x1_2 = true ∧ irSome x1_1 x2 = true := hreq
  have kt : kR AT.bool (LV.bool true) (LV.bool true) := rfl
  try rw [cl_if x3 100000 (-100000) (by decide), show max (-100000) (min 100000 x3) = clB x3 from rfl]
  have hcl : -100000 ≤ clB x3 ∧ clB x3 ≤ 100000 := by unfold clB; omega
  have no : irOk x1_1 x1_2 x2 = false → irE x1_1 x1_2 x2 = 1 ∧ scWord x1_1 x1_2 x2 x3 = 0 ∧ scX x1_1 x1_2 x2 x3 = 0 := fun h => by
    unfold irE scWord scX; rw [h]; exact ⟨rfl, rfl, rfl⟩
  obtain ⟨hfin, hz⟩ : wFin x1_1 x2 = true ∧ vSig x1_1 x2 ≠ 0 := by
    unfold irSome at hS
    simp only [Bool.and_eq_true, Bool.not_eq_true', decide_eq_false_iff_not] at hS
    exact hS
  obtain ⟨hF, hf⟩ := fin_fits hfin
  have hrg := vExp_rng hfin
  have hw := bitN_wide (vSig x1_1 x2)
  have sw := small_wide (vSig x1_1 x2)
  have hn : nanIs x1_1 [x2] = false := by
    have := (fin_iff x1_1 x2).1 hfin
    unfold nanIs wNaN
    simp
    omega
  have hl : lgI x1_1 x2 = vExp x1_1 x2 + lenN (vSig x1_1 x2).toNat - 1 := by unfold lgI; rw [hS]; rfl
  have hlen : 0 ≤ lenN (vSig x1_1 x2).toNat ∧ lenN (vSig x1_1 x2).toNat ≤ 512 := by
    show 0 ≤ ((bitN _ : Nat) : Int) ∧ ((bitN _ : Nat) : Int) ≤ 512
    omega
  have e1 : arithR .add .i64 (vExp x1_1 x2) (lenN (vSig x1_1 x2).toNat) = vExp x1_1 x2 + lenN (vSig x1_1 x2).toNat := add_i64 (by omega) (by omega)
  have e2 : arithR .sub .i64 (vExp x1_1 x2 + lenN (vSig x1_1 x2).toNat) 1 = vExp x1_1 x2 + lenN (vSig x1_1 x2).toNat - 1 := sub_i64 (by omega) (by omega)
  rw [e1, e2, hl]
  have n0 : cmpR .neq (vExp x1_1 x2 + lenN (vSig x1_1 x2).toNat - 1) (vExp x1_1 x2 + lenN (vSig x1_1 x2).toNat - 1) = false := by rw [c_neq_f]
  have ho : irOk x1_1 x1_2 x2 = true := by unfold irOk; rw [hm, hF]; rfl
  have a1 : irE x1_1 x1_2 x2 = 0 := by unfold irE; rw [ho]; rfl
  have a2 : scWord x1_1 x1_2 x2 x3 = rdW x1_1 x1_2 (wNeg x1_1 x2) (vSig x1_1 x2).toNat (vExp x1_1 x2 + clB x3) := by unfold scWord; rw [ho, hn, hS]; rfl
  have a3 : scX x1_1 x1_2 x2 x3 = rdX x1_1 x1_2 (wNeg x1_1 x2) (vSig x1_1 x2).toNat (vExp x1_1 x2 + clB x3) := by unfold scX; rw [ho, hn, hS]; rfl
  simp [a1, a2, a3, eql_self, kt, hfin, sw, n0, hF, hcl, hS, hm]
theorem p_IntegralScalesC : SpecOk Tryz.prog globs 4 (mkSpec real [.st [.int .i64, .int .i64], .word, .int .i64] (s_IntegralScalesC ropsSc)) := by
  have hfns : FnsOk Tryz.prog globs [(16, .spec (mkSpec real [.int .i64, .int .i64, .word, .int .i64] (s_iscale ropsSc))), (17, .spec (mkSpec real [.int .i64, .word] (s_ilog ropsSc))), (18, .spec (mkSpec real [.int .i64, .word] (s_some32N ropsSc))), (13, .spec (mkSpec real [.int .i64, .word] (s_value07 ropsM))), (20, .spec (mkSpec real [.wide] (s_big02 ropsK))), (19, .spec (mkSpec real [.big] (s_len01 ropsH))), (21, .spec (mkSpec real [.int .i64] (s_mIs08Y ropsV))), (22, .spec (mkSpec real [.int .i64, .word] (s_fits05 ropsB))), (24, .spec (mkSpec real [.int .i64, .word] (s_other32 ropsX))), (25, .spec (mkSpec real [.int .i64, .int .i64, .word, .int .i64] (s_scale32 ropsSc))), (23, .spec (mkSpec real [] (s_awake32 ropsX)))] := (fnsCons (fnSpec (p_iscale)) (fnsCons (fnSpec (p_ilog)) (fnsCons (fnSpec (p_some32N)) (fnsCons (fnSpec (p_value07)) (fnsCons (fnSpec (p_big02)) (fnsCons (fnSpec (p_len01)) (fnsCons (fnSpec (p_mIs08Y)) (fnsCons (fnSpec (p_fits05)) (fnsCons (fnSpec (p_other32)) (fnsCons (fnSpec (p_scale32)) (fnsCons (fnSpec (p_awake32)) fnsNil)))))))))))
  refine spec0 hfns (by kernel_rfl) Tryz.func4 (by kernel_rfl) (by kernel_rfl) (by kernel_rfl) 7 _ _ (.bool) ?_
  clear hfns
  generalize hEE : env0 [(16, .spec (mkSpec real [.int .i64, .int .i64, .word, .int .i64] (s_iscale ropsSc))), (17, .spec (mkSpec real [.int .i64, .word] (s_ilog ropsSc))), (18, .spec (mkSpec real [.int .i64, .word] (s_some32N ropsSc))), (13, .spec (mkSpec real [.int .i64, .word] (s_value07 ropsM))), (20, .spec (mkSpec real [.wide] (s_big02 ropsK))), (19, .spec (mkSpec real [.big] (s_len01 ropsH))), (21, .spec (mkSpec real [.int .i64] (s_mIs08Y ropsV))), (22, .spec (mkSpec real [.int .i64, .word] (s_fits05 ropsB))), (24, .spec (mkSpec real [.int .i64, .word] (s_other32 ropsX))), (25, .spec (mkSpec real [.int .i64, .int .i64, .word, .int .i64] (s_scale32 ropsSc))), (23, .spec (mkSpec real [] (s_awake32 ropsX)))] = EE
  intro l r hl hr
  simp only [Forms, Form] at hl
  obtain ⟨_, _, rfl, ⟨_, rfl, ⟨_, _, rfl, ⟨x1_1, rfl, x1_1lo, x1_1hi⟩, _, _, rfl, ⟨x1_2, rfl, x1_2lo, x1_2hi⟩, rfl⟩⟩, _, _, rfl, ⟨x2, rfl⟩, _, _, rfl, ⟨x3, rfl, x3lo, x3hi⟩, rfl⟩ := hl
  subst hEE
  generalize hK : kR (.bool) r = K
  generalize hO : real = O
  generalize hS0 : rops = S0
  generalize hS1 : ropsB = S1
  generalize hS2 : ropsC = S2
  generalize hS3 : ropsD = S3
  generalize hS4 : ropsE = S4
  generalize hS5 : ropsF = S5
  generalize hS6 : ropsG = S6
  generalize hS7 : ropsH = S7
  generalize hS8 : ropsI = S8
  generalize hS9 : ropsJ = S9
  generalize hS10 : ropsK = S10
  generalize hS11 : ropsL = S11
  generalize hS12 : ropsM = S12
  generalize hS13 : ropsN = S13
  generalize hS14 : ropsP = S14
  generalize hS15 : ropsQ = S15
  generalize hS16 : ropsT = S16
  generalize hS17 : ropsUm = S17
  generalize hS18 : ropsU = S18
  generalize hS19 : ropsV = S19
  generalize hS20 : ropsW = S20
  generalize hS21 : ropsQs = S21
  generalize hS22 : ropsX = S22
  generalize hS23 : ropsSc = S23
  set_option maxRecDepth 100000 in cbv
  subst hO hK hS0 hS1 hS2 hS3 hS4 hS5 hS6 hS7 hS8 hS9 hS10 hS11 hS12 hS13 hS14 hS15 hS16 hS17 hS18 hS19 hS20 hS21 hS22 hS23
  simp only [s_IntegralScalesC, R.Y] at hr
  obtain ⟨hreq, hr⟩ := hr
  try dsimp only [rops, ropsB, ropsC, ropsD, ropsE, ropsF, ropsG, ropsH, ropsI, ropsJ, ropsK, ropsL, ropsM, ropsN, ropsP, ropsQ, ropsT, ropsUm, ropsU, ropsV, ropsW, ropsQs, ropsX, ropsSc] at hreq
  subst hr
  try dsimp only [real, rops, ropsB, ropsC, ropsD, ropsE, ropsF, ropsG, ropsH, ropsI, ropsJ, ropsK, ropsL, ropsM, ropsN, ropsP, ropsQ, ropsT, ropsUm, ropsU, ropsV, ropsW, ropsQs, ropsX, ropsSc]
  obtain ⟨hm, hS⟩ : isM x1_2 = true ∧ irSome x1_1 x2 = false := hreq
  have kt : kR AT.bool (LV.bool true) (LV.bool true) := rfl
  try rw [cl_if x3 100000 (-100000) (by decide), show max (-100000) (min 100000 x3) = clB x3 from rfl]
  have hcl : -100000 ≤ clB x3 ∧ clB x3 ≤ 100000 := by unfold clB; omega
  have no : irOk x1_1 x1_2 x2 = false → irE x1_1 x1_2 x2 = 1 ∧ scWord x1_1 x1_2 x2 x3 = 0 ∧ scX x1_1 x1_2 x2 x3 = 0 := fun h => by
    unfold irE scWord scX; rw [h]; exact ⟨rfl, rfl, rfl⟩
  have hl : lgI x1_1 x2 = 0 := by unfold lgI; rw [hS]; rfl
  have n0 : cmpR .neq 0 0 = false := rfl
  rw [hl]
  cases hF : fFits x1_1 x2 with
  | false =>
    obtain ⟨a1, a2, a3⟩ := no (by unfold irOk; rw [hm, hF]; rfl)
    simp [a1, a2, a3, mkWord_0, eql_self, kt, n0, hS, hm]
  | true =>
    have ho : irOk x1_1 x1_2 x2 = true := by unfold irOk; rw [hm, hF]; rfl
    have a1 : irE x1_1 x1_2 x2 = 0 := by unfold irE; rw [ho]; rfl
    have a2 : scWord x1_1 x1_2 x2 x3 = bif nanIs x1_1 [x2] then nanV x1_1 [x2] else x2 := by unfold scWord; rw [ho, hS]; rfl
    have a3 : scX x1_1 x1_2 x2 x3 = bif nanIs x1_1 [x2] then nanX x1_1 [x2] else 0 := by unfold scX; rw [ho, hS]; rfl
    simp [a1, a2, a3, eql_self, kt, n0, hS, hm]
theorem p_IntegralScales : SpecOk Tryz.prog globs 4 (mkSpec real [.st [.int .i64, .int .i64], .word, .int .i64] (s_IntegralScales ropsSc)) := by
  refine spec_or (g1 := s_IntegralScalesA ropsSc) (g2 := fun l => match l with
    | [.agg [.int _ f, .int _ m], .word w, .int _ n] => if isM m = true then (if irSome f w = true then s_IntegralScalesB ropsSc l else s_IntegralScalesC ropsSc l) else .fail
    | _ => .fail) p_IntegralScalesA ?_ ?_
  · refine spec_or p_IntegralScalesB p_IntegralScalesC ?_
    intro l r hl hr
    split at hr
    · split at hr
      · split at hr
        · exact .inl hr
        · exact .inr hr
      · exact hr.elim
    · exact hr.elim
  · intro l r hl hr
    simp only [Forms, Form] at hl
    obtain ⟨_, _, rfl, ⟨_, rfl, _, _, rfl, ⟨f, rfl, _⟩, _, _, rfl, ⟨m, rfl, _⟩, rfl⟩, _, _, rfl, ⟨w, rfl⟩, _, _, rfl, ⟨n, rfl, _⟩, rfl⟩ := hl
    have hr : LV.bool true = r := hr
    subst hr
    cases hm : isM m with
    | false => exact .inl ⟨hm, rfl⟩
    | true =>
      refine .inr ?_
      show (if _ then _ else _ : R LV).Y _
      rw [if_pos hm]
      cases hS : irSome f w with
      | true => rw [if_pos rfl]; exact ⟨⟨hm, hS⟩, rfl⟩
      | false => rw [if_neg (by decide)]; exact ⟨⟨hm, hS⟩, rfl⟩
end Go.LE