import Derived.Test.YtdfheggbjjkcdaaDoorW22
import Derived.Test.YtdfheggbjjkcdaaDoorLeQ
set_option linter.unusedVariables false
set_option linter.unusedSimpArgs false
namespace Go.LE
open Go Go.Proofs
structure OpsR where
  fits : Int → BitVec 128 → Bool
  neg : Int → BitVec 128 → Bool
  plW : Int → BitVec 128 → W
  osg : W → Bool → W → Bool → Int
  tot : Int → BitVec 128 → BitVec 128 → Int
  kn2 : Int → BitVec 128 → BitVec 128 → Bool
  cmpO : Int → BitVec 128 → BitVec 128 → Int
  stepW : Int → BitVec 128 → BitVec 128 → W
  minO : Int → BitVec 128 → BitVec 128 → BitVec 128
  maxO : Int → BitVec 128 → BitVec 128 → BitVec 128
  kY : Int → BitVec 128 → BitVec 128 → Prop
  kN : Int → BitVec 128 → BitVec 128 → Prop
noncomputable def ropsR : OpsR where
  fits := fFits
  neg := wNeg
  plW := plW
  osg := osg
  tot := totI
  kn2 := kn2
  cmpO := cmpO
  stepW := stepW
  minO := minO
  maxO := maxO
  kY := fun f a b => kn2 f a b = true
  kN := fun f a b => kn2 f a b = false
def s_place (S : OpsR) : List LV → R LV
  | [.int _ f, .word w] => .ok (.tup [.wide (S.plW f w), .bool (S.neg f w), .bool (S.fits f w)])
  | _ => .fail
def s_osign (S : OpsR) : List LV → R LV
  | [.wide a, .bool n, .wide b, .bool l] => .ok (.int .i64 (S.osg a n b l))
  | _ => .fail
def s_total (S : OpsR) : List LV → R LV
  | [.int _ f, .word a, .word b] => .ok (.int .i64 (S.tot f a b))
  | _ => .fail
def s_comp (S : OpsR) : List LV → R LV
  | [.int _ f, .word a, .word b] => .ok (.tup [.int .i64 (S.cmpO f a b), .bool (S.kn2 f a b)])
  | _ => .fail
def s_steps (S : OpsR) : List LV → R LV
  | [.int _ f, .word a, .word b] => .ok (.tup [.wide (S.stepW f a b), .bool (S.kn2 f a b)])
  | _ => .fail
def s_omin (S : OpsR) : List LV → R LV
  | [.int _ f, .word a, .word b] => .ok (.tup [.word (S.minO f a b), .bool (S.kn2 f a b)])
  | _ => .fail
def s_omax (S : OpsR) : List LV → R LV
  | [.int _ f, .word a, .word b] => .ok (.tup [.word (S.maxO f a b), .bool (S.kn2 f a b)])
  | _ => .fail
def s_OrderPlaces (_ : OpsR) : List LV → R LV := fun _ => .ok (.bool true)
def s_OrderCompares (_ : OpsR) : List LV → R LV := fun _ => .ok (.bool true)
def s_OrderSteps (_ : OpsR) : List LV → R LV := fun _ => .ok (.bool true)
def s_OrderWalks (_ : OpsR) : List LV → R LV := fun _ => .ok (.bool true)
set_option exponentiation.threshold 600 in
theorem p_place : SpecOk Tryd.prog globs 40 (mkSpec real [.int .i64, .word] (s_place ropsR)) := by
  have hfns : FnsOk Tryd.prog globs [(97, .spec (mkSpec real [.int .i64, .word] (s_fits ropsB))), (99, .spec (mkSpec real [.int .i64, .word] (s_cAbs ropsD))), (98, .spec (mkSpec real [.word] (s_from rops))), (100, .spec (mkSpec real [.int .i64, .word] (s_cNeg ropsC))), (101, .spec (mkSpec real [.ints .u64] (s_of rops))), (88, .spec (mkSpec real [.wide, .wide] (s_wAdd rops)))] := (fnsCons (fnSpec (p_fits)) (fnsCons (fnSpec (p_cAbs)) (fnsCons (fnSpec (p_from)) (fnsCons (fnSpec (p_cNeg)) (fnsCons (fnSpec (p_of)) (fnsCons (fnSpec (p_wAdd)) fnsNil))))))
  refine spec0 hfns (by kernel_rfl) Tryd.func40 (by kernel_rfl) (by kernel_rfl) (by kernel_rfl) 4 _ _ (.tup [.wide, .bool, .bool]) ?_
  clear hfns
  generalize hEE : env0 [(97, .spec (mkSpec real [.int .i64, .word] (s_fits ropsB))), (99, .spec (mkSpec real [.int .i64, .word] (s_cAbs ropsD))), (98, .spec (mkSpec real [.word] (s_from rops))), (100, .spec (mkSpec real [.int .i64, .word] (s_cNeg ropsC))), (101, .spec (mkSpec real [.ints .u64] (s_of rops))), (88, .spec (mkSpec real [.wide, .wide] (s_wAdd rops)))] = EE
  intro l r hl hr
  simp only [Forms, Form] at hl
  obtain ⟨_, _, rfl, ⟨x1, rfl, x1lo, x1hi⟩, _, _, rfl, ⟨x2, rfl⟩, rfl⟩ := hl
  subst hEE
  generalize hK : kR (.tup [.wide, .bool, .bool]) r = K
  generalize hO : real = O
  generalize hS0 : rops = S0
  generalize hS1 : ropsB = S1
  generalize hS2 : ropsC = S2
  generalize hS3 : ropsD = S3
  generalize hS4 : ropsE = S4
  generalize hS5 : ropsF = S5
  generalize hS6 : ropsG = S6
  generalize hS7 : ropsH = S7
  generalize hS8 : ropsI = S8
  generalize hS9 : ropsJ = S9
  generalize hS10 : ropsK = S10
  generalize hS11 : ropsL = S11
  generalize hS12 : ropsM = S12
  generalize hS13 : ropsN = S13
  generalize hS14 : ropsP = S14
  generalize hS15 : ropsQ = S15
  generalize hS16 : ropsR = S16
  set_option maxRecDepth 100000 in cbv
  subst hO hK hS0 hS1 hS2 hS3 hS4 hS5 hS6 hS7 hS8 hS9 hS10 hS11 hS12 hS13 hS14 hS15 hS16
  simp only [s_place, R.Y] at hr
  subst hr
  try dsimp only [real, rops, ropsB, ropsC, ropsD, ropsE, ropsF, ropsG, ropsH, ropsI, ropsJ, ropsK, ropsL, ropsM, ropsN, ropsP, ropsQ, ropsR]
  cases h : fFits x1 x2 with
  | false =>
    obtain ⟨p1, p2, p3⟩ := plW_no h
    refine ⟨imp_f fun _ => ?_, imp_t fun hh => by cases hh⟩
    rw [p1, p2]
    simp only [kR, canon, canons, getW, getWord, allInts8, asInt, isK, kindEq, isArgB, strOf, cBig, cInts, cWords, allInts, allWords, r_ofLimbs, r_mkWord, Option.some.injEq, LV.wide.injEq, LV.word.injEq, LV.int.injEq, LV.bool.injEq, LV.str.injEq, LV.big.injEq, LV.tup.injEq, LV.agg.injEq, List.cons.injEq, and_true, true_and]
    exact ofLimbs_0
  | true =>
    obtain ⟨hf, _⟩ := fits_lt h
    have hm := mag_lt x1 x2
    refine ⟨imp_f fun hh => (by cases hh), imp_t fun _ => ?_⟩
    rw [amt_frW h]
    unfold plW
    rw [h, cond_true]
    refine ⟨imp_f fun g => ?_, imp_t fun g => ?_⟩
    · rw [Bool.not_eq_true'] at g
      rw [g]
      simp only [kR, canon, canons, getW, getWord, allInts8, asInt, isK, kindEq, isArgB, strOf, cBig, cInts, cWords, allInts, allWords, r_ofLimbs, r_mkWord, Option.some.injEq, LV.wide.injEq, LV.word.injEq, LV.int.injEq, LV.bool.injEq, LV.str.injEq, LV.big.injEq, LV.tup.injEq, LV.agg.injEq, List.cons.injEq, and_true, true_and]
      rfl
    · rw [Bool.not_eq_false'] at g
      rw [g]
      simp only [kR, canon, canons, getW, getWord, allInts8, asInt, isK, kindEq, isArgB, strOf, cBig, cInts, cWords, allInts, allWords, r_ofLimbs, r_mkWord, Option.some.injEq, LV.wide.injEq, LV.word.injEq, LV.int.injEq, LV.bool.injEq, LV.str.injEq, LV.big.injEq, LV.tup.injEq, LV.agg.injEq, List.cons.injEq, and_true, true_and]
      have e1 : ofLimbsR 1 0 0 0 0 0 0 0 = BitVec.ofNat 512 1 := by
        apply BitVec.eq_of_toNat_eq
        rw [of1_toNat (x := 1) ⟨by decide, by decide⟩, BitVec.toNat_ofNat, Nat.mod_eq_of_lt (half_512 hf (by have := halfN_pos x1; omega))]
        rfl
      rw [e1, BitVec.ofNat_add_ofNat]
      rfl
theorem p_osign : SpecOk Tryd.prog globs 102 (mkSpec real [.wide, .bool, .wide, .bool] (s_osign ropsR)) := by
  have hfns : FnsOk Tryd.prog globs [(89, .spec (mkSpec real [.wide, .wide] (s_wCmp rops)))] := (fnsCons (fnSpec (p_wCmp)) fnsNil)
  refine spec0 hfns (by kernel_rfl) Tryd.func102 (by kernel_rfl) (by kernel_rfl) (by kernel_rfl) 4 _ _ (.int .i64) ?_
  clear hfns
  generalize hEE : env0 [(89, .spec (mkSpec real [.wide, .wide] (s_wCmp rops)))] = EE
  intro l r hl hr
  simp only [Forms, Form] at hl
  obtain ⟨_, _, rfl, ⟨x1, rfl⟩, _, _, rfl, ⟨x2, rfl⟩, _, _, rfl, ⟨x3, rfl⟩, _, _, rfl, ⟨x4, rfl⟩, rfl⟩ := hl
  subst hEE
  generalize hK : kR (.int .i64) r = K
  generalize hO : real = O
  generalize hS0 : rops = S0
  generalize hS1 : ropsB = S1
  generalize hS2 : ropsC = S2
  generalize hS3 : ropsD = S3
  generalize hS4 : ropsE = S4
  generalize hS5 : ropsF = S5
  generalize hS6 : ropsG = S6
  generalize hS7 : ropsH = S7
  generalize hS8 : ropsI = S8
  generalize hS9 : ropsJ = S9
  generalize hS10 : ropsK = S10
  generalize hS11 : ropsL = S11
  generalize hS12 : ropsM = S12
  generalize hS13 : ropsN = S13
  generalize hS14 : ropsP = S14
  generalize hS15 : ropsQ = S15
  generalize hS16 : ropsR = S16
  set_option maxRecDepth 100000 in cbv
  subst hO hK hS0 hS1 hS2 hS3 hS4 hS5 hS6 hS7 hS8 hS9 hS10 hS11 hS12 hS13 hS14 hS15 hS16
  simp only [s_osign, R.Y] at hr
  subst hr
  try dsimp only [real, rops, ropsB, ropsC, ropsD, ropsE, ropsF, ropsG, ropsH, ropsI, ropsJ, ropsK, ropsL, ropsM, ropsN, ropsP, ropsQ, ropsR]
  unfold osg
  cases x2 <;> cases x4 <;> simp [kR, canon, isK, kindEq, asInt]
theorem p_total : SpecOk Tryd.prog globs 41 (mkSpec real [.int .i64, .word, .word] (s_total ropsR)) := by
  have hfns : FnsOk Tryd.prog globs [(40, .spec (mkSpec real [.int .i64, .word] (s_place ropsR))), (102, .spec (mkSpec real [.wide, .bool, .wide, .bool] (s_osign ropsR)))] := (fnsCons (fnSpec (p_place)) (fnsCons (fnSpec (p_osign)) fnsNil))
  refine spec0 hfns (by kernel_rfl) Tryd.func41 (by kernel_rfl) (by kernel_rfl) (by kernel_rfl) 4 _ _ (.int .i64) ?_
  clear hfns
  generalize hEE : env0 [(40, .spec (mkSpec real [.int .i64, .word] (s_place ropsR))), (102, .spec (mkSpec real [.wide, .bool, .wide, .bool] (s_osign ropsR)))] = EE
  intro l r hl hr
  simp only [Forms, Form] at hl
  obtain ⟨_, _, rfl, ⟨x1, rfl, x1lo, x1hi⟩, _, _, rfl, ⟨x2, rfl⟩, _, _, rfl, ⟨x3, rfl⟩, rfl⟩ := hl
  subst hEE
  generalize hK : kR (.int .i64) r = K
  generalize hO : real = O
  generalize hS0 : rops = S0
  generalize hS1 : ropsB = S1
  generalize hS2 : ropsC = S2
  generalize hS3 : ropsD = S3
  generalize hS4 : ropsE = S4
  generalize hS5 : ropsF = S5
  generalize hS6 : ropsG = S6
  generalize hS7 : ropsH = S7
  generalize hS8 : ropsI = S8
  generalize hS9 : ropsJ = S9
  generalize hS10 : ropsK = S10
  generalize hS11 : ropsL = S11
  generalize hS12 : ropsM = S12
  generalize hS13 : ropsN = S13
  generalize hS14 : ropsP = S14
  generalize hS15 : ropsQ = S15
  generalize hS16 : ropsR = S16
  set_option maxRecDepth 100000 in cbv
  subst hO hK hS0 hS1 hS2 hS3 hS4 hS5 hS6 hS7 hS8 hS9 hS10 hS11 hS12 hS13 hS14 hS15 hS16
  simp only [s_total, R.Y] at hr
  subst hr
  try dsimp only [real, rops, ropsB, ropsC, ropsD, ropsE, ropsF, ropsG, ropsH, ropsI, ropsJ, ropsK, ropsL, ropsM, ropsN, ropsP, ropsQ, ropsR]
  cases h1 : fFits x1 x2 with
  | false =>
    rw [(plW_no h1).2.2]
    refine ⟨imp_f fun _ => ?_, imp_t fun hh => by cases hh⟩
    simp only [kR, canon, canons, getW, getWord, allInts8, asInt, isK, kindEq, isArgB, strOf, cBig, cInts, cWords, allInts, allWords, r_ofLimbs, r_mkWord, Option.some.injEq, LV.wide.injEq, LV.word.injEq, LV.int.injEq, LV.bool.injEq, LV.str.injEq, LV.big.injEq, LV.tup.injEq, LV.agg.injEq, List.cons.injEq, and_true, true_and]
  | true =>
    refine ⟨imp_f fun hh => (by cases hh), imp_t fun _ => ?_⟩
    cases h2 : fFits x1 x3 with
    | false =>
      have e : totI x1 x2 x3 = 0 := by unfold totI; rw [h2, Bool.and_false]; rfl
      rw [e]
      refine ⟨imp_f fun _ => ?_, imp_t fun hh => by cases hh⟩
      simp only [kR, canon, canons, getW, getWord, allInts8, asInt, isK, kindEq, isArgB, strOf, cBig, cInts, cWords, allInts, allWords, r_ofLimbs, r_mkWord, Option.some.injEq, LV.wide.injEq, LV.word.injEq, LV.int.injEq, LV.bool.injEq, LV.str.injEq, LV.big.injEq, LV.tup.injEq, LV.agg.injEq, List.cons.injEq, and_true, true_and]
    | true =>
      refine ⟨imp_f fun hh => (by cases hh), imp_t fun _ => ?_⟩
      have e : totI x1 x2 x3 = sgI (plI x1 x2 - plI x1 x3) := by unfold totI; rw [h1, h2]; rfl
      rw [e, osg_pl h1 h2]
      simp only [kR, canon, canons, getW, getWord, allInts8, asInt, isK, kindEq, isArgB, strOf, cBig, cInts, cWords, allInts, allWords, r_ofLimbs, r_mkWord, Option.some.injEq, LV.wide.injEq, LV.word.injEq, LV.int.injEq, LV.bool.injEq, LV.str.injEq, LV.big.injEq, LV.tup.injEq, LV.agg.injEq, List.cons.injEq, and_true, true_and]
set_option exponentiation.threshold 600 in
theorem p_comp : SpecOk Tryd.prog globs 48 (mkSpec real [.int .i64, .word, .word] (s_comp ropsR)) := by
  have hfns : FnsOk Tryd.prog globs [(86, inlF Tryd.f86), (108, .spec (mkSpec real [.int .i64, .word] (s_cOf ropsC))), (87, .spec (mkSpec real [.int .i64, .word] (s_amount ropsN))), (102, .spec (mkSpec real [.wide, .bool, .wide, .bool] (s_osign ropsR)))] := (fnsCons (inl_ok Tryd.func86 (by kernel_rfl) (by kernel_rfl)) (fnsCons (fnSpec (p_cOf)) (fnsCons (fnSpec (p_amount)) (fnsCons (fnSpec (p_osign)) fnsNil))))
  refine spec0 hfns (by kernel_rfl) Tryd.func48 (by kernel_rfl) (by kernel_rfl) (by kernel_rfl) 4 _ _ (.tup [.int .i64, .bool]) ?_
  clear hfns
  generalize hEE : env0 [(86, inlF Tryd.f86), (108, .spec (mkSpec real [.int .i64, .word] (s_cOf ropsC))), (87, .spec (mkSpec real [.int .i64, .word] (s_amount ropsN))), (102, .spec (mkSpec real [.wide, .bool, .wide, .bool] (s_osign ropsR)))] = EE
  intro l r hl hr
  simp only [Forms, Form] at hl
  obtain ⟨_, _, rfl, ⟨x1, rfl, x1lo, x1hi⟩, _, _, rfl, ⟨x2, rfl⟩, _, _, rfl, ⟨x3, rfl⟩, rfl⟩ := hl
  subst hEE
  generalize hK : kR (.tup [.int .i64, .bool]) r = K
  generalize hO : real = O
  generalize hS0 : rops = S0
  generalize hS1 : ropsB = S1
  generalize hS2 : ropsC = S2
  generalize hS3 : ropsD = S3
  generalize hS4 : ropsE = S4
  generalize hS5 : ropsF = S5
  generalize hS6 : ropsG = S6
  generalize hS7 : ropsH = S7
  generalize hS8 : ropsI = S8
  generalize hS9 : ropsJ = S9
  generalize hS10 : ropsK = S10
  generalize hS11 : ropsL = S11
  generalize hS12 : ropsM = S12
  generalize hS13 : ropsN = S13
  generalize hS14 : ropsP = S14
  generalize hS15 : ropsQ = S15
  generalize hS16 : ropsR = S16
  set_option maxRecDepth 100000 in cbv
  subst hO hK hS0 hS1 hS2 hS3 hS4 hS5 hS6 hS7 hS8 hS9 hS10 hS11 hS12 hS13 hS14 hS15 hS16
  simp only [s_comp, R.Y] at hr
  subst hr
  try dsimp only [real, rops, ropsB, ropsC, ropsD, ropsE, ropsF, ropsG, ropsH, ropsI, ropsJ, ropsK, ropsL, ropsM, ropsN, ropsP, ropsQ, ropsR]
  rw [lss_dec, lss_dec]
  by_cases h1 : 3 ≤ cls x1 x2
  · refine ⟨imp_f fun h => by rw [decide_eq_true_eq] at h; omega, imp_t fun _ => ?_⟩
    by_cases h2 : 3 ≤ cls x1 x3
    · refine ⟨imp_f fun h => by rw [decide_eq_true_eq] at h; omega, imp_t fun _ => ⟨known_fits h1, known_fits h2, ?_⟩⟩
      have hk := kn2_iff.2 ⟨h1, h2⟩
      unfold cmpO
      rw [hk, osg_sv (known_fits h1) (known_fits h2)]
      simp only [kR, canon, canons, getW, getWord, allInts8, asInt, isK, kindEq, isArgB, strOf, cBig, cInts, cWords, allInts, allWords, r_ofLimbs, r_mkWord, Option.some.injEq, LV.wide.injEq, LV.word.injEq, LV.int.injEq, LV.bool.injEq, LV.str.injEq, LV.big.injEq, LV.tup.injEq, LV.agg.injEq, List.cons.injEq, and_true, true_and]
      rfl
    · have hk : kn2 x1 x2 x3 = false := by unfold kn2; rw [decide_eq_false h2, Bool.and_false]
      refine ⟨imp_f fun _ => ?_, imp_t fun h => by rw [decide_eq_false_iff_not] at h; omega⟩
      unfold cmpO
      rw [hk]
      simp only [kR, canon, canons, getW, getWord, allInts8, asInt, isK, kindEq, isArgB, strOf, cBig, cInts, cWords, allInts, allWords, r_ofLimbs, r_mkWord, Option.some.injEq, LV.wide.injEq, LV.word.injEq, LV.int.injEq, LV.bool.injEq, LV.str.injEq, LV.big.injEq, LV.tup.injEq, LV.agg.injEq, List.cons.injEq, and_true, true_and]
      rfl
  · have hk : kn2 x1 x2 x3 = false := by unfold kn2; rw [decide_eq_false h1, Bool.false_and]
    refine ⟨imp_f fun _ => ?_, imp_t fun h => by rw [decide_eq_false_iff_not] at h; omega⟩
    unfold cmpO
    rw [hk]
    simp only [kR, canon, canons, getW, getWord, allInts8, asInt, isK, kindEq, isArgB, strOf, cBig, cInts, cWords, allInts, allWords, r_ofLimbs, r_mkWord, Option.some.injEq, LV.wide.injEq, LV.word.injEq, LV.int.injEq, LV.bool.injEq, LV.str.injEq, LV.big.injEq, LV.tup.injEq, LV.agg.injEq, List.cons.injEq, and_true, true_and]
    rfl
set_option exponentiation.threshold 600 in
theorem p_steps : SpecOk Tryd.prog globs 29 (mkSpec real [.int .i64, .word, .word] (s_steps ropsR)) := by
  have hfns : FnsOk Tryd.prog globs [(86, inlF Tryd.f86), (108, .spec (mkSpec real [.int .i64, .word] (s_cOf ropsC))), (87, .spec (mkSpec real [.int .i64, .word] (s_amount ropsN))), (88, .spec (mkSpec real [.wide, .wide] (s_wAdd rops))), (89, .spec (mkSpec real [.wide, .wide] (s_wCmp rops))), (81, .spec (mkSpec real [.wide, .wide] (s_wSub rops)))] := (fnsCons (inl_ok Tryd.func86 (by kernel_rfl) (by kernel_rfl)) (fnsCons (fnSpec (p_cOf)) (fnsCons (fnSpec (p_amount)) (fnsCons (fnSpec (p_wAdd)) (fnsCons (fnSpec (p_wCmp)) (fnsCons (fnSpec (p_wSub)) fnsNil))))))
  refine spec0 hfns (by kernel_rfl) Tryd.func29 (by kernel_rfl) (by kernel_rfl) (by kernel_rfl) 4 _ _ (.tup [.wide, .bool]) ?_
  clear hfns
  generalize hEE : env0 [(86, inlF Tryd.f86), (108, .spec (mkSpec real [.int .i64, .word] (s_cOf ropsC))), (87, .spec (mkSpec real [.int .i64, .word] (s_amount ropsN))), (88, .spec (mkSpec real [.wide, .wide] (s_wAdd rops))), (89, .spec (mkSpec real [.wide, .wide] (s_wCmp rops))), (81, .spec (mkSpec real [.wide, .wide] (s_wSub rops)))] = EE
  intro l r hl hr
  simp only [Forms, Form] at hl
  obtain ⟨_, _, rfl, ⟨x1, rfl, x1lo, x1hi⟩, _, _, rfl, ⟨x2, rfl⟩, _, _, rfl, ⟨x3, rfl⟩, rfl⟩ := hl
  subst hEE
  generalize hK : kR (.tup [.wide, .bool]) r = K
  generalize hO : real = O
  generalize hS0 : rops = S0
  generalize hS1 : ropsB = S1
  generalize hS2 : ropsC = S2
  generalize hS3 : ropsD = S3
  generalize hS4 : ropsE = S4
  generalize hS5 : ropsF = S5
  generalize hS6 : ropsG = S6
  generalize hS7 : ropsH = S7
  generalize hS8 : ropsI = S8
  generalize hS9 : ropsJ = S9
  generalize hS10 : ropsK = S10
  generalize hS11 : ropsL = S11
  generalize hS12 : ropsM = S12
  generalize hS13 : ropsN = S13
  generalize hS14 : ropsP = S14
  generalize hS15 : ropsQ = S15
  generalize hS16 : ropsR = S16
  set_option maxRecDepth 100000 in cbv
  subst hO hK hS0 hS1 hS2 hS3 hS4 hS5 hS6 hS7 hS8 hS9 hS10 hS11 hS12 hS13 hS14 hS15 hS16
  simp only [s_steps, R.Y] at hr
  subst hr
  try dsimp only [real, rops, ropsB, ropsC, ropsD, ropsE, ropsF, ropsG, ropsH, ropsI, ropsJ, ropsK, ropsL, ropsM, ropsN, ropsP, ropsQ, ropsR]
  rw [lss_dec, lss_dec]
  by_cases h1 : 3 ≤ cls x1 x2
  · refine ⟨imp_f fun h => by rw [decide_eq_true_eq] at h; omega, imp_t fun _ => ?_⟩
    by_cases h2 : 3 ≤ cls x1 x3
    · refine ⟨imp_f fun h => by rw [decide_eq_true_eq] at h; omega, imp_t fun _ => ⟨known_fits h1, known_fits h2, ?_⟩⟩
      have hk := kn2_iff.2 ⟨h1, h2⟩
      obtain ⟨hf, _⟩ := fits_lt (known_fits h1)
      have m1 := mag_lt x1 x2
      have m2 := mag_lt x1 x3
      obtain ⟨s1, s2, s3⟩ := sv_add h1 h2
      have e : stepW x1 x2 x3 = BitVec.ofNat 512 (stepN x1 x2 x3) := by unfold stepW; rw [hk]; rfl
      rw [e, hk, amt_addW hf m1 m2, wCmp_nat (half_512 hf (by omega)) (half_512 hf (by omega)), sgI_lss]
      refine ⟨imp_f fun h => ?_, imp_t fun h => ?_⟩
      · have h := s1 (by simpa using h)
        rw [h]
        simp only [kR, canon, canons, getW, getWord, allInts8, asInt, isK, kindEq, isArgB, strOf, cBig, cInts, cWords, allInts, allWords, r_ofLimbs, r_mkWord, Option.some.injEq, LV.wide.injEq, LV.word.injEq, LV.int.injEq, LV.bool.injEq, LV.str.injEq, LV.big.injEq, LV.tup.injEq, LV.agg.injEq, List.cons.injEq, and_true, true_and]
      · have h : (wNeg x1 x2 && !decide (magN x1 x2 = 0)) = (wNeg x1 x3 && !decide (magN x1 x3 = 0)) := by simpa using h
        refine ⟨imp_f fun g => ?_, imp_t fun g => ?_⟩
        · rw [decide_eq_true_eq] at g
          rw [s2 h (by omega), amt_subW hf m2 (by omega)]
          simp only [kR, canon, canons, getW, getWord, allInts8, asInt, isK, kindEq, isArgB, strOf, cBig, cInts, cWords, allInts, allWords, r_ofLimbs, r_mkWord, Option.some.injEq, LV.wide.injEq, LV.word.injEq, LV.int.injEq, LV.bool.injEq, LV.str.injEq, LV.big.injEq, LV.tup.injEq, LV.agg.injEq, List.cons.injEq, and_true, true_and]
        · rw [decide_eq_false_iff_not] at g
          rw [s3 h (by omega), amt_subW hf m1 (by omega)]
          simp only [kR, canon, canons, getW, getWord, allInts8, asInt, isK, kindEq, isArgB, strOf, cBig, cInts, cWords, allInts, allWords, r_ofLimbs, r_mkWord, Option.some.injEq, LV.wide.injEq, LV.word.injEq, LV.int.injEq, LV.bool.injEq, LV.str.injEq, LV.big.injEq, LV.tup.injEq, LV.agg.injEq, List.cons.injEq, and_true, true_and]
    · have hk : kn2 x1 x2 x3 = false := by unfold kn2; rw [decide_eq_false h2, Bool.and_false]
      refine ⟨imp_f fun _ => ?_, imp_t fun h => by rw [decide_eq_false_iff_not] at h; omega⟩
      unfold stepW
      rw [hk]
      simp only [kR, canon, canons, getW, getWord, allInts8, asInt, isK, kindEq, isArgB, strOf, cBig, cInts, cWords, allInts, allWords, r_ofLimbs, r_mkWord, Option.some.injEq, LV.wide.injEq, LV.word.injEq, LV.int.injEq, LV.bool.injEq, LV.str.injEq, LV.big.injEq, LV.tup.injEq, LV.agg.injEq, List.cons.injEq, and_true, true_and]
      exact ofLimbs_0
  · have hk : kn2 x1 x2 x3 = false := by unfold kn2; rw [decide_eq_false h1, Bool.false_and]
    refine ⟨imp_f fun _ => ?_, imp_t fun h => by rw [decide_eq_false_iff_not] at h; omega⟩
    unfold stepW
    rw [hk]
    simp only [kR, canon, canons, getW, getWord, allInts8, asInt, isK, kindEq, isArgB, strOf, cBig, cInts, cWords, allInts, allWords, r_ofLimbs, r_mkWord, Option.some.injEq, LV.wide.injEq, LV.word.injEq, LV.int.injEq, LV.bool.injEq, LV.str.injEq, LV.big.injEq, LV.tup.injEq, LV.agg.injEq, List.cons.injEq, and_true, true_and]
    exact ofLimbs_0
theorem p_omin : SpecOk Tryd.prog globs 57 (mkSpec real [.int .i64, .word, .word] (s_omin ropsR)) := by
  have hfns : FnsOk Tryd.prog globs [(119, inlF Tryd.f119), (120, inlF Tryd.f120), (86, inlF Tryd.f86), (108, .spec (mkSpec real [.int .i64, .word] (s_cOf ropsC))), (41, .spec (mkSpec real [.int .i64, .word, .word] (s_total ropsR)))] := (fnsCons (inl_ok Tryd.func119 (by kernel_rfl) (by kernel_rfl)) (fnsCons (inl_ok Tryd.func120 (by kernel_rfl) (by kernel_rfl)) (fnsCons (inl_ok Tryd.func86 (by kernel_rfl) (by kernel_rfl)) (fnsCons (fnSpec (p_cOf)) (fnsCons (fnSpec (p_total)) fnsNil)))))
  refine spec0 hfns (by kernel_rfl) Tryd.func57 (by kernel_rfl) (by kernel_rfl) (by kernel_rfl) 4 _ _ (.tup [.word, .bool]) ?_
  clear hfns
  generalize hEE : env0 [(119, inlF Tryd.f119), (120, inlF Tryd.f120), (86, inlF Tryd.f86), (108, .spec (mkSpec real [.int .i64, .word] (s_cOf ropsC))), (41, .spec (mkSpec real [.int .i64, .word, .word] (s_total ropsR)))] = EE
  intro l r hl hr
  simp only [Forms, Form] at hl
  obtain ⟨_, _, rfl, ⟨x1, rfl, x1lo, x1hi⟩, _, _, rfl, ⟨x2, rfl⟩, _, _, rfl, ⟨x3, rfl⟩, rfl⟩ := hl
  subst hEE
  generalize hK : kR (.tup [.word, .bool]) r = K
  generalize hO : real = O
  generalize hS0 : rops = S0
  generalize hS1 : ropsB = S1
  generalize hS2 : ropsC = S2
  generalize hS3 : ropsD = S3
  generalize hS4 : ropsE = S4
  generalize hS5 : ropsF = S5
  generalize hS6 : ropsG = S6
  generalize hS7 : ropsH = S7
  generalize hS8 : ropsI = S8
  generalize hS9 : ropsJ = S9
  generalize hS10 : ropsK = S10
  generalize hS11 : ropsL = S11
  generalize hS12 : ropsM = S12
  generalize hS13 : ropsN = S13
  generalize hS14 : ropsP = S14
  generalize hS15 : ropsQ = S15
  generalize hS16 : ropsR = S16
  set_option maxRecDepth 100000 in cbv
  subst hO hK hS0 hS1 hS2 hS3 hS4 hS5 hS6 hS7 hS8 hS9 hS10 hS11 hS12 hS13 hS14 hS15 hS16
  simp only [s_omin, R.Y] at hr
  subst hr
  try dsimp only [real, rops, ropsB, ropsC, ropsD, ropsE, ropsF, ropsG, ropsH, ropsI, ropsJ, ropsK, ropsL, ropsM, ropsN, ropsP, ropsQ, ropsR]
  rw [lss_dec, lss_dec]
  by_cases h1 : 3 ≤ cls x1 x2
  · refine ⟨imp_f fun h => by rw [decide_eq_true_eq] at h; omega, imp_t fun _ => ?_⟩
    by_cases h2 : 3 ≤ cls x1 x3
    · refine ⟨imp_f fun h => by rw [decide_eq_true_eq] at h; omega, imp_t fun _ => ?_⟩
      have hk := kn2_iff.2 ⟨h1, h2⟩
      have e : totI x1 x2 x3 = sgI (plI x1 x2 - plI x1 x3) := by unfold totI; rw [known_fits h1, known_fits h2]; rfl
      unfold minO
      rw [hk, cond_true, e, sgI_lss]
      refine ⟨imp_f fun g => ?_, imp_t fun g => ?_⟩
      · rw [decide_eq_true_eq] at g
        rw [if_pos (by omega)]
        simp only [kR, canon, canons, getW, getWord, allInts8, asInt, isK, kindEq, isArgB, strOf, cBig, cInts, cWords, allInts, allWords, r_ofLimbs, r_mkWord, Option.some.injEq, LV.wide.injEq, LV.word.injEq, LV.int.injEq, LV.bool.injEq, LV.str.injEq, LV.big.injEq, LV.tup.injEq, LV.agg.injEq, List.cons.injEq, and_true, true_and]
      · rw [decide_eq_false_iff_not] at g
        rw [if_neg (by omega)]
        simp only [kR, canon, canons, getW, getWord, allInts8, asInt, isK, kindEq, isArgB, strOf, cBig, cInts, cWords, allInts, allWords, r_ofLimbs, r_mkWord, Option.some.injEq, LV.wide.injEq, LV.word.injEq, LV.int.injEq, LV.bool.injEq, LV.str.injEq, LV.big.injEq, LV.tup.injEq, LV.agg.injEq, List.cons.injEq, and_true, true_and]
    · have hk : kn2 x1 x2 x3 = false := by unfold kn2; rw [decide_eq_false h2, Bool.and_false]
      refine ⟨imp_f fun _ => ?_, imp_t fun h => by rw [decide_eq_false_iff_not] at h; omega⟩
      unfold minO
      rw [hk]
      simp only [kR, canon, canons, getW, getWord, allInts8, asInt, isK, kindEq, isArgB, strOf, cBig, cInts, cWords, allInts, allWords, r_ofLimbs, r_mkWord, Option.some.injEq, LV.wide.injEq, LV.word.injEq, LV.int.injEq, LV.bool.injEq, LV.str.injEq, LV.big.injEq, LV.tup.injEq, LV.agg.injEq, List.cons.injEq, and_true, true_and]
      rfl
  · have hk : kn2 x1 x2 x3 = false := by unfold kn2; rw [decide_eq_false h1, Bool.false_and]
    refine ⟨imp_f fun _ => ?_, imp_t fun h => by rw [decide_eq_false_iff_not] at h; omega⟩
    unfold minO
    rw [hk]
    simp only [kR, canon, canons, getW, getWord, allInts8, asInt, isK, kindEq, isArgB, strOf, cBig, cInts, cWords, allInts, allWords, r_ofLimbs, r_mkWord, Option.some.injEq, LV.wide.injEq, LV.word.injEq, LV.int.injEq, LV.bool.injEq, LV.str.injEq, LV.big.injEq, LV.tup.injEq, LV.agg.injEq, List.cons.injEq, and_true, true_and]
    rfl
theorem p_omax : SpecOk Tryd.prog globs 58 (mkSpec real [.int .i64, .word, .word] (s_omax ropsR)) := by
  have hfns : FnsOk Tryd.prog globs [(119, inlF Tryd.f119), (121, inlF Tryd.f121), (86, inlF Tryd.f86), (108, .spec (mkSpec real [.int .i64, .word] (s_cOf ropsC))), (41, .spec (mkSpec real [.int .i64, .word, .word] (s_total ropsR)))] := (fnsCons (inl_ok Tryd.func119 (by kernel_rfl) (by kernel_rfl)) (fnsCons (inl_ok Tryd.func121 (by kernel_rfl) (by kernel_rfl)) (fnsCons (inl_ok Tryd.func86 (by kernel_rfl) (by kernel_rfl)) (fnsCons (fnSpec (p_cOf)) (fnsCons (fnSpec (p_total)) fnsNil)))))
  refine spec0 hfns (by kernel_rfl) Tryd.func58 (by kernel_rfl) (by kernel_rfl) (by kernel_rfl) 4 _ _ (.tup [.word, .bool]) ?_
  clear hfns
  generalize hEE : env0 [(119, inlF Tryd.f119), (121, inlF Tryd.f121), (86, inlF Tryd.f86), (108, .spec (mkSpec real [.int .i64, .word] (s_cOf ropsC))), (41, .spec (mkSpec real [.int .i64, .word, .word] (s_total ropsR)))] = EE
  intro l r hl hr
  simp only [Forms, Form] at hl
  obtain ⟨_, _, rfl, ⟨x1, rfl, x1lo, x1hi⟩, _, _, rfl, ⟨x2, rfl⟩, _, _, rfl, ⟨x3, rfl⟩, rfl⟩ := hl
  subst hEE
  generalize hK : kR (.tup [.word, .bool]) r = K
  generalize hO : real = O
  generalize hS0 : rops = S0
  generalize hS1 : ropsB = S1
  generalize hS2 : ropsC = S2
  generalize hS3 : ropsD = S3
  generalize hS4 : ropsE = S4
  generalize hS5 : ropsF = S5
  generalize hS6 : ropsG = S6
  generalize hS7 : ropsH = S7
  generalize hS8 : ropsI = S8
  generalize hS9 : ropsJ = S9
  generalize hS10 : ropsK = S10
  generalize hS11 : ropsL = S11
  generalize hS12 : ropsM = S12
  generalize hS13 : ropsN = S13
  generalize hS14 : ropsP = S14
  generalize hS15 : ropsQ = S15
  generalize hS16 : ropsR = S16
  set_option maxRecDepth 100000 in cbv
  subst hO hK hS0 hS1 hS2 hS3 hS4 hS5 hS6 hS7 hS8 hS9 hS10 hS11 hS12 hS13 hS14 hS15 hS16
  simp only [s_omax, R.Y] at hr
  subst hr
  try dsimp only [real, rops, ropsB, ropsC, ropsD, ropsE, ropsF, ropsG, ropsH, ropsI, ropsJ, ropsK, ropsL, ropsM, ropsN, ropsP, ropsQ, ropsR]
  rw [lss_dec, lss_dec]
  by_cases h1 : 3 ≤ cls x1 x2
  · refine ⟨imp_f fun h => by rw [decide_eq_true_eq] at h; omega, imp_t fun _ => ?_⟩
    by_cases h2 : 3 ≤ cls x1 x3
    · refine ⟨imp_f fun h => by rw [decide_eq_true_eq] at h; omega, imp_t fun _ => ?_⟩
      have hk := kn2_iff.2 ⟨h1, h2⟩
      have e : totI x1 x2 x3 = sgI (plI x1 x2 - plI x1 x3) := by unfold totI; rw [known_fits h1, known_fits h2]; rfl
      unfold maxO
      rw [hk, cond_true, e, sgI_gtr]
      refine ⟨imp_f fun g => ?_, imp_t fun g => ?_⟩
      · rw [decide_eq_true_eq] at g
        rw [if_pos (by omega)]
        simp only [kR, canon, canons, getW, getWord, allInts8, asInt, isK, kindEq, isArgB, strOf, cBig, cInts, cWords, allInts, allWords, r_ofLimbs, r_mkWord, Option.some.injEq, LV.wide.injEq, LV.word.injEq, LV.int.injEq, LV.bool.injEq, LV.str.injEq, LV.big.injEq, LV.tup.injEq, LV.agg.injEq, List.cons.injEq, and_true, true_and]
      · rw [decide_eq_false_iff_not] at g
        rw [if_neg (by omega)]
        simp only [kR, canon, canons, getW, getWord, allInts8, asInt, isK, kindEq, isArgB, strOf, cBig, cInts, cWords, allInts, allWords, r_ofLimbs, r_mkWord, Option.some.injEq, LV.wide.injEq, LV.word.injEq, LV.int.injEq, LV.bool.injEq, LV.str.injEq, LV.big.injEq, LV.tup.injEq, LV.agg.injEq, List.cons.injEq, and_true, true_and]
    · have hk : kn2 x1 x2 x3 = false := by unfold kn2; rw [decide_eq_false h2, Bool.and_false]
      refine ⟨imp_f fun _ => ?_, imp_t fun h => by rw [decide_eq_false_iff_not] at h; omega⟩
      unfold maxO
      rw [hk]
      simp only [kR, canon, canons, getW, getWord, allInts8, asInt, isK, kindEq, isArgB, strOf, cBig, cInts, cWords, allInts, allWords, r_ofLimbs, r_mkWord, Option.some.injEq, LV.wide.injEq, LV.word.injEq, LV.int.injEq, LV.bool.injEq, LV.str.injEq, LV.big.injEq, LV.tup.injEq, LV.agg.injEq, List.cons.injEq, and_true, true_and]
      rfl
  · have hk : kn2 x1 x2 x3 = false := by unfold kn2; rw [decide_eq_false h1, Bool.false_and]
    refine ⟨imp_f fun _ => ?_, imp_t fun h => by rw [decide_eq_false_iff_not] at h; omega⟩
    unfold maxO
    rw [hk]
    simp only [kR, canon, canons, getW, getWord, allInts8, asInt, isK, kindEq, isArgB, strOf, cBig, cInts, cWords, allInts, allWords, r_ofLimbs, r_mkWord, Option.some.injEq, LV.wide.injEq, LV.word.injEq, LV.int.injEq, LV.bool.injEq, LV.str.injEq, LV.big.injEq, LV.tup.injEq, LV.agg.injEq, List.cons.injEq, and_true, true_and]
    rfl
set_option exponentiation.threshold 600 in
theorem p_OrderPlaces : SpecOk Tryd.prog globs 7 (mkSpec real [.int .i64, .word, .word] (s_OrderPlaces ropsR)) := by
  have hfns : FnsOk Tryd.prog globs [(40, .spec (mkSpec real [.int .i64, .word] (s_place ropsR))), (41, .spec (mkSpec real [.int .i64, .word, .word] (s_total ropsR))), (42, .spec (mkSpec real [.int .i64, .word] (s_fits05 ropsB))), (36, .spec (mkSpec real [.int .i64] (s_bits rops))), (35, .spec (mkSpec real [.int .i64] (s_power02 ropsK))), (21, .spec (mkSpec real [.wide] (s_big02 ropsK))), (43, .spec (mkSpec real [.big, .big] (s_add01 ropsH))), (33, .spec (mkSpec real [.big, .big] (s_cmp01 ropsH))), (34, .spec (mkSpec real [.big, .big] (s_sub01 ropsH))), (32, .spec (mkSpec real [.int .i64, .word] (s_place28 ropsN))), (44, .spec (mkSpec real [.int .i64, .big] (s_word28 ropsN))), (31, .spec (mkSpec real [] (s_awake28 ropsN)))] := (fnsCons (fnSpec (p_place)) (fnsCons (fnSpec (p_total)) (fnsCons (fnSpec (p_fits05)) (fnsCons (fnSpec (p_bits)) (fnsCons (fnSpec (p_power02)) (fnsCons (fnSpec (p_big02)) (fnsCons (fnSpec (p_add01)) (fnsCons (fnSpec (p_cmp01)) (fnsCons (fnSpec (p_sub01)) (fnsCons (fnSpec (p_place28)) (fnsCons (fnSpec (p_word28)) (fnsCons (fnSpec (p_awake28)) fnsNil))))))))))))
  refine spec0 hfns (by kernel_rfl) Tryd.func7 (by kernel_rfl) (by kernel_rfl) (by kernel_rfl) 4 _ _ (.bool) ?_
  clear hfns
  generalize hEE : env0 [(40, .spec (mkSpec real [.int .i64, .word] (s_place ropsR))), (41, .spec (mkSpec real [.int .i64, .word, .word] (s_total ropsR))), (42, .spec (mkSpec real [.int .i64, .word] (s_fits05 ropsB))), (36, .spec (mkSpec real [.int .i64] (s_bits rops))), (35, .spec (mkSpec real [.int .i64] (s_power02 ropsK))), (21, .spec (mkSpec real [.wide] (s_big02 ropsK))), (43, .spec (mkSpec real [.big, .big] (s_add01 ropsH))), (33, .spec (mkSpec real [.big, .big] (s_cmp01 ropsH))), (34, .spec (mkSpec real [.big, .big] (s_sub01 ropsH))), (32, .spec (mkSpec real [.int .i64, .word] (s_place28 ropsN))), (44, .spec (mkSpec real [.int .i64, .big] (s_word28 ropsN))), (31, .spec (mkSpec real [] (s_awake28 ropsN)))] = EE
  intro l r hl hr
  simp only [Forms, Form] at hl
  obtain ⟨_, _, rfl, ⟨x1, rfl, x1lo, x1hi⟩, _, _, rfl, ⟨x2, rfl⟩, _, _, rfl, ⟨x3, rfl⟩, rfl⟩ := hl
  subst hEE
  generalize hK : kR (.bool) r = K
  generalize hO : real = O
  generalize hS0 : rops = S0
  generalize hS1 : ropsB = S1
  generalize hS2 : ropsC = S2
  generalize hS3 : ropsD = S3
  generalize hS4 : ropsE = S4
  generalize hS5 : ropsF = S5
  generalize hS6 : ropsG = S6
  generalize hS7 : ropsH = S7
  generalize hS8 : ropsI = S8
  generalize hS9 : ropsJ = S9
  generalize hS10 : ropsK = S10
  generalize hS11 : ropsL = S11
  generalize hS12 : ropsM = S12
  generalize hS13 : ropsN = S13
  generalize hS14 : ropsP = S14
  generalize hS15 : ropsQ = S15
  generalize hS16 : ropsR = S16
  set_option maxRecDepth 100000 in cbv
  subst hO hK hS0 hS1 hS2 hS3 hS4 hS5 hS6 hS7 hS8 hS9 hS10 hS11 hS12 hS13 hS14 hS15 hS16
  simp only [s_OrderPlaces, R.Y] at hr
  subst hr
  try dsimp only [real, rops, ropsB, ropsC, ropsD, ropsE, ropsF, ropsG, ropsH, ropsI, ropsJ, ropsK, ropsL, ropsM, ropsN, ropsP, ropsQ, ropsR]
  rw [ofLimbs_0]
  cases h : fFits x1 x2 with
  | false =>
    obtain ⟨p1, p2, p3⟩ := plW_no h
    simp only [p1, p2, p3, eql_self, decide_true, Bool.not_false, Bool.not_true, kb_t, kb_lt, kb_lf]
    simp
  | true =>
    obtain ⟨hf, _⟩ := fits_lt h
    have hp := halfN_pos x1
    have oh := ok_half hf
    have s1 := half_small hf (n := halfN x1) (by omega)
    have hw := wd_pl h
    have hl := pl_lt h
    have s4 := half_small hf (n := plN x1 x2) (by omega)
    rw [pow_half hf]
    simp only [cmpN_gtr, cmpN_neq, eql_dec]
    cases hn : wNeg x1 x2 with
    | false =>
      obtain ⟨q1, q2⟩ := plW_pos h hn
      have s2 := half_small hf (n := (plW x1 x2).toNat) (by omega)
      cases hb : fFits x1 x3 with
      | false =>
        have e : totI x1 x2 x3 = 0 := by unfold totI; rw [hb, Bool.and_false]; rfl
        simp [hf, oh, s1, s2, s4, q2, hw, e, kb_t]
      | true =>
        have e := tot_cmp h hb
        simp [hf, oh, s1, s2, s4, q2, hw, e, kb_t]
    | true =>
      obtain ⟨q1, q2⟩ := plW_neg h hn
      have s2 := half_small hf (n := (plW x1 x2).toNat) (by omega)
      have q3 : ¬ halfN x1 < (plW x1 x2).toNat := by omega
      cases hb : fFits x1 x3 with
      | false =>
        have e : totI x1 x2 x3 = 0 := by unfold totI; rw [hb, Bool.and_false]; rfl
        simp [hf, oh, s1, s2, s4, q1, q2, q3, hw, e, kb_t]
      | true =>
        have e := tot_cmp h hb
        simp [hf, oh, s1, s2, s4, q1, q2, q3, hw, e, kb_t]
def s_compY (S : OpsR) : List LV → R LV
  | [.int _ f, .word a, .word b] => .req (S.kY f a b) (.ok (.tup [.int .i64 (S.cmpO f a b), .blit true]))
  | _ => .fail
def s_ominY (S : OpsR) : List LV → R LV
  | [.int _ f, .word a, .word b] => .req (S.kY f a b) (.ok (.tup [.word (S.minO f a b), .blit true]))
  | _ => .fail
def s_omaxY (S : OpsR) : List LV → R LV
  | [.int _ f, .word a, .word b] => .req (S.kY f a b) (.ok (.tup [.word (S.maxO f a b), .blit true]))
  | _ => .fail
def s_compN (S : OpsR) : List LV → R LV
  | [.int _ f, .word a, .word b] => .req (S.kN f a b) (.ok (.tup [.lit .i64 0, .blit false]))
  | _ => .fail
def s_ominN (S : OpsR) : List LV → R LV
  | [.int _ f, .word a, .word b] => .req (S.kN f a b) (.ok (.tup [.word (S.minO f a b), .blit false]))
  | _ => .fail
def s_omaxN (S : OpsR) : List LV → R LV
  | [.int _ f, .word a, .word b] => .req (S.kN f a b) (.ok (.tup [.word (S.maxO f a b), .blit false]))
  | _ => .fail
def s_known28Y (S : OpsN) : List LV → R LV
  | [.int _ f, .word w] => .req (S.knw f w) (.ok (.blit true))
  | _ => .fail
theorem same_two {k : LV} {b : Bool} : Same (.tup [k, .bool b]) (.tup [k, .blit b]) := fun ρ w v h => by
  simp only [VV, VVs] at h ⊢
  obtain ⟨vs, h0, h1⟩ := h
  refine ⟨vs, h0, ?_⟩
  match vs, h1 with
  | [a, c], h1 => simpa only [VVs, VV] using h1
theorem same_zero {k : IntKind} {b : Bool} : Same (.tup [.int k 0, .bool b]) (.tup [.lit k 0, .blit b]) := fun ρ w v h => by
  simp only [VV, VVs] at h ⊢
  obtain ⟨vs, h0, h1⟩ := h
  refine ⟨vs, h0, ?_⟩
  match vs, h1 with
  | [a, c], h1 => simpa only [VVs, VV] using h1
theorem p_compY : SpecOk Tryd.prog globs 48 (mkSpec real [.int .i64, .word, .word] (s_compY ropsR)) := by
  refine spec_as p_comp ?_
  intro l r h
  unfold s_compY at h
  split at h
  · rename_i k f a b
    obtain ⟨h1, rfl⟩ := h
    have h1 : kn2 f a b = true := h1
    refine ⟨_, rfl, ?_⟩
    show Same (.tup [_, .bool (kn2 f a b)]) _
    rw [h1]
    exact same_two
  · exact h.elim
theorem p_ominY : SpecOk Tryd.prog globs 57 (mkSpec real [.int .i64, .word, .word] (s_ominY ropsR)) := by
  refine spec_as p_omin ?_
  intro l r h
  unfold s_ominY at h
  split at h
  · rename_i k f a b
    obtain ⟨h1, rfl⟩ := h
    have h1 : kn2 f a b = true := h1
    refine ⟨_, rfl, ?_⟩
    show Same (.tup [_, .bool (kn2 f a b)]) _
    rw [h1]
    exact same_two
  · exact h.elim
theorem p_omaxY : SpecOk Tryd.prog globs 58 (mkSpec real [.int .i64, .word, .word] (s_omaxY ropsR)) := by
  refine spec_as p_omax ?_
  intro l r h
  unfold s_omaxY at h
  split at h
  · rename_i k f a b
    obtain ⟨h1, rfl⟩ := h
    have h1 : kn2 f a b = true := h1
    refine ⟨_, rfl, ?_⟩
    show Same (.tup [_, .bool (kn2 f a b)]) _
    rw [h1]
    exact same_two
  · exact h.elim
theorem p_compN : SpecOk Tryd.prog globs 48 (mkSpec real [.int .i64, .word, .word] (s_compN ropsR)) := by
  refine spec_as p_comp ?_
  intro l r h
  unfold s_compN at h
  split at h
  · rename_i k f a b
    obtain ⟨h1, rfl⟩ := h
    have h1 : kn2 f a b = false := h1
    refine ⟨_, rfl, ?_⟩
    show Same (.tup [.int .i64 (cmpO f a b), .bool (kn2 f a b)]) _
    have e : cmpO f a b = 0 := by unfold cmpO; rw [h1]; rfl
    rw [h1, e]
    exact same_zero
  · exact h.elim
theorem p_ominN : SpecOk Tryd.prog globs 57 (mkSpec real [.int .i64, .word, .word] (s_ominN ropsR)) := by
  refine spec_as p_omin ?_
  intro l r h
  unfold s_ominN at h
  split at h
  · rename_i k f a b
    obtain ⟨h1, rfl⟩ := h
    have h1 : kn2 f a b = false := h1
    refine ⟨_, rfl, ?_⟩
    show Same (.tup [.word (minO f a b), .bool (kn2 f a b)]) _
    rw [h1]
    exact same_two
  · exact h.elim
theorem p_omaxN : SpecOk Tryd.prog globs 58 (mkSpec real [.int .i64, .word, .word] (s_omaxN ropsR)) := by
  refine spec_as p_omax ?_
  intro l r h
  unfold s_omaxN at h
  split at h
  · rename_i k f a b
    obtain ⟨h1, rfl⟩ := h
    have h1 : kn2 f a b = false := h1
    refine ⟨_, rfl, ?_⟩
    show Same (.tup [.word (maxO f a b), .bool (kn2 f a b)]) _
    rw [h1]
    exact same_two
  · exact h.elim
theorem p_known28Y : SpecOk Tryd.prog globs 30 (mkSpec real [.int .i64, .word] (s_known28Y ropsN)) := by
  refine spec_as p_known28 ?_
  intro l r h
  unfold s_known28Y at h
  split at h
  · rename_i k f a
    obtain ⟨h1, rfl⟩ := h
    have h1 : 3 ≤ cls f a := h1
    refine ⟨_, rfl, ?_⟩
    show Same (.bool (decide (3 ≤ cls f a))) _
    rw [decide_eq_true h1]
    exact same_blit true
  · exact h.elim
def s_OrderComparesY (S : OpsR) : List LV → R LV
  | [.int _ f, .word a, .word b] => .req (S.kY f a b) (.ok (.bool true))
  | _ => .fail
def s_OrderComparesN (S : OpsR) : List LV → R LV
  | [.int _ f, .word a, .word b] => .req (S.kN f a b) (.ok (.bool true))
  | _ => .fail
theorem p_OrderComparesY : SpecOk Tryd.prog globs 11 (mkSpec real [.int .i64, .word, .word] (s_OrderComparesY ropsR)) := by
  have hfns : FnsOk Tryd.prog globs [(48, .spec (mkSpec real [.int .i64, .word, .word] (s_compY ropsR))), (57, .spec (mkSpec real [.int .i64, .word, .word] (s_ominY ropsR))), (58, .spec (mkSpec real [.int .i64, .word, .word] (s_omaxY ropsR))), (30, .spec (mkSpec real [.int .i64, .word] (s_known28Y ropsN))), (33, .spec (mkSpec real [.big, .big] (s_cmp01 ropsH))), (32, .spec (mkSpec real [.int .i64, .word] (s_place28 ropsN))), (59, .spec (mkSpec real [.int .i64, .word, .word] (s_cmp28 ropsN))), (31, .spec (mkSpec real [] (s_awake28 ropsN)))] := (fnsCons (fnSpec (p_compY)) (fnsCons (fnSpec (p_ominY)) (fnsCons (fnSpec (p_omaxY)) (fnsCons (fnSpec (p_known28Y)) (fnsCons (fnSpec (p_cmp01)) (fnsCons (fnSpec (p_place28)) (fnsCons (fnSpec (p_cmp28)) (fnsCons (fnSpec (p_awake28)) fnsNil))))))))
  refine spec0 hfns (by kernel_rfl) Tryd.func11 (by kernel_rfl) (by kernel_rfl) (by kernel_rfl) 4 _ _ (.bool) ?_
  clear hfns
  generalize hEE : env0 [(48, .spec (mkSpec real [.int .i64, .word, .word] (s_compY ropsR))), (57, .spec (mkSpec real [.int .i64, .word, .word] (s_ominY ropsR))), (58, .spec (mkSpec real [.int .i64, .word, .word] (s_omaxY ropsR))), (30, .spec (mkSpec real [.int .i64, .word] (s_known28Y ropsN))), (33, .spec (mkSpec real [.big, .big] (s_cmp01 ropsH))), (32, .spec (mkSpec real [.int .i64, .word] (s_place28 ropsN))), (59, .spec (mkSpec real [.int .i64, .word, .word] (s_cmp28 ropsN))), (31, .spec (mkSpec real [] (s_awake28 ropsN)))] = EE
  intro l r hl hr
  simp only [Forms, Form] at hl
  obtain ⟨_, _, rfl, ⟨x1, rfl, x1lo, x1hi⟩, _, _, rfl, ⟨x2, rfl⟩, _, _, rfl, ⟨x3, rfl⟩, rfl⟩ := hl
  subst hEE
  generalize hK : kR (.bool) r = K
  generalize hO : real = O
  generalize hS0 : rops = S0
  generalize hS1 : ropsB = S1
  generalize hS2 : ropsC = S2
  generalize hS3 : ropsD = S3
  generalize hS4 : ropsE = S4
  generalize hS5 : ropsF = S5
  generalize hS6 : ropsG = S6
  generalize hS7 : ropsH = S7
  generalize hS8 : ropsI = S8
  generalize hS9 : ropsJ = S9
  generalize hS10 : ropsK = S10
  generalize hS11 : ropsL = S11
  generalize hS12 : ropsM = S12
  generalize hS13 : ropsN = S13
  generalize hS14 : ropsP = S14
  generalize hS15 : ropsQ = S15
  generalize hS16 : ropsR = S16
  set_option maxRecDepth 100000 in cbv
  subst hO hK hS0 hS1 hS2 hS3 hS4 hS5 hS6 hS7 hS8 hS9 hS10 hS11 hS12 hS13 hS14 hS15 hS16
  simp only [s_OrderComparesY, R.Y] at hr
  obtain ⟨hreq, hr⟩ := hr
  try dsimp only [rops, ropsB, ropsC, ropsD, ropsE, ropsF, ropsG, ropsH, ropsI, ropsJ, ropsK, ropsL, ropsM, ropsN, ropsP, ropsQ, ropsR] at hreq
  subst hr
  try dsimp only [real, rops, ropsB, ropsC, ropsD, ropsE, ropsF, ropsG, ropsH, ropsI, ropsJ, ropsK, ropsL, ropsM, ropsN, ropsP, ropsQ, ropsR]
  obtain ⟨h1, h2⟩ := kn2_iff.1 hreq
  have i1 := known_fits h1
  have i2 := known_fits h2
  have e1 : cmpO x1 x2 x3 = c28 x1 x2 x3 := by unfold cmpO; rw [hreq]; rfl
  have e2 := plI_pl i1
  have e3 := plI_pl i2
  have e4 : minO x1 x2 x3 = if plI x1 x2 < plI x1 x3 then x2 else x3 := by unfold minO; rw [hreq]; rfl
  have e5 : maxO x1 x2 x3 = if plI x1 x3 < plI x1 x2 then x2 else x3 := by unfold maxO; rw [hreq]; rfl
  simp only [cmpN_lss, e1, e4, e5, eql_self]
  by_cases c : plI x1 x2 < plI x1 x3
  · have c1 : plN x1 x2 < plN x1 x3 := by omega
    have c2 : ¬ plI x1 x3 < plI x1 x2 := by omega
    simp [hreq, h1, h2, i1, i2, c, c1, c2, kb_t]
  · have c1 : ¬ plN x1 x2 < plN x1 x3 := by omega
    by_cases c3 : plI x1 x3 < plI x1 x2
    · simp [hreq, h1, h2, i1, i2, c, c1, c3, kb_t]
    · have hp : plN x1 x2 = plN x1 x3 := by omega
      have hw : x2 = x3 := by rw [← wd_pl i1, ← wd_pl i2, hp]
      subst hw
      simp [hreq, h1, i1, c, c1, kb_t]
theorem p_OrderComparesN : SpecOk Tryd.prog globs 11 (mkSpec real [.int .i64, .word, .word] (s_OrderComparesN ropsR)) := by
  have hfns : FnsOk Tryd.prog globs [(48, .spec (mkSpec real [.int .i64, .word, .word] (s_compN ropsR))), (57, .spec (mkSpec real [.int .i64, .word, .word] (s_ominN ropsR))), (58, .spec (mkSpec real [.int .i64, .word, .word] (s_omaxN ropsR))), (30, .spec (mkSpec real [.int .i64, .word] (s_known28 ropsN))), (33, .spec (mkSpec real [.big, .big] (s_cmp01 ropsH))), (32, .spec (mkSpec real [.int .i64, .word] (s_place28 ropsN))), (59, .spec (mkSpec real [.int .i64, .word, .word] (s_cmp28 ropsN))), (31, .spec (mkSpec real [] (s_awake28 ropsN)))] := (fnsCons (fnSpec (p_compN)) (fnsCons (fnSpec (p_ominN)) (fnsCons (fnSpec (p_omaxN)) (fnsCons (fnSpec (p_known28)) (fnsCons (fnSpec (p_cmp01)) (fnsCons (fnSpec (p_place28)) (fnsCons (fnSpec (p_cmp28)) (fnsCons (fnSpec (p_awake28)) fnsNil))))))))
  refine spec0 hfns (by kernel_rfl) Tryd.func11 (by kernel_rfl) (by kernel_rfl) (by kernel_rfl) 4 _ _ (.bool) ?_
  clear hfns
  generalize hEE : env0 [(48, .spec (mkSpec real [.int .i64, .word, .word] (s_compN ropsR))), (57, .spec (mkSpec real [.int .i64, .word, .word] (s_ominN ropsR))), (58, .spec (mkSpec real [.int .i64, .word, .word] (s_omaxN ropsR))), (30, .spec (mkSpec real [.int .i64, .word] (s_known28 ropsN))), (33, .spec (mkSpec real [.big, .big] (s_cmp01 ropsH))), (32, .spec (mkSpec real [.int .i64, .word] (s_place28 ropsN))), (59, .spec (mkSpec real [.int .i64, .word, .word] (s_cmp28 ropsN))), (31, .spec (mkSpec real [] (s_awake28 ropsN)))] = EE
  intro l r hl hr
  simp only [Forms, Form] at hl
  obtain ⟨_, _, rfl, ⟨x1, rfl, x1lo, x1hi⟩, _, _, rfl, ⟨x2, rfl⟩, _, _, rfl, ⟨x3, rfl⟩, rfl⟩ := hl
  subst hEE
  generalize hK : kR (.bool) r = K
  generalize hO : real = O
  generalize hS0 : rops = S0
  generalize hS1 : ropsB = S1
  generalize hS2 : ropsC = S2
  generalize hS3 : ropsD = S3
  generalize hS4 : ropsE = S4
  generalize hS5 : ropsF = S5
  generalize hS6 : ropsG = S6
  generalize hS7 : ropsH = S7
  generalize hS8 : ropsI = S8
  generalize hS9 : ropsJ = S9
  generalize hS10 : ropsK = S10
  generalize hS11 : ropsL = S11
  generalize hS12 : ropsM = S12
  generalize hS13 : ropsN = S13
  generalize hS14 : ropsP = S14
  generalize hS15 : ropsQ = S15
  generalize hS16 : ropsR = S16
  set_option maxRecDepth 100000 in cbv
  subst hO hK hS0 hS1 hS2 hS3 hS4 hS5 hS6 hS7 hS8 hS9 hS10 hS11 hS12 hS13 hS14 hS15 hS16
  simp only [s_OrderComparesN, R.Y] at hr
  obtain ⟨hreq, hr⟩ := hr
  try dsimp only [rops, ropsB, ropsC, ropsD, ropsE, ropsF, ropsG, ropsH, ropsI, ropsJ, ropsK, ropsL, ropsM, ropsN, ropsP, ropsQ, ropsR] at hreq
  subst hr
  try dsimp only [real, rops, ropsB, ropsC, ropsD, ropsE, ropsF, ropsG, ropsH, ropsI, ropsJ, ropsK, ropsL, ropsM, ropsN, ropsP, ropsQ, ropsR]
  have e1 : minO x1 x2 x3 = 0 := by unfold minO; rw [hreq]; rfl
  have e2 : maxO x1 x2 x3 = 0 := by unfold maxO; rw [hreq]; rfl
  by_cases h1 : 3 ≤ cls x1 x2
  · have h2 : ¬ 3 ≤ cls x1 x3 := fun h2 => by rw [kn2_iff.2 ⟨h1, h2⟩] at hreq; cases hreq
    simp [hreq, h1, h2, e1, e2, mkWord_0, kb_t]
  · simp [hreq, h1, e1, e2, mkWord_0, kb_t]
theorem p_OrderCompares : SpecOk Tryd.prog globs 11 (mkSpec real [.int .i64, .word, .word] (s_OrderCompares ropsR)) := by
  refine spec_or p_OrderComparesY p_OrderComparesN ?_
  intro l r hl hr
  simp only [Forms, Form] at hl
  obtain ⟨_, _, rfl, ⟨f, rfl, _⟩, _, _, rfl, ⟨a, rfl⟩, _, _, rfl, ⟨b, rfl⟩, rfl⟩ := hl
  cases h : kn2 f a b with
  | true => exact .inl ⟨h, hr⟩
  | false => exact .inr ⟨h, hr⟩
set_option exponentiation.threshold 600 in
theorem p_OrderSteps : SpecOk Tryd.prog globs 5 (mkSpec real [.int .i64, .word, .word] (s_OrderSteps ropsR)) := by
  have hfns : FnsOk Tryd.prog globs [(29, .spec (mkSpec real [.int .i64, .word, .word] (s_steps ropsR))), (30, .spec (mkSpec real [.int .i64, .word] (s_known28 ropsN))), (32, .spec (mkSpec real [.int .i64, .word] (s_place28 ropsN))), (33, .spec (mkSpec real [.big, .big] (s_cmp01 ropsH))), (34, .spec (mkSpec real [.big, .big] (s_sub01 ropsH))), (36, .spec (mkSpec real [.int .i64] (s_bits rops))), (35, .spec (mkSpec real [.int .i64] (s_power02 ropsK))), (37, .spec (mkSpec real [.int .u64] (s_small01 ropsH))), (21, .spec (mkSpec real [.wide] (s_big02 ropsK))), (31, .spec (mkSpec real [] (s_awake28 ropsN)))] := (fnsCons (fnSpec (p_steps)) (fnsCons (fnSpec (p_known28)) (fnsCons (fnSpec (p_place28)) (fnsCons (fnSpec (p_cmp01)) (fnsCons (fnSpec (p_sub01)) (fnsCons (fnSpec (p_bits)) (fnsCons (fnSpec (p_power02)) (fnsCons (fnSpec (p_small01)) (fnsCons (fnSpec (p_big02)) (fnsCons (fnSpec (p_awake28)) fnsNil))))))))))
  refine spec0 hfns (by kernel_rfl) Tryd.func5 (by kernel_rfl) (by kernel_rfl) (by kernel_rfl) 4 _ _ (.bool) ?_
  clear hfns
  generalize hEE : env0 [(29, .spec (mkSpec real [.int .i64, .word, .word] (s_steps ropsR))), (30, .spec (mkSpec real [.int .i64, .word] (s_known28 ropsN))), (32, .spec (mkSpec real [.int .i64, .word] (s_place28 ropsN))), (33, .spec (mkSpec real [.big, .big] (s_cmp01 ropsH))), (34, .spec (mkSpec real [.big, .big] (s_sub01 ropsH))), (36, .spec (mkSpec real [.int .i64] (s_bits rops))), (35, .spec (mkSpec real [.int .i64] (s_power02 ropsK))), (37, .spec (mkSpec real [.int .u64] (s_small01 ropsH))), (21, .spec (mkSpec real [.wide] (s_big02 ropsK))), (31, .spec (mkSpec real [] (s_awake28 ropsN)))] = EE
  intro l r hl hr
  simp only [Forms, Form] at hl
  obtain ⟨_, _, rfl, ⟨x1, rfl, x1lo, x1hi⟩, _, _, rfl, ⟨x2, rfl⟩, _, _, rfl, ⟨x3, rfl⟩, rfl⟩ := hl
  subst hEE
  generalize hK : kR (.bool) r = K
  generalize hO : real = O
  generalize hS0 : rops = S0
  generalize hS1 : ropsB = S1
  generalize hS2 : ropsC = S2
  generalize hS3 : ropsD = S3
  generalize hS4 : ropsE = S4
  generalize hS5 : ropsF = S5
  generalize hS6 : ropsG = S6
  generalize hS7 : ropsH = S7
  generalize hS8 : ropsI = S8
  generalize hS9 : ropsJ = S9
  generalize hS10 : ropsK = S10
  generalize hS11 : ropsL = S11
  generalize hS12 : ropsM = S12
  generalize hS13 : ropsN = S13
  generalize hS14 : ropsP = S14
  generalize hS15 : ropsQ = S15
  generalize hS16 : ropsR = S16
  set_option maxRecDepth 100000 in cbv
  subst hO hK hS0 hS1 hS2 hS3 hS4 hS5 hS6 hS7 hS8 hS9 hS10 hS11 hS12 hS13 hS14 hS15 hS16
  simp only [s_OrderSteps, R.Y] at hr
  subst hr
  try dsimp only [real, rops, ropsB, ropsC, ropsD, ropsE, ropsF, ropsG, ropsH, ropsI, ropsJ, ropsK, ropsL, ropsM, ropsN, ropsP, ropsQ, ropsR]
  rw [ofLimbs_0]
  by_cases h1 : 3 ≤ cls x1 x2
  · by_cases h2 : 3 ≤ cls x1 x3
    · have hk := kn2_iff.2 ⟨h1, h2⟩
      have i1 := known_fits h1
      have i2 := known_fits h2
      obtain ⟨hf, _⟩ := fits_lt i1
      have oh := ok_half hf
      have l1 := pl_lt i1
      have l2 := pl_lt i2
      have s1 := half_small hf (n := plN x1 x2) (by omega)
      have s2 := half_small hf (n := plN x1 x3) (by omega)
      have hv := step_val h1 h2
      have p1 := step_pl h1 h2
      have p2 := step_pl h2 h1
      rw [step_swap] at p2
      rw [pow_half hf]
      have e1 : Int.toNat 1 = 1 := rfl
      simp only [cmpN_lss, cmpN_geq, cmpN_eql, hv, e1]
      have s3 := fun n (hn : n ≤ 2 * halfN x1) => half_small hf hn
      by_cases c : plN x1 x2 < plN x1 x3
      · obtain ⟨p3, p4⟩ := p2 (by omega)
        have c2 : plN x1 x2 ≤ plN x1 x3 := by omega
        have s4 := s3 (plN x1 x3 - plN x1 x2) (by omega)
        by_cases d1 : halfN x1 ≤ plN x1 x3
        · by_cases d2 : plN x1 x2 < halfN x1
          · obtain ⟨p5, p6⟩ := p3 ⟨d1, d2⟩
            simp [h1, h2, hk, i1, i2, hf, oh, s1, s2, s4, c, c2, d1, d2, p5, p6, kb_t]
          · have p5 := p4 (fun hh => d2 hh.2)
            simp [h1, h2, hk, i1, i2, hf, oh, s1, s2, s4, c, c2, d1, d2, p5, kb_t]
        · have p5 := p4 (fun hh => d1 hh.1)
          simp [h1, h2, hk, i1, i2, hf, oh, s1, s2, s4, c, c2, d1, p5, kb_t]
      · obtain ⟨p3, p4⟩ := p1 (by omega)
        have c2 : plN x1 x3 ≤ plN x1 x2 := by omega
        have s4 := s3 (plN x1 x2 - plN x1 x3) (by omega)
        by_cases d1 : halfN x1 ≤ plN x1 x2
        · by_cases d2 : plN x1 x3 < halfN x1
          · obtain ⟨p5, p6⟩ := p3 ⟨d1, d2⟩
            simp [h1, h2, hk, i1, i2, hf, oh, s1, s2, s4, c, c2, d1, d2, p5, p6, kb_t]
          · have p5 := p4 (fun hh => d2 hh.2)
            simp [h1, h2, hk, i1, i2, hf, oh, s1, s2, s4, c, c2, d1, d2, p5, kb_t]
        · have p5 := p4 (fun hh => d1 hh.1)
          simp [h1, h2, hk, i1, i2, hf, oh, s1, s2, s4, c, c2, d1, p5, kb_t]
    · have hk : kn2 x1 x2 x3 = false := by unfold kn2; rw [decide_eq_false h2, Bool.and_false]
      have e : stepW x1 x2 x3 = 0 := by unfold stepW; rw [hk]; rfl
      simp [h1, h2, hk, e, kb_t]
  · have hk : kn2 x1 x2 x3 = false := by unfold kn2; rw [decide_eq_false h1, Bool.false_and]
    have e : stepW x1 x2 x3 = 0 := by unfold stepW; rw [hk]; rfl
    simp [h1, hk, e, kb_t]
end Go.LE