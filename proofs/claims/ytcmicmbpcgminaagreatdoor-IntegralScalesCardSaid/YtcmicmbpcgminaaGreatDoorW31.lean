import Derived.Test.YtcmicmbpcgminaaGreatDoorW30
import Derived.Test.YtcmicmbpcgminaaGreatDoorLeS
set_option linter.unusedVariables false
set_option linter.unusedSimpArgs false
namespace Go.LE
open Go Go.Proofs
structure OpsW where
  isF : Int → Prop
  isMt : Int → Prop
  nan : Int → BitVec 128 → Prop
  fit : Int → BitVec 128 → Prop
  rng : Int → Prop
  sh : W → Int → W
  cvN : Int → Int → BitVec 128 → BitVec 128
  nX : Int → BitVec 128 → Int
  cvW : Int → Int → Int → BitVec 128 → BitVec 128
  cvX : Int → Int → Int → BitVec 128 → Int
  cvE : Int → Int → Int → BitVec 128 → Int
  cvC : Int → Int → Int → BitVec 128 → BitVec 128
  cvCX : Int → Int → Int → BitVec 128 → Int
noncomputable def ropsW : OpsW where
  isF := fun f => 1 ≤ f ∧ f ≤ 4
  isMt := fun m => isM m = true
  nan := fun f w => wNaN f w = true
  fit := fun f w => fFits f w = true
  rng := fun x => -1099511627776 ≤ x ∧ x ≤ 1099511627776
  sh := cvSh
  cvN := cvN
  nX := fun f w => if cls f w = 1 then 1 else 0
  cvW := cvW
  cvX := cvX
  cvE := cvE
  cvC := cvC
  cvCX := cvCX
def s_cshift (S : OpsW) : List LV → R LV
  | [.wide a, .int _ n] => .req (S.rng n) (.ok (.wide (S.sh a n)))
  | _ => .fail
def s_cnone (S : OpsW) : List LV → R LV
  | [.int _ f, .int _ t, .word w] => .req (S.nan f w) (.req (S.isF t) (.ok (.tup [.word (S.cvN f t w), .int .i64 (S.nX f w)])))
  | _ => .fail
def s_cWord (S : OpsW) : List LV → R LV
  | [.int _ f, .int _ t, .int _ m, .word w] => .ok (.tup [.word (S.cvW f t m w), .int .i64 (S.cvX f t m w), .int .i64 (S.cvE f t m w)])
  | _ => .fail
def s_word29 (S : OpsW) : List LV → R LV
  | [.int _ f, .int _ t, .int _ m, .word w] => .req (S.fit f w) (.req (S.isF t) (.req (S.isMt m) (.ok (.tup [.word (S.cvC f t m w), .int .i64 (S.cvCX f t m w)]))))
  | _ => .fail
def s_awake29 (_ : OpsW) : List LV → R LV := fun _ => .ok (.bool true)
def s_ConvertWords (_ : OpsW) : List LV → R LV := fun _ => .ok (.bool true)
theorem sg0 (b : Bool) : (bWord (bif b then bytesOf [49] else bytesOf [48])).toNat = sgB b * 2 ^ (0 : Int).toNat + (2 ^ (0 : Int).toNat - 1) := by
  rw [bWord_sign]; cases b <;> rfl
theorem pay0 {f : Int} (hf : 1 ≤ f ∧ f ≤ 4) (w : BitVec 128) : payA f w 0 = 0 := by
  have := payA_lt f w 0
  simpa using this
theorem one_step {s : ByteArray} {b : Bool} {i : Nat} (h : (bWord s).toNat = sgB b * 2 ^ i + (2 ^ i - 1)) (hi : i ≤ 20) : (bWord (s ++ bytesOf [49])).toNat = sgB b * 2 ^ (i + 1) + (2 ^ (i + 1) - 1) := by
  have hw := bWord_app s true
  rw [show (bif true then bytesOf [49] else bytesOf [48]) = bytesOf [49] from rfl, h, if_pos rfl] at hw
  have h1 := Nat.two_pow_pos i
  have h2 : 2 ^ i ≤ 2 ^ 20 := Nat.pow_le_pow_right (by decide) hi
  have h3 : 2 ^ (i + 1) = 2 * 2 ^ i := by rw [Nat.pow_succ, Nat.mul_comm]
  have h4 : sgB b ≤ 1 := by unfold sgB; cases b <;> decide
  have h5 : sgB b * 2 ^ i ≤ 1 * 2 ^ i := Nat.mul_le_mul_right _ h4
  rw [hw, h3, Nat.mul_left_comm]
  generalize sgB b * 2 ^ i = z at *
  generalize 2 ^ i = y at *
  rw [Nat.mod_eq_of_lt (by omega)]
  omega
theorem bit_step {f t : Int} {w : BitVec 128} (hf : 1 ≤ f ∧ f ≤ 4) (ht : 1 ≤ t ∧ t ≤ 4) {s : ByteArray} {b : Bool} {j : Nat} (h : (bWord s).toNat = (sgB b * 2 ^ ((fField t).toNat + 1) + (2 ^ ((fField t).toNat + 1) - 1)) * 2 ^ j + payA f w j) (hj : j + 1 ≤ (fPrec t - 2).toNat) :
    (bWord (s ++ (bif wdBit w (fPrec f - 3 - j) then bytesOf [49] else bytesOf [48]))).toNat = (sgB b * 2 ^ ((fField t).toNat + 1) + (2 ^ ((fField t).toNat + 1) - 1)) * 2 ^ (j + 1) + payA f w (j + 1) := by
  have hw := bWord_app s (wdBit w (fPrec f - 3 - j))
  rw [hw, h]
  have hp := payA_step hf w j
  have hr := cv_rng ht b (i := j + 1) (p := payA f w (j + 1)) (by omega) (payA_lt f w (j + 1))
  have e : (sgB b * 2 ^ ((fField t).toNat + 1) + (2 ^ ((fField t).toNat + 1) - 1)) * 2 ^ (j + 1) = 2 * ((sgB b * 2 ^ ((fField t).toNat + 1) + (2 ^ ((fField t).toNat + 1) - 1)) * 2 ^ j) := by
    generalize sgB b * 2 ^ ((fField t).toNat + 1) + (2 ^ ((fField t).toNat + 1) - 1) = c
    rw [Nat.pow_succ, ← Nat.mul_assoc, Nat.mul_comm]
  rw [e] at hr ⊢
  generalize (sgB b * 2 ^ ((fField t).toNat + 1) + (2 ^ ((fField t).toNat + 1) - 1)) * 2 ^ j = y at *
  rw [Nat.mod_eq_of_lt (by omega)]
  omega
theorem p_cshift : SpecOk Tryz.prog globs 139 (mkSpec real [.wide, .int .i64] (s_cshift ropsW)) := by
  have hfns : FnsOk Tryz.prog globs [(83, .spec (mkSpec real [.wide, .int .i64] (s_shl rops))), (104, .spec (mkSpec real [.wide, .int .i64] (s_shr rops)))] := (fnsCons (fnSpec (p_shl)) (fnsCons (fnSpec (p_shr)) fnsNil))
  refine spec0 hfns (by kernel_rfl) Tryz.func139 (by kernel_rfl) (by kernel_rfl) (by kernel_rfl) 4 _ _ (.wide) ?_
  clear hfns
  generalize hEE : env0 [(83, .spec (mkSpec real [.wide, .int .i64] (s_shl rops))), (104, .spec (mkSpec real [.wide, .int .i64] (s_shr rops)))] = EE
  intro l r hl hr
  simp only [Forms, Form] at hl
  obtain ⟨_, _, rfl, ⟨x1, rfl⟩, _, _, rfl, ⟨x2, rfl, x2lo, x2hi⟩, rfl⟩ := hl
  subst hEE
  generalize hK : kR (.wide) r = K
  generalize hO : real = O
  generalize hS0 : rops = S0
  generalize hS1 : ropsB = S1
  generalize hS2 : ropsC = S2
  generalize hS3 : ropsD = S3
  generalize hS4 : ropsE = S4
  generalize hS5 : ropsF = S5
  generalize hS6 : ropsG = S6
  generalize hS7 : ropsH = S7
  generalize hS8 : ropsI = S8
  generalize hS9 : ropsJ = S9
  generalize hS10 : ropsK = S10
  generalize hS11 : ropsL = S11
  generalize hS12 : ropsM = S12
  generalize hS13 : ropsN = S13
  generalize hS14 : ropsP = S14
  generalize hS15 : ropsQ = S15
  generalize hS16 : ropsT = S16
  generalize hS17 : ropsUm = S17
  generalize hS18 : ropsU = S18
  generalize hS19 : ropsV = S19
  generalize hS20 : ropsW = S20
  set_option maxRecDepth 100000 in cbv
  subst hO hK hS0 hS1 hS2 hS3 hS4 hS5 hS6 hS7 hS8 hS9 hS10 hS11 hS12 hS13 hS14 hS15 hS16 hS17 hS18 hS19 hS20
  simp only [s_cshift, R.Y] at hr
  try dsimp only [real, rops, ropsB, ropsC, ropsD, ropsE, ropsF, ropsG, ropsH, ropsI, ropsJ, ropsK, ropsL, ropsM, ropsN, ropsP, ropsQ, ropsT, ropsUm, ropsU, ropsV, ropsW]
  obtain ⟨hn, hr⟩ := hr
  subst hr
  dsimp only [ropsW]
  replace hn : -1099511627776 ≤ x2 ∧ x2 ≤ 1099511627776 := hn
  rw [geq_dec, neg_i64 (by omega)]
  unfold cvSh
  refine ⟨imp_f fun h => ?_, imp_t fun h => ?_⟩
  · rw [decide_eq_true_eq] at h
    rw [if_pos h]
    simp only [kR, canon, canons, ekEq, numE, getW, getWord, allInts8, asInt, isK, kindEq, isArgB, strOf, cBig, cInts, cWords, allInts, allWords, r_ofLimbs, r_mkWord, Option.some.injEq, LV.wide.injEq, LV.word.injEq, LV.int.injEq, LV.bool.injEq, LV.str.injEq, LV.big.injEq, LV.tup.injEq, LV.agg.injEq, List.cons.injEq, and_true, true_and]
  · rw [decide_eq_false_iff_not] at h
    rw [if_neg h]
    simp only [kR, canon, canons, ekEq, numE, getW, getWord, allInts8, asInt, isK, kindEq, isArgB, strOf, cBig, cInts, cWords, allInts, allWords, r_ofLimbs, r_mkWord, Option.some.injEq, LV.wide.injEq, LV.word.injEq, LV.int.injEq, LV.bool.injEq, LV.str.injEq, LV.big.injEq, LV.tup.injEq, LV.agg.injEq, List.cons.injEq, and_true, true_and]
theorem p_cnone : SpecOk Tryz.prog globs 91 (mkSpec real [.int .i64, .int .i64, .word] (s_cnone ropsW)) := by
  have hfns : FnsOk Tryz.prog globs [(137, .spec (mkSpec real [.int .i64, .word] (s_payload ropsF))), (79, .spec (mkSpec real [.int .i64] (s_fmtOf rops))), (94, .spec (mkSpec real [.int .i64, .word] (s_cNeg ropsC))), (139, .spec (mkSpec real [.wide, .int .i64] (s_cshift ropsW))), (138, .spec (mkSpec real [.int .i64, .bool, .wide] (s_with10 ropsK))), (95, .spec (mkSpec real [.int .i64, .word] (s_cOf ropsC)))] := (fnsCons (fnSpec (p_payload)) (fnsCons (fnSpec (p_fmtOf)) (fnsCons (fnSpec (p_cNeg)) (fnsCons (fnSpec (p_cshift)) (fnsCons (fnSpec (p_with10)) (fnsCons (fnSpec (p_cOf)) fnsNil))))))
  refine spec0 hfns (by kernel_rfl) Tryz.func91 (by kernel_rfl) (by kernel_rfl) (by kernel_rfl) 4 _ _ (.tup [.word, .int .i64]) ?_
  clear hfns
  generalize hEE : env0 [(137, .spec (mkSpec real [.int .i64, .word] (s_payload ropsF))), (79, .spec (mkSpec real [.int .i64] (s_fmtOf rops))), (94, .spec (mkSpec real [.int .i64, .word] (s_cNeg ropsC))), (139, .spec (mkSpec real [.wide, .int .i64] (s_cshift ropsW))), (138, .spec (mkSpec real [.int .i64, .bool, .wide] (s_with10 ropsK))), (95, .spec (mkSpec real [.int .i64, .word] (s_cOf ropsC)))] = EE
  intro l r hl hr
  simp only [Forms, Form] at hl
  obtain ⟨_, _, rfl, ⟨x1, rfl, x1lo, x1hi⟩, _, _, rfl, ⟨x2, rfl, x2lo, x2hi⟩, _, _, rfl, ⟨x3, rfl⟩, rfl⟩ := hl
  subst hEE
  generalize hK : kR (.tup [.word, .int .i64]) r = K
  generalize hO : real = O
  generalize hS0 : rops = S0
  generalize hS1 : ropsB = S1
  generalize hS2 : ropsC = S2
  generalize hS3 : ropsD = S3
  generalize hS4 : ropsE = S4
  generalize hS5 : ropsF = S5
  generalize hS6 : ropsG = S6
  generalize hS7 : ropsH = S7
  generalize hS8 : ropsI = S8
  generalize hS9 : ropsJ = S9
  generalize hS10 : ropsK = S10
  generalize hS11 : ropsL = S11
  generalize hS12 : ropsM = S12
  generalize hS13 : ropsN = S13
  generalize hS14 : ropsP = S14
  generalize hS15 : ropsQ = S15
  generalize hS16 : ropsT = S16
  generalize hS17 : ropsUm = S17
  generalize hS18 : ropsU = S18
  generalize hS19 : ropsV = S19
  generalize hS20 : ropsW = S20
  set_option maxRecDepth 100000 in cbv
  subst hO hK hS0 hS1 hS2 hS3 hS4 hS5 hS6 hS7 hS8 hS9 hS10 hS11 hS12 hS13 hS14 hS15 hS16 hS17 hS18 hS19 hS20
  simp only [s_cnone, R.Y] at hr
  try dsimp only [real, rops, ropsB, ropsC, ropsD, ropsE, ropsF, ropsG, ropsH, ropsI, ropsJ, ropsK, ropsL, ropsM, ropsN, ropsP, ropsQ, ropsT, ropsUm, ropsU, ropsV, ropsW]
  obtain ⟨hn, ht, hr⟩ := hr
  subst hr
  dsimp only [ropsW]
  replace hn : wNaN x1 x3 = true := hn
  replace ht : 1 ≤ x2 ∧ x2 ≤ 4 := ht
  have hf := (fits_lt (nan_fits hn)).1
  have hp := p_rng x1 hf
  have hq := p_rng x2 ht
  have e1 : arithR .sub .i64 (fPrec x2) (fPrec x1) = fPrec x2 - fPrec x1 := sub_i64 (by omega) (by omega)
  rw [e1, eql_dec]
  refine ⟨⟨by omega, by omega⟩, imp_f fun h => ?_, imp_t fun h => ?_⟩
  · rw [decide_eq_true_eq] at h
    rw [if_pos h]
    simp only [kR, canon, canons, ekEq, numE, getW, getWord, allInts8, asInt, isK, kindEq, isArgB, strOf, cBig, cInts, cWords, allInts, allWords, r_ofLimbs, r_mkWord, Option.some.injEq, LV.wide.injEq, LV.word.injEq, LV.int.injEq, LV.bool.injEq, LV.str.injEq, LV.big.injEq, LV.tup.injEq, LV.agg.injEq, List.cons.injEq, and_true, true_and]
    rfl
  · rw [decide_eq_false_iff_not] at h
    rw [if_neg h]
    simp only [kR, canon, canons, ekEq, numE, getW, getWord, allInts8, asInt, isK, kindEq, isArgB, strOf, cBig, cInts, cWords, allInts, allWords, r_ofLimbs, r_mkWord, Option.some.injEq, LV.wide.injEq, LV.word.injEq, LV.int.injEq, LV.bool.injEq, LV.str.injEq, LV.big.injEq, LV.tup.injEq, LV.agg.injEq, List.cons.injEq, and_true, true_and]
    rfl
theorem p_cWord : SpecOk Tryz.prog globs 46 (mkSpec real [.int .i64, .int .i64, .int .i64, .word] (s_cWord ropsW)) := by
  have hfns : FnsOk Tryz.prog globs [(79, .spec (mkSpec real [.int .i64] (s_fmtOf rops))), (87, .spec (mkSpec real [.int .i64] (s_mIs ropsT))), (88, .spec (mkSpec real [.int .i64, .word] (s_fits ropsB))), (89, inlF Tryz.f89), (90, inlF Tryz.f90), (92, inlF Tryz.f92), (44, .spec (mkSpec real [.int .i64, .word] (s_value ropsL))), (51, .spec (mkSpec real [.int .i64, .int .i64, .st [.bool, .int .i64, .wide], .bool] (s_round ropsT))), (91, .spec (mkSpec real [.int .i64, .int .i64, .word] (s_cnone ropsW))), (93, .spec (mkSpec real [.int .i64, .bool] (s_infW rops))), (94, .spec (mkSpec real [.int .i64, .word] (s_cNeg ropsC))), (95, .spec (mkSpec real [.int .i64, .word] (s_cOf ropsC)))] := (fnsCons (fnSpec (p_fmtOf)) (fnsCons (fnSpec (p_mIs)) (fnsCons (fnSpec (p_fits)) (fnsCons (inl_ok Tryz.func89 (by kernel_rfl) (by kernel_rfl)) (fnsCons (inl_ok Tryz.func90 (by kernel_rfl) (by kernel_rfl)) (fnsCons (inl_ok Tryz.func92 (by kernel_rfl) (by kernel_rfl)) (fnsCons (fnSpec (p_value)) (fnsCons (fnSpec (p_round)) (fnsCons (fnSpec (p_cnone)) (fnsCons (fnSpec (p_infW)) (fnsCons (fnSpec (p_cNeg)) (fnsCons (fnSpec (p_cOf)) fnsNil))))))))))))
  refine spec0 hfns (by kernel_rfl) Tryz.func46 (by kernel_rfl) (by kernel_rfl) (by kernel_rfl) 6 _ _ (.tup [.word, .int .i64, .int .i64]) ?_
  clear hfns
  generalize hEE : env0 [(79, .spec (mkSpec real [.int .i64] (s_fmtOf rops))), (87, .spec (mkSpec real [.int .i64] (s_mIs ropsT))), (88, .spec (mkSpec real [.int .i64, .word] (s_fits ropsB))), (89, inlF Tryz.f89), (90, inlF Tryz.f90), (92, inlF Tryz.f92), (44, .spec (mkSpec real [.int .i64, .word] (s_value ropsL))), (51, .spec (mkSpec real [.int .i64, .int .i64, .st [.bool, .int .i64, .wide], .bool] (s_round ropsT))), (91, .spec (mkSpec real [.int .i64, .int .i64, .word] (s_cnone ropsW))), (93, .spec (mkSpec real [.int .i64, .bool] (s_infW rops))), (94, .spec (mkSpec real [.int .i64, .word] (s_cNeg ropsC))), (95, .spec (mkSpec real [.int .i64, .word] (s_cOf ropsC)))] = EE
  intro l r hl hr
  simp only [Forms, Form] at hl
  obtain ⟨_, _, rfl, ⟨x1, rfl, x1lo, x1hi⟩, _, _, rfl, ⟨x2, rfl, x2lo, x2hi⟩, _, _, rfl, ⟨x3, rfl, x3lo, x3hi⟩, _, _, rfl, ⟨x4, rfl⟩, rfl⟩ := hl
  subst hEE
  generalize hK : kR (.tup [.word, .int .i64, .int .i64]) r = K
  generalize hO : real = O
  generalize hS0 : rops = S0
  generalize hS1 : ropsB = S1
  generalize hS2 : ropsC = S2
  generalize hS3 : ropsD = S3
  generalize hS4 : ropsE = S4
  generalize hS5 : ropsF = S5
  generalize hS6 : ropsG = S6
  generalize hS7 : ropsH = S7
  generalize hS8 : ropsI = S8
  generalize hS9 : ropsJ = S9
  generalize hS10 : ropsK = S10
  generalize hS11 : ropsL = S11
  generalize hS12 : ropsM = S12
  generalize hS13 : ropsN = S13
  generalize hS14 : ropsP = S14
  generalize hS15 : ropsQ = S15
  generalize hS16 : ropsT = S16
  generalize hS17 : ropsUm = S17
  generalize hS18 : ropsU = S18
  generalize hS19 : ropsV = S19
  generalize hS20 : ropsW = S20
  set_option maxRecDepth 100000 in cbv
  subst hO hK hS0 hS1 hS2 hS3 hS4 hS5 hS6 hS7 hS8 hS9 hS10 hS11 hS12 hS13 hS14 hS15 hS16 hS17 hS18 hS19 hS20
  simp only [s_cWord, R.Y] at hr
  subst hr
  try dsimp only [real, rops, ropsB, ropsC, ropsD, ropsE, ropsF, ropsG, ropsH, ropsI, ropsJ, ropsK, ropsL, ropsM, ropsN, ropsP, ropsQ, ropsT, ropsUm, ropsU, ropsV, ropsW]
  have leaf0 : cvOk x1 x2 x3 x4 = false → kR (AT.tup [AT.word, AT.int IntKind.i64, AT.int IntKind.i64]) (LV.tup [LV.word (cvW x1 x2 x3 x4), LV.int IntKind.i64 (cvX x1 x2 x3 x4), LV.int IntKind.i64 (cvE x1 x2 x3 x4)])
      (LV.tup [LV.agg [LV.lit IntKind.u64 0, LV.lit IntKind.u64 0], LV.lit IntKind.i64 0, LV.lit IntKind.i64 1]) := fun h => by
    unfold cvW cvX cvE
    rw [h]
    simp only [kR, canon, canons, ekEq, numE, getW, getWord, allInts8, asInt, isK, kindEq, isArgB, strOf, cBig, cInts, cWords, allInts, allWords, r_ofLimbs, r_mkWord, Option.some.injEq, LV.wide.injEq, LV.word.injEq, LV.int.injEq, LV.bool.injEq, LV.str.injEq, LV.big.injEq, LV.tup.injEq, LV.agg.injEq, List.cons.injEq, and_true, true_and]
    exact ⟨mkWord_0, rfl, rfl⟩
  cases hk : fOk x2 with
  | false => exact ⟨imp_f fun _ => leaf0 (by unfold cvOk; rw [hk]; rfl), imp_t fun h => by simp at h⟩
  | true =>
    refine ⟨imp_f fun h => by simp at h, imp_t fun _ => ?_⟩
    cases hm : isM x3 with
    | false => exact ⟨imp_f fun _ => leaf0 (by unfold cvOk; rw [hk, hm]; rfl), imp_t fun h => by simp at h⟩
    | true =>
      refine ⟨imp_f fun h => by simp at h, imp_t fun _ => ?_⟩
      cases hF : fFits x1 x4 with
      | false => exact ⟨imp_f fun _ => leaf0 (by unfold cvOk; rw [hk, hm, hF]; rfl), imp_t fun h => by simp at h⟩
      | true =>
        refine ⟨imp_f fun h => by simp at h, imp_t fun _ => ?_⟩
        have ho : cvOk x1 x2 x3 x4 = true := by unfold cvOk; rw [hk, hm, hF]; rfl
        have hto : 1 ≤ x2 ∧ x2 ≤ 4 := of_decide_eq_true hk
        have hcr := cls_rng x1 x4
        have hcp : cls x1 x4 ≠ 0 := by rw [Ne, cls_pos, hF]; decide
        have er : ∀ w : W, ∀ e : Int, rOk x2 x3 e w false = true → rE x2 x3 e w false = 0 := fun w e h => by unfold rE; rw [h]; rfl
        have fin : 4 ≤ cls x1 x4 → rE x2 x3 (vExp x1 x4) (vSig x1 x4) false = 0 := fun h => er _ _ (fin_right ((fin_iff _ _).2 h) hto hm)
        unfold cvW cvX cvE
        rw [ho, cond_true, cond_true, cond_true]
        unfold cvC cvCX
        simp only [eql_dec]
        have hcc : cls x1 x4 = 1 ∨ cls x1 x4 = 2 ∨ cls x1 x4 = 3 ∨ cls x1 x4 = 4 ∨ cls x1 x4 = 5 ∨ cls x1 x4 = 6 := by omega
        have hn1 : cls x1 x4 = 1 ∨ cls x1 x4 = 2 → wNaN x1 x4 = true := fun h => decide_eq_true h
        have hcf : cvF x1 x2 x3 x4 = rW x2 x3 (vNeg x1 x4) (vExp x1 x4) (vSig x1 x4) false := rfl
        have hcx : cvFX x1 x2 x3 x4 = rX x2 x3 (vNeg x1 x4) (vExp x1 x4) (vSig x1 x4) false := rfl
        rw [hcf, hcx]
        rcases hcc with h | h | h | h | h | h
        all_goals (rw [h] at fin hn1)
        all_goals simp [h, hto, hn1, fin, kR, canon, canons, isK, asInt, kindEq, getWord]
theorem p_awake29 : SpecOk Tryz.prog globs 12 (mkSpec real [] (s_awake29 ropsW)) := by
  have hfns : FnsOk Tryz.prog globs [(46, .spec (mkSpec real [.int .i64, .int .i64, .int .i64, .word] (s_cWord ropsW)))] := (fnsCons (fnSpec (p_cWord)) fnsNil)
  refine spec0 hfns (by kernel_rfl) Tryz.func12 (by kernel_rfl) (by kernel_rfl) (by kernel_rfl) 4 _ _ (.bool) ?_
  clear hfns
  generalize hEE : env0 [(46, .spec (mkSpec real [.int .i64, .int .i64, .int .i64, .word] (s_cWord ropsW)))] = EE
  intro l r hl hr
  simp only [Forms, Form] at hl
  obtain rfl := hl
  subst hEE
  generalize hK : kR (.bool) r = K
  generalize hO : real = O
  generalize hS0 : rops = S0
  generalize hS1 : ropsB = S1
  generalize hS2 : ropsC = S2
  generalize hS3 : ropsD = S3
  generalize hS4 : ropsE = S4
  generalize hS5 : ropsF = S5
  generalize hS6 : ropsG = S6
  generalize hS7 : ropsH = S7
  generalize hS8 : ropsI = S8
  generalize hS9 : ropsJ = S9
  generalize hS10 : ropsK = S10
  generalize hS11 : ropsL = S11
  generalize hS12 : ropsM = S12
  generalize hS13 : ropsN = S13
  generalize hS14 : ropsP = S14
  generalize hS15 : ropsQ = S15
  generalize hS16 : ropsT = S16
  generalize hS17 : ropsUm = S17
  generalize hS18 : ropsU = S18
  generalize hS19 : ropsV = S19
  generalize hS20 : ropsW = S20
  set_option maxRecDepth 100000 in cbv
  subst hO hK hS0 hS1 hS2 hS3 hS4 hS5 hS6 hS7 hS8 hS9 hS10 hS11 hS12 hS13 hS14 hS15 hS16 hS17 hS18 hS19 hS20
  simp only [s_awake29, R.Y] at hr
  subst hr
  try dsimp only [real, rops, ropsB, ropsC, ropsD, ropsE, ropsF, ropsG, ropsH, ropsI, ropsJ, ropsK, ropsL, ropsM, ropsN, ropsP, ropsQ, ropsT, ropsUm, ropsU, ropsV, ropsW]
  simp only [kb_t, kb_lt, kb_lf]; decide +kernel
end Go.LE