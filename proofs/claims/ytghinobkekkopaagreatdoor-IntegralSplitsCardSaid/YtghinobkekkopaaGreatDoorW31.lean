import Derived.Test.YtghinobkekkopaaGreatDoorW30
import Derived.Test.YtghinobkekkopaaGreatDoorLeS
set_option linter.unusedVariables false
set_option linter.unusedSimpArgs false
namespace Go.LE
open Go Go.Proofs
structure OpsW where
  isF : Int → Prop
  isMt : Int → Prop
  nan : Int → BitVec 128 → Prop
  fit : Int → BitVec 128 → Prop
  rng : Int → Prop
  sh : W → Int → W
  cvN : Int → Int → BitVec 128 → BitVec 128
  nX : Int → BitVec 128 → Int
  cvW : Int → Int → Int → BitVec 128 → BitVec 128
  cvX : Int → Int → Int → BitVec 128 → Int
  cvE : Int → Int → Int → BitVec 128 → Int
  cvC : Int → Int → Int → BitVec 128 → BitVec 128
  cvCX : Int → Int → Int → BitVec 128 → Int
noncomputable def ropsW : OpsW where
  isF := fun f => 1 ≤ f ∧ f ≤ 4
  isMt := fun m => isM m = true
  nan := fun f w => wNaN f w = true
  fit := fun f w => fFits f w = true
  rng := fun x => -1099511627776 ≤ x ∧ x ≤ 1099511627776
  sh := cvSh
  cvN := cvN
  nX := fun f w => if cls f w = 1 then 1 else 0
  cvW := cvW
  cvX := cvX
  cvE := cvE
  cvC := cvC
  cvCX := cvCX
def s_cshift (S : OpsW) : List LV → R LV
  | [.wide a, .int _ n] => .req (S.rng n) (.ok (.wide (S.sh a n)))
  | _ => .fail
def s_cnone (S : OpsW) : List LV → R LV
  | [.int _ f, .int _ t, .word w] => .req (S.nan f w) (.req (S.isF t) (.ok (.tup [.word (S.cvN f t w), .int .i64 (S.nX f w)])))
  | _ => .fail
def s_cWord (S : OpsW) : List LV → R LV
  | [.int _ f, .int _ t, .int _ m, .word w] => .ok (.tup [.word (S.cvW f t m w), .int .i64 (S.cvX f t m w), .int .i64 (S.cvE f t m w)])
  | _ => .fail
def s_word29 (S : OpsW) : List LV → R LV
  | [.int _ f, .int _ t, .int _ m, .word w] => .req (S.fit f w) (.req (S.isF t) (.req (S.isMt m) (.ok (.tup [.word (S.cvC f t m w), .int .i64 (S.cvCX f t m w)]))))
  | _ => .fail
def s_awake29 (_ : OpsW) : List LV → R LV := fun _ => .ok (.bool true)
def s_ConvertWords (_ : OpsW) : List LV → R LV := fun _ => .ok (.bool true)
theorem sg0 (b : Bool) : (bWord (bif b then bytesOf [49] else bytesOf [48])).toNat = sgB b * 2 ^ (0 : Int).toNat + (2 ^ (0 : Int).toNat - 1) := by
  rw [bWord_sign]; cases b <;> rfl
theorem pay0 {f : Int} (hf : 1 ≤ f ∧ f ≤ 4) (w : BitVec 128) : payA f w 0 = 0 := by
  have := payA_lt f w 0
  simpa using this
theorem one_step {s : ByteArray} {b : Bool} {i : Nat} (h : (bWord s).toNat = sgB b * 2 ^ i + (2 ^ i - 1)) (hi : i ≤ 20) : (bWord (s ++ bytesOf [49])).toNat = sgB b * 2 ^ (i + 1) + (2 ^ (i + 1) - 1) := by
  have hw := bWord_app s true
  rw [show (bif true then bytesOf [49] else bytesOf [48]) = bytesOf [49] from rfl, h, if_pos rfl] at hw
  have h1 := Nat.two_pow_pos i
  have h2 : 2 ^ i ≤ 2 ^ 20 := Nat.pow_le_pow_right (by decide) hi
  have h3 : 2 ^ (i + 1) = 2 * 2 ^ i := by rw [Nat.pow_succ, Nat.mul_comm]
  have h4 : sgB b ≤ 1 := by unfold sgB; cases b <;> decide
  have h5 : sgB b * 2 ^ i ≤ 1 * 2 ^ i := Nat.mul_le_mul_right _ h4
  rw [hw, h3, Nat.mul_left_comm]
  generalize sgB b * 2 ^ i = z at *
  generalize 2 ^ i = y at *
  rw [Nat.mod_eq_of_lt (by omega)]
  omega
theorem bit_step {f t : Int} {w : BitVec 128} (hf : 1 ≤ f ∧ f ≤ 4) (ht : 1 ≤ t ∧ t ≤ 4) {s : ByteArray} {b : Bool} {j : Nat} (h : (bWord s).toNat = (sgB b * 2 ^ ((fField t).toNat + 1) + (2 ^ ((fField t).toNat + 1) - 1)) * 2 ^ j + payA f w j) (hj : j + 1 ≤ (fPrec t - 2).toNat) :
    (bWord (s ++ (bif wdBit w (fPrec f - 3 - j) then bytesOf [49] else bytesOf [48]))).toNat = (sgB b * 2 ^ ((fField t).toNat + 1) + (2 ^ ((fField t).toNat + 1) - 1)) * 2 ^ (j + 1) + payA f w (j + 1) := by
  have hw := bWord_app s (wdBit w (fPrec f - 3 - j))
  rw [hw, h]
  have hp := payA_step hf w j
  have hr := cv_rng ht b (i := j + 1) (p := payA f w (j + 1)) (by omega) (payA_lt f w (j + 1))
  have e : (sgB b * 2 ^ ((fField t).toNat + 1) + (2 ^ ((fField t).toNat + 1) - 1)) * 2 ^ (j + 1) = 2 * ((sgB b * 2 ^ ((fField t).toNat + 1) + (2 ^ ((fField t).toNat + 1) - 1)) * 2 ^ j) := by
    generalize sgB b * 2 ^ ((fField t).toNat + 1) + (2 ^ ((fField t).toNat + 1) - 1) = c
    rw [Nat.pow_succ, ← Nat.mul_assoc, Nat.mul_comm]
  rw [e] at hr ⊢
  generalize (sgB b * 2 ^ ((fField t).toNat + 1) + (2 ^ ((fField t).toNat + 1) - 1)) * 2 ^ j = y at *
  rw [Nat.mod_eq_of_lt (by omega)]
  omega
theorem p_cshift : SpecOk Tryz.prog globs 116 (mkSpec real [.wide, .int .i64] (s_cshift ropsW)) := by
  have hfns : FnsOk Tryz.prog globs [(56, .spec (mkSpec real [.wide, .int .i64] (s_shl rops))), (96, .spec (mkSpec real [.wide, .int .i64] (s_shr rops)))] := (fnsCons (fnSpec (p_shl)) (fnsCons (fnSpec (p_shr)) fnsNil))
  refine spec0 hfns (by kernel_rfl) Tryz.func116 (by kernel_rfl) (by kernel_rfl) (by kernel_rfl) 4 _ _ (.wide) ?_
  clear hfns
  generalize hEE : env0 [(56, .spec (mkSpec real [.wide, .int .i64] (s_shl rops))), (96, .spec (mkSpec real [.wide, .int .i64] (s_shr rops)))] = EE
  intro l r hl hr
  simp only [Forms, Form] at hl
  obtain ⟨_, _, rfl, ⟨x1, rfl⟩, _, _, rfl, ⟨x2, rfl, x2lo, x2hi⟩, rfl⟩ := hl
  subst hEE
  generalize hK : kR (.wide) r = K
  generalize hO : real = O
  generalize hS0 : rops = S0
  generalize hS1 : ropsB = S1
  generalize hS2 : ropsC = S2
  generalize hS3 : ropsD = S3
  generalize hS4 : ropsE = S4
  generalize hS5 : ropsF = S5
  generalize hS6 : ropsG = S6
  generalize hS7 : ropsH = S7
  generalize hS8 : ropsI = S8
  generalize hS9 : ropsJ = S9
  generalize hS10 : ropsK = S10
  generalize hS11 : ropsL = S11
  generalize hS12 : ropsM = S12
  generalize hS13 : ropsN = S13
  generalize hS14 : ropsP = S14
  generalize hS15 : ropsQ = S15
  generalize hS16 : ropsT = S16
  generalize hS17 : ropsU = S17
  generalize hS18 : ropsV = S18
  generalize hS19 : ropsW = S19
  set_option maxRecDepth 100000 in cbv
  subst hO hK hS0 hS1 hS2 hS3 hS4 hS5 hS6 hS7 hS8 hS9 hS10 hS11 hS12 hS13 hS14 hS15 hS16 hS17 hS18 hS19
  simp only [s_cshift, R.Y] at hr
  try dsimp only [real, rops, ropsB, ropsC, ropsD, ropsE, ropsF, ropsG, ropsH, ropsI, ropsJ, ropsK, ropsL, ropsM, ropsN, ropsP, ropsQ, ropsT, ropsU, ropsV, ropsW]
  obtain ⟨hn, hr⟩ := hr
  subst hr
  dsimp only [ropsW]
  replace hn : -1099511627776 ≤ x2 ∧ x2 ≤ 1099511627776 := hn
  rw [geq_dec, neg_i64 (by omega)]
  unfold cvSh
  refine ⟨imp_f fun h => ?_, imp_t fun h => ?_⟩
  · rw [decide_eq_true_eq] at h
    rw [if_pos h]
    simp only [kR, canon, canons, getW, getWord, allInts8, asInt, isK, kindEq, isArgB, strOf, cBig, cInts, cWords, allInts, allWords, r_ofLimbs, r_mkWord, Option.some.injEq, LV.wide.injEq, LV.word.injEq, LV.int.injEq, LV.bool.injEq, LV.str.injEq, LV.big.injEq, LV.tup.injEq, LV.agg.injEq, List.cons.injEq, and_true, true_and]
  · rw [decide_eq_false_iff_not] at h
    rw [if_neg h]
    simp only [kR, canon, canons, getW, getWord, allInts8, asInt, isK, kindEq, isArgB, strOf, cBig, cInts, cWords, allInts, allWords, r_ofLimbs, r_mkWord, Option.some.injEq, LV.wide.injEq, LV.word.injEq, LV.int.injEq, LV.bool.injEq, LV.str.injEq, LV.big.injEq, LV.tup.injEq, LV.agg.injEq, List.cons.injEq, and_true, true_and]
theorem p_cnone : SpecOk Tryz.prog globs 71 (mkSpec real [.int .i64, .int .i64, .word] (s_cnone ropsW)) := by
  have hfns : FnsOk Tryz.prog globs [(114, .spec (mkSpec real [.int .i64, .word] (s_payload ropsF))), (65, .spec (mkSpec real [.int .i64] (s_fmtOf rops))), (74, .spec (mkSpec real [.int .i64, .word] (s_cNeg ropsC))), (116, .spec (mkSpec real [.wide, .int .i64] (s_cshift ropsW))), (115, .spec (mkSpec real [.int .i64, .bool, .wide] (s_with10 ropsK))), (75, .spec (mkSpec real [.int .i64, .word] (s_cOf ropsC)))] := (fnsCons (fnSpec (p_payload)) (fnsCons (fnSpec (p_fmtOf)) (fnsCons (fnSpec (p_cNeg)) (fnsCons (fnSpec (p_cshift)) (fnsCons (fnSpec (p_with10)) (fnsCons (fnSpec (p_cOf)) fnsNil))))))
  refine spec0 hfns (by kernel_rfl) Tryz.func71 (by kernel_rfl) (by kernel_rfl) (by kernel_rfl) 4 _ _ (.tup [.word, .int .i64]) ?_
  clear hfns
  generalize hEE : env0 [(114, .spec (mkSpec real [.int .i64, .word] (s_payload ropsF))), (65, .spec (mkSpec real [.int .i64] (s_fmtOf rops))), (74, .spec (mkSpec real [.int .i64, .word] (s_cNeg ropsC))), (116, .spec (mkSpec real [.wide, .int .i64] (s_cshift ropsW))), (115, .spec (mkSpec real [.int .i64, .bool, .wide] (s_with10 ropsK))), (75, .spec (mkSpec real [.int .i64, .word] (s_cOf ropsC)))] = EE
  intro l r hl hr
  simp only [Forms, Form] at hl
  obtain ⟨_, _, rfl, ⟨x1, rfl, x1lo, x1hi⟩, _, _, rfl, ⟨x2, rfl, x2lo, x2hi⟩, _, _, rfl, ⟨x3, rfl⟩, rfl⟩ := hl
  subst hEE
  generalize hK : kR (.tup [.word, .int .i64]) r = K
  generalize hO : real = O
  generalize hS0 : rops = S0
  generalize hS1 : ropsB = S1
  generalize hS2 : ropsC = S2
  generalize hS3 : ropsD = S3
  generalize hS4 : ropsE = S4
  generalize hS5 : ropsF = S5
  generalize hS6 : ropsG = S6
  generalize hS7 : ropsH = S7
  generalize hS8 : ropsI = S8
  generalize hS9 : ropsJ = S9
  generalize hS10 : ropsK = S10
  generalize hS11 : ropsL = S11
  generalize hS12 : ropsM = S12
  generalize hS13 : ropsN = S13
  generalize hS14 : ropsP = S14
  generalize hS15 : ropsQ = S15
  generalize hS16 : ropsT = S16
  generalize hS17 : ropsU = S17
  generalize hS18 : ropsV = S18
  generalize hS19 : ropsW = S19
  set_option maxRecDepth 100000 in cbv
  subst hO hK hS0 hS1 hS2 hS3 hS4 hS5 hS6 hS7 hS8 hS9 hS10 hS11 hS12 hS13 hS14 hS15 hS16 hS17 hS18 hS19
  simp only [s_cnone, R.Y] at hr
  try dsimp only [real, rops, ropsB, ropsC, ropsD, ropsE, ropsF, ropsG, ropsH, ropsI, ropsJ, ropsK, ropsL, ropsM, ropsN, ropsP, ropsQ, ropsT, ropsU, ropsV, ropsW]
  obtain ⟨hn, ht, hr⟩ := hr
  subst hr
  dsimp only [ropsW]
  replace hn : wNaN x1 x3 = true := hn
  replace ht : 1 ≤ x2 ∧ x2 ≤ 4 := ht
  have hf := (fits_lt (nan_fits hn)).1
  have hp := p_rng x1 hf
  have hq := p_rng x2 ht
  have e1 : arithR .sub .i64 (fPrec x2) (fPrec x1) = fPrec x2 - fPrec x1 := sub_i64 (by omega) (by omega)
  rw [e1, eql_dec]
  refine ⟨⟨by omega, by omega⟩, imp_f fun h => ?_, imp_t fun h => ?_⟩
  · rw [decide_eq_true_eq] at h
    rw [if_pos h]
    simp only [kR, canon, canons, getW, getWord, allInts8, asInt, isK, kindEq, isArgB, strOf, cBig, cInts, cWords, allInts, allWords, r_ofLimbs, r_mkWord, Option.some.injEq, LV.wide.injEq, LV.word.injEq, LV.int.injEq, LV.bool.injEq, LV.str.injEq, LV.big.injEq, LV.tup.injEq, LV.agg.injEq, List.cons.injEq, and_true, true_and]
    rfl
  · rw [decide_eq_false_iff_not] at h
    rw [if_neg h]
    simp only [kR, canon, canons, getW, getWord, allInts8, asInt, isK, kindEq, isArgB, strOf, cBig, cInts, cWords, allInts, allWords, r_ofLimbs, r_mkWord, Option.some.injEq, LV.wide.injEq, LV.word.injEq, LV.int.injEq, LV.bool.injEq, LV.str.injEq, LV.big.injEq, LV.tup.injEq, LV.agg.injEq, List.cons.injEq, and_true, true_and]
    rfl
theorem p_cWord : SpecOk Tryz.prog globs 28 (mkSpec real [.int .i64, .int .i64, .int .i64, .word] (s_cWord ropsW)) := by
  have hfns : FnsOk Tryz.prog globs [(65, .spec (mkSpec real [.int .i64] (s_fmtOf rops))), (66, .spec (mkSpec real [.int .i64] (s_mIs ropsT))), (67, .spec (mkSpec real [.int .i64, .word] (s_fits ropsB))), (68, inlF Tryz.f68), (70, inlF Tryz.f70), (72, inlF Tryz.f72), (47, .spec (mkSpec real [.int .i64, .word] (s_value ropsL))), (69, .spec (mkSpec real [.int .i64, .int .i64, .st [.bool, .int .i64, .wide], .bool] (s_round ropsT))), (71, .spec (mkSpec real [.int .i64, .int .i64, .word] (s_cnone ropsW))), (73, .spec (mkSpec real [.int .i64, .bool] (s_infW rops))), (74, .spec (mkSpec real [.int .i64, .word] (s_cNeg ropsC))), (75, .spec (mkSpec real [.int .i64, .word] (s_cOf ropsC)))] := (fnsCons (fnSpec (p_fmtOf)) (fnsCons (fnSpec (p_mIs)) (fnsCons (fnSpec (p_fits)) (fnsCons (inl_ok Tryz.func68 (by kernel_rfl) (by kernel_rfl)) (fnsCons (inl_ok Tryz.func70 (by kernel_rfl) (by kernel_rfl)) (fnsCons (inl_ok Tryz.func72 (by kernel_rfl) (by kernel_rfl)) (fnsCons (fnSpec (p_value)) (fnsCons (fnSpec (p_round)) (fnsCons (fnSpec (p_cnone)) (fnsCons (fnSpec (p_infW)) (fnsCons (fnSpec (p_cNeg)) (fnsCons (fnSpec (p_cOf)) fnsNil))))))))))))
  refine spec0 hfns (by kernel_rfl) Tryz.func28 (by kernel_rfl) (by kernel_rfl) (by kernel_rfl) 6 _ _ (.tup [.word, .int .i64, .int .i64]) ?_
  clear hfns
  generalize hEE : env0 [(65, .spec (mkSpec real [.int .i64] (s_fmtOf rops))), (66, .spec (mkSpec real [.int .i64] (s_mIs ropsT))), (67, .spec (mkSpec real [.int .i64, .word] (s_fits ropsB))), (68, inlF Tryz.f68), (70, inlF Tryz.f70), (72, inlF Tryz.f72), (47, .spec (mkSpec real [.int .i64, .word] (s_value ropsL))), (69, .spec (mkSpec real [.int .i64, .int .i64, .st [.bool, .int .i64, .wide], .bool] (s_round ropsT))), (71, .spec (mkSpec real [.int .i64, .int .i64, .word] (s_cnone ropsW))), (73, .spec (mkSpec real [.int .i64, .bool] (s_infW rops))), (74, .spec (mkSpec real [.int .i64, .word] (s_cNeg ropsC))), (75, .spec (mkSpec real [.int .i64, .word] (s_cOf ropsC)))] = EE
  intro l r hl hr
  simp only [Forms, Form] at hl
  obtain ⟨_, _, rfl, ⟨x1, rfl, x1lo, x1hi⟩, _, _, rfl, ⟨x2, rfl, x2lo, x2hi⟩, _, _, rfl, ⟨x3, rfl, x3lo, x3hi⟩, _, _, rfl, ⟨x4, rfl⟩, rfl⟩ := hl
  subst hEE
  generalize hK : kR (.tup [.word, .int .i64, .int .i64]) r = K
  generalize hO : real = O
  generalize hS0 : rops = S0
  generalize hS1 : ropsB = S1
  generalize hS2 : ropsC = S2
  generalize hS3 : ropsD = S3
  generalize hS4 : ropsE = S4
  generalize hS5 : ropsF = S5
  generalize hS6 : ropsG = S6
  generalize hS7 : ropsH = S7
  generalize hS8 : ropsI = S8
  generalize hS9 : ropsJ = S9
  generalize hS10 : ropsK = S10
  generalize hS11 : ropsL = S11
  generalize hS12 : ropsM = S12
  generalize hS13 : ropsN = S13
  generalize hS14 : ropsP = S14
  generalize hS15 : ropsQ = S15
  generalize hS16 : ropsT = S16
  generalize hS17 : ropsU = S17
  generalize hS18 : ropsV = S18
  generalize hS19 : ropsW = S19
  set_option maxRecDepth 100000 in cbv
  subst hO hK hS0 hS1 hS2 hS3 hS4 hS5 hS6 hS7 hS8 hS9 hS10 hS11 hS12 hS13 hS14 hS15 hS16 hS17 hS18 hS19
  simp only [s_cWord, R.Y] at hr
  subst hr
  try dsimp only [real, rops, ropsB, ropsC, ropsD, ropsE, ropsF, ropsG, ropsH, ropsI, ropsJ, ropsK, ropsL, ropsM, ropsN, ropsP, ropsQ, ropsT, ropsU, ropsV, ropsW]
  have leaf0 : cvOk x1 x2 x3 x4 = false → kR (AT.tup [AT.word, AT.int IntKind.i64, AT.int IntKind.i64]) (LV.tup [LV.word (cvW x1 x2 x3 x4), LV.int IntKind.i64 (cvX x1 x2 x3 x4), LV.int IntKind.i64 (cvE x1 x2 x3 x4)])
      (LV.tup [LV.agg [LV.lit IntKind.u64 0, LV.lit IntKind.u64 0], LV.lit IntKind.i64 0, LV.lit IntKind.i64 1]) := fun h => by
    unfold cvW cvX cvE
    rw [h]
    simp only [kR, canon, canons, getW, getWord, allInts8, asInt, isK, kindEq, isArgB, strOf, cBig, cInts, cWords, allInts, allWords, r_ofLimbs, r_mkWord, Option.some.injEq, LV.wide.injEq, LV.word.injEq, LV.int.injEq, LV.bool.injEq, LV.str.injEq, LV.big.injEq, LV.tup.injEq, LV.agg.injEq, List.cons.injEq, and_true, true_and]
    exact ⟨mkWord_0, rfl, rfl⟩
  cases hk : fOk x2 with
  | false => exact ⟨imp_f fun _ => leaf0 (by unfold cvOk; rw [hk]; rfl), imp_t fun h => by simp at h⟩
  | true =>
    refine ⟨imp_f fun h => by simp at h, imp_t fun _ => ?_⟩
    cases hm : isM x3 with
    | false => exact ⟨imp_f fun _ => leaf0 (by unfold cvOk; rw [hk, hm]; rfl), imp_t fun h => by simp at h⟩
    | true =>
      refine ⟨imp_f fun h => by simp at h, imp_t fun _ => ?_⟩
      cases hF : fFits x1 x4 with
      | false => exact ⟨imp_f fun _ => leaf0 (by unfold cvOk; rw [hk, hm, hF]; rfl), imp_t fun h => by simp at h⟩
      | true =>
        refine ⟨imp_f fun h => by simp at h, imp_t fun _ => ?_⟩
        have ho : cvOk x1 x2 x3 x4 = true := by unfold cvOk; rw [hk, hm, hF]; rfl
        have hto : 1 ≤ x2 ∧ x2 ≤ 4 := of_decide_eq_true hk
        have hcr := cls_rng x1 x4
        have hcp : cls x1 x4 ≠ 0 := by rw [Ne, cls_pos, hF]; decide
        have er : ∀ w : W, ∀ e : Int, rOk x2 x3 e w false = true → rE x2 x3 e w false = 0 := fun w e h => by unfold rE; rw [h]; rfl
        have fin : 4 ≤ cls x1 x4 → rE x2 x3 (vExp x1 x4) (vSig x1 x4) false = 0 := fun h => er _ _ (fin_right ((fin_iff _ _).2 h) hto hm)
        unfold cvW cvX cvE
        rw [ho, cond_true, cond_true, cond_true]
        unfold cvC cvCX
        simp only [eql_dec]
        have hcc : cls x1 x4 = 1 ∨ cls x1 x4 = 2 ∨ cls x1 x4 = 3 ∨ cls x1 x4 = 4 ∨ cls x1 x4 = 5 ∨ cls x1 x4 = 6 := by omega
        have hn1 : cls x1 x4 = 1 ∨ cls x1 x4 = 2 → wNaN x1 x4 = true := fun h => decide_eq_true h
        have hcf : cvF x1 x2 x3 x4 = rW x2 x3 (vNeg x1 x4) (vExp x1 x4) (vSig x1 x4) false := rfl
        have hcx : cvFX x1 x2 x3 x4 = rX x2 x3 (vNeg x1 x4) (vExp x1 x4) (vSig x1 x4) false := rfl
        rw [hcf, hcx]
        rcases hcc with h | h | h | h | h | h
        all_goals (rw [h] at fin hn1)
        all_goals simp [h, hto, hn1, fin, kR, canon, canons, isK, asInt, kindEq, getWord]
set_option maxHeartbeats 4000000 in
theorem p_word29 : SpecOk Tryz.prog globs 32 (mkSpec real [.int .i64, .int .i64, .int .i64, .word] (s_word29 ropsW)) := by
  have hfns : FnsOk Tryz.prog globs [(19, .spec (mkSpec real [.int .i64, .word] (s_class06 ropsC))), (20, .spec (mkSpec real [.int .i64, .word] (s_neg06 ropsC))), (76, .spec (mkSpec real [.bool] (s_sign05 rops))), (77, .spec (mkSpec real [.int .i64] (s_field rops))), (60, .spec (mkSpec real [.int .i64] (s_prec rops))), (50, .spec (mkSpec real [.word, .int .i64] (s_bit05 ropsB))), (78, .spec (mkSpec real [.str] (s_bword rops))), (79, .spec (mkSpec real [.int .i64, .bool] (s_refInf rops))), (80, .spec (mkSpec real [.int .i64, .bool] (s_refNought rops))), (22, .spec (mkSpec real [.int .i64, .word] (s_value07 ropsM))), (81, .spec (mkSpec real [.st [.bool, .int .i64, .wide], .bool] (s_of09 ropsU))), (35, .spec (mkSpec real [.int .i64, .int .i64, .st [.bool, .int .i64, .big, .big, .int .i64]] (s_round09 ropsU)))] := (fnsCons (fnSpec (p_class06)) (fnsCons (fnSpec (p_neg06)) (fnsCons (fnSpec (p_sign05)) (fnsCons (fnSpec (p_field)) (fnsCons (fnSpec (p_prec)) (fnsCons (fnSpec (p_bit05)) (fnsCons (fnSpec (p_bword)) (fnsCons (fnSpec (p_refInf)) (fnsCons (fnSpec (p_refNought)) (fnsCons (fnSpec (p_value07)) (fnsCons (fnSpec (p_of09)) (fnsCons (fnSpec (p_round09)) fnsNil))))))))))))
  refine specL (fun c => match c with | 1 => [0,1,7,8,10,12,13] | 3 => [0,1,7,8,10,12,14] | _ => []) hfns (by kernel_rfl) Tryz.func32 (by kernel_rfl) (by kernel_rfl) (by kernel_rfl) 4 _ _ (.tup [.word, .int .i64]) ?_
  clear hfns
  generalize hEE : envL (fun c => match c with | 1 => [0,1,7,8,10,12,13] | 3 => [0,1,7,8,10,12,14] | _ => []) [(19, .spec (mkSpec real [.int .i64, .word] (s_class06 ropsC))), (20, .spec (mkSpec real [.int .i64, .word] (s_neg06 ropsC))), (76, .spec (mkSpec real [.bool] (s_sign05 rops))), (77, .spec (mkSpec real [.int .i64] (s_field rops))), (60, .spec (mkSpec real [.int .i64] (s_prec rops))), (50, .spec (mkSpec real [.word, .int .i64] (s_bit05 ropsB))), (78, .spec (mkSpec real [.str] (s_bword rops))), (79, .spec (mkSpec real [.int .i64, .bool] (s_refInf rops))), (80, .spec (mkSpec real [.int .i64, .bool] (s_refNought rops))), (22, .spec (mkSpec real [.int .i64, .word] (s_value07 ropsM))), (81, .spec (mkSpec real [.st [.bool, .int .i64, .wide], .bool] (s_of09 ropsU))), (35, .spec (mkSpec real [.int .i64, .int .i64, .st [.bool, .int .i64, .big, .big, .int .i64]] (s_round09 ropsU)))] = EE
  intro l r hl hr
  simp only [Forms, Form] at hl
  obtain ⟨_, _, rfl, ⟨x1, rfl, x1lo, x1hi⟩, _, _, rfl, ⟨x2, rfl, x2lo, x2hi⟩, _, _, rfl, ⟨x3, rfl, x3lo, x3hi⟩, _, _, rfl, ⟨x4, rfl⟩, rfl⟩ := hl
  subst hEE
  generalize hK : kR (.tup [.word, .int .i64]) r = K
  generalize hO : real = O
  generalize hS0 : rops = S0
  generalize hS1 : ropsB = S1
  generalize hS2 : ropsC = S2
  generalize hS3 : ropsD = S3
  generalize hS4 : ropsE = S4
  generalize hS5 : ropsF = S5
  generalize hS6 : ropsG = S6
  generalize hS7 : ropsH = S7
  generalize hS8 : ropsI = S8
  generalize hS9 : ropsJ = S9
  generalize hS10 : ropsK = S10
  generalize hS11 : ropsL = S11
  generalize hS12 : ropsM = S12
  generalize hS13 : ropsN = S13
  generalize hS14 : ropsP = S14
  generalize hS15 : ropsQ = S15
  generalize hS16 : ropsT = S16
  generalize hS17 : ropsU = S17
  generalize hS18 : ropsV = S18
  generalize hS19 : ropsW = S19
  set_option maxRecDepth 100000 in cbv
  simp only [s_word29, R.Y] at hr
  obtain ⟨hF, hto, hm, hr⟩ := hr
  subst hO hK hS0 hS1 hS2 hS3 hS4 hS5 hS6 hS7 hS8 hS9 hS10 hS11 hS12 hS13 hS14 hS15 hS16 hS17 hS18 hS19
  subst hr
  have hF : fFits x1 x4 = true := hF
  have hto : 1 ≤ x2 ∧ x2 ≤ 4 := hto
  have hm : isM x3 = true := hm
  have hfr := (fits_lt hF).1
  have hp := p_rng x1 hfr
  have hq := p_rng x2 hto
  have hfd : 5 ≤ fField x2 ∧ fField x2 ≤ 15 := by rcases f_cases hto with rfl | rfl | rfl | rfl <;> decide
  have hcr := cls_rng x1 x4
  have hcp : cls x1 x4 ≠ 0 := by rw [Ne, cls_pos, hF]; decide
  refine ⟨imp_f fun h => ?_, imp_t fun h => ⟨imp_f fun h2 => ?_, imp_t fun h2 => ⟨imp_f fun h3 => ?_, imp_t fun h3 => ⟨imp_f fun h6 => ?_, imp_t fun h6 => ?_⟩⟩⟩⟩
  · replace h : cmpR .eql (cls x1 x4) 1 = true := h
    rw [c_eql_t] at h
    have hc1 : cls x1 x4 = 1 := h
    have hnan : wNaN x1 x4 = true := decide_eq_true (.inl hc1)
    refine loop_rule (α := ByteArray × Int × BitVec 128) (fun p => ⟨[.int .i64 x1, .int .i64 x2, .undef, .undef, .undef, .undef, .undef, .ptr 0 0, .ptr 1 0, .undef, .int .i64 (ropsC.cls x1 x4), .undef, .str p.1, .int .i64 p.2.1, .undef, .undef, .undef, .undef, .undef, .undef, .undef, .undef, .undef, .undef, .undef, .undef, .undef, .undef, .undef, .undef, .undef, .undef, .undef, .undef, .undef, .undef, .undef, .undef, .undef, .undef, .undef, .undef, .undef, .undef, .undef, .undef, .undef, .undef, .undef, .undef, .undef, .undef, .undef, .undef, .undef, .undef, .undef, .undef, .undef, .undef, .undef, .undef, .undef, .undef, .undef, .undef, .undef, .undef, .undef, .undef, .undef, .undef, .undef, .undef, .undef, .undef, .undef, .undef, .undef, .undef, .undef, .undef, .undef], ofL [some (wordT, .word x4), some (wordT, .word p.2.2), none, none, none, none, none, none, none, none, none, none, none, none, none, none, none, none], 18⟩)
      (fun m p => 0 ≤ p.2.1 ∧ p.2.1 ≤ fField x2 + 1 ∧ (p.1.size : Int) = 1 + p.2.1 ∧ (bWord p.1).toNat = sgB (wNeg x1 x4) * 2 ^ p.2.1.toNat + (2 ^ p.2.1.toNat - 1) ∧ fField x2 + 1 - p.2.1 ≤ m) ?_ 17 (bif wNeg x1 x4 then bytesOf [49] else bytesOf [48], 0, mkWordR 0 0) ⟨by show (0 : Int) ≤ 0; decide, by show (0 : Int) ≤ fField x2 + 1; omega, by show (((bif wNeg x1 x4 then bytesOf [49] else bytesOf [48]).size : Nat) : Int) = 1 + 0; rw [sign_size]; omega, sg0 _, by show fField x2 + 1 - 0 ≤ (17 : Int); omega⟩
    rintro m ⟨s, i, z⟩ X ⟨h1, h2, h3, h4, h5⟩ hX
    replace h1 : 0 ≤ i := h1
    replace h2 : i ≤ fField x2 + 1 := h2
    replace h4 : (bWord s).toNat = sgB (wNeg x1 x4) * 2 ^ i.toNat + (2 ^ i.toNat - 1) := h4
    (generalize hK : kR _ _ = K; generalize hO : real = O; generalize hS0 : rops = S0; generalize hS1 : ropsB = S1; generalize hS2 : ropsC = S2; generalize hS3 : ropsD = S3; generalize hS4 : ropsE = S4; generalize hS5 : ropsF = S5; generalize hS6 : ropsG = S6; generalize hS7 : ropsH = S7; generalize hS8 : ropsI = S8; generalize hS9 : ropsJ = S9; generalize hS10 : ropsK = S10; generalize hS11 : ropsL = S11; generalize hS12 : ropsM = S12; generalize hS13 : ropsN = S13; generalize hS14 : ropsP = S14; generalize hS15 : ropsQ = S15; generalize hS16 : ropsT = S16; generalize hS17 : ropsU = S17; generalize hS18 : ropsV = S18; generalize hS19 : ropsW = S19; set_option maxRecDepth 100000 in cbv; subst hO hK hS0 hS1 hS2 hS3 hS4 hS5 hS6 hS7 hS8 hS9 hS10 hS11 hS12 hS13 hS14 hS15 hS16 hS17 hS18 hS19)
    have h3 : ((s.size : Nat) : Int) = 1 + i := h3
    have h5 : fField x2 + 1 - i ≤ ((m : Nat) : Int) := h5
    refine ⟨hto, imp_f fun h => ?_, imp_t fun h => ?_⟩
    · replace h : cmpR .leq i (fField x2) = true := h
      rw [c_leq_t] at h
      (dsimp only [real, rops, ropsB, ropsC, ropsD, ropsE, ropsF, ropsG, ropsH, ropsI, ropsJ, ropsK, ropsL, ropsM, ropsN, ropsP, ropsQ, ropsT, ropsU, ropsV, ropsW])
      have g3 : arithR .add .i64 i 1 = i + 1 := add_i64 (by omega) (by omega)
      have hm : m = (m - 1) + 1 := by omega
      have hc : fField x2 + 1 - (i + 1) ≤ ((m - 1 : Nat) : Int) := by omega
      have hw := one_step h4 (by omega)
      rw [show i.toNat + 1 = (i + 1).toNat by omega] at hw
      refine ⟨?_, ?_⟩
      · show ((s.size + 1 : Nat) : Int) ≤ IntKind.i64.max
        rw [i64_max]; omega
      · have := hX (m - 1) (s ++ bytesOf [49], i + 1, z) hm ⟨by show 0 ≤ i + 1; omega, by show i + 1 ≤ _; omega, by show (((s ++ _ : ByteArray).size : Nat) : Int) = _; rw [size_app]; show ((s.size + 1 : Nat) : Int) = 1 + (i + 1); omega, hw, hc⟩
        rw [g3]
        exact this
    · replace h : cmpR .leq i (fField x2) = false := h
      rw [c_leq_f] at h
      have hie : i = fField x2 + 1 := by omega
      clear hX
      refine loop_rule (α := ByteArray × Int) (fun p => ⟨[.int .i64 x1, .int .i64 x2, .undef, .undef, .undef, .undef, .undef, .ptr 0 0, .ptr 1 0, .undef, .int .i64 (ropsC.cls x1 x4), .undef, .str p.1, .undef, .int .i64 p.2, .undef, .undef, .undef, .undef, .undef, .undef, .undef, .undef, .undef, .undef, .undef, .undef, .undef, .undef, .undef, .undef, .undef, .undef, .undef, .undef, .undef, .undef, .undef, .undef, .undef, .undef, .undef, .undef, .undef, .undef, .undef, .undef, .undef, .undef, .undef, .undef, .undef, .undef, .undef, .undef, .undef, .undef, .undef, .undef, .undef, .undef, .undef, .undef, .undef, .undef, .undef, .undef, .undef, .undef, .undef, .undef, .undef, .undef, .undef, .undef, .undef, .undef, .undef, .undef, .undef, .undef, .undef, .undef], ofL [some (wordT, .word x4), some (wordT, .word z), none, none, none, none, none, none, none, none, none, none, none, none, none, none, none, none, none, none, none, none, none], 23⟩)
        (fun m p => 0 ≤ p.2 ∧ p.2 ≤ fPrec x2 - 2 ∧ (p.1.size : Int) = fField x2 + 2 + p.2 ∧ (bWord p.1).toNat = (sgB (wNeg x1 x4) * 2 ^ ((fField x2).toNat + 1) + (2 ^ ((fField x2).toNat + 1) - 1)) * 2 ^ p.2.toNat + payA x1 x4 p.2.toNat ∧ fPrec x2 - 2 - p.2 ≤ m) ?_ 112 (s, 0) ⟨by show (0 : Int) ≤ 0; decide, by show (0 : Int) ≤ fPrec x2 - 2; omega, by show ((s.size : Nat) : Int) = fField x2 + 2 + 0; omega, by
          show (bWord s).toNat = _
          rw [h4, hie, show (fField x2 + 1).toNat = (fField x2).toNat + 1 by omega, show (0 : Int).toNat = 0 from rfl, pay0 hfr x4]; omega, by show fPrec x2 - 2 - 0 ≤ (112 : Int); omega⟩
      rintro m ⟨s, j⟩ X ⟨j1, j2, j3, j4, j5⟩ hX
      replace j1 : 0 ≤ j := j1
      replace j2 : j ≤ fPrec x2 - 2 := j2
      replace j4 : (bWord s).toNat = (sgB (wNeg x1 x4) * 2 ^ ((fField x2).toNat + 1) + (2 ^ ((fField x2).toNat + 1) - 1)) * 2 ^ j.toNat + payA x1 x4 j.toNat := j4
      (generalize hK : kR _ _ = K; generalize hO : real = O; generalize hS0 : rops = S0; generalize hS1 : ropsB = S1; generalize hS2 : ropsC = S2; generalize hS3 : ropsD = S3; generalize hS4 : ropsE = S4; generalize hS5 : ropsF = S5; generalize hS6 : ropsG = S6; generalize hS7 : ropsH = S7; generalize hS8 : ropsI = S8; generalize hS9 : ropsJ = S9; generalize hS10 : ropsK = S10; generalize hS11 : ropsL = S11; generalize hS12 : ropsM = S12; generalize hS13 : ropsN = S13; generalize hS14 : ropsP = S14; generalize hS15 : ropsQ = S15; generalize hS16 : ropsT = S16; generalize hS17 : ropsU = S17; generalize hS18 : ropsV = S18; generalize hS19 : ropsW = S19; set_option maxRecDepth 100000 in cbv; subst hO hK hS0 hS1 hS2 hS3 hS4 hS5 hS6 hS7 hS8 hS9 hS10 hS11 hS12 hS13 hS14 hS15 hS16 hS17 hS18 hS19; dsimp only [real, rops, ropsB, ropsC, ropsD, ropsE, ropsF, ropsG, ropsH, ropsI, ropsJ, ropsK, ropsL, ropsM, ropsN, ropsP, ropsQ, ropsT, ropsU, ropsV, ropsW])
      have j3 : ((s.size : Nat) : Int) = fField x2 + 2 + j := j3
      have j5 : fPrec x2 - 2 - j ≤ ((m : Nat) : Int) := j5
      have q1 : arithR .sub .i64 (fPrec x2) 2 = fPrec x2 - 2 := sub_i64 (by omega) (by omega)
      have q2 : arithR .sub .i64 (fPrec x1) 3 = fPrec x1 - 3 := sub_i64 (by omega) (by omega)
      have q3 : arithR .sub .i64 (fPrec x1 - 3) j = fPrec x1 - 3 - j := sub_i64 (by omega) (by omega)
      have q4 : arithR .add .i64 j 1 = j + 1 := add_i64 (by omega) (by omega)
      rw [q1, q2, q3, q4]
      refine ⟨imp_f fun h => ?_, imp_t fun h => ?_⟩
      · rw [c_lss_t] at h
        have hm : m = (m - 1) + 1 := by omega
        have hc : fPrec x2 - 2 - (j + 1) ≤ ((m - 1 : Nat) : Int) := by omega
        have hw := bit_step hfr hto j4 (by omega)
        rw [show j.toNat + 1 = (j + 1).toNat by omega, show fPrec x1 - 3 - ((j.toNat : Nat) : Int) = fPrec x1 - 3 - j by omega] at hw
        have nx := hX (m - 1) (s ++ (bif wdBit x4 (fPrec x1 - 3 - j) then bytesOf [49] else bytesOf [48]), j + 1) hm ⟨by show 0 ≤ j + 1; omega, by show j + 1 ≤ _; omega, by show (((s ++ _ : ByteArray).size : Nat) : Int) = _; rw [size_app, sign_size]; show ((s.size + 1 : Nat) : Int) = fField x2 + 2 + (j + 1); omega, hw, hc⟩
        have fit : ∀ b : Bool, ((s.size + (bif b then bytesOf [49] else bytesOf [48]).size : Nat) : Int) ≤ IntKind.i64.max := fun b => by rw [sign_size, i64_max]; omega
        refine ⟨imp_f fun g => ?_, imp_t fun g => ?_⟩
        · rw [c_geq_t] at g
          exact ⟨g, fit _, nx⟩
        · rw [c_geq_f] at g
          have hwf : wdBit x4 (fPrec x1 - 3 - j) = false := by unfold wdBit; rw [decide_eq_false (by omega)]; rfl
          rw [hwf] at nx
          exact ⟨fit false, nx⟩
      · rw [c_lss_f] at h
        have hje : j = fPrec x2 - 2 := by omega
        have hv : bWord s = cvN x1 x2 x4 := by
          rw [← cv_word hnan hto, ← hje, ← j4]
          simp
        rw [hv]
        simp only [eql_dec]
        refine ⟨imp_f fun _ => ?_, imp_t fun h => by rw [hc1] at h; simp at h⟩
        unfold cvC cvCX
        rw [if_pos (.inl hc1), if_pos hc1]
        simp only [kR, canon, canons, getW, getWord, allInts8, asInt, isK, kindEq, isArgB, strOf, cBig, cInts, cWords, allInts, allWords, r_ofLimbs, r_mkWord, Option.some.injEq, LV.wide.injEq, LV.word.injEq, LV.int.injEq, LV.bool.injEq, LV.str.injEq, LV.big.injEq, LV.tup.injEq, LV.agg.injEq, List.cons.injEq, and_true, true_and]

  · replace h2 : cmpR .eql (cls x1 x4) 2 = true := h2
    rw [c_eql_t] at h2
    have hc2 : cls x1 x4 = 2 := h2
    have hnan : wNaN x1 x4 = true := decide_eq_true (.inr hc2)
    refine loop_rule (α := ByteArray × Int × BitVec 128) (fun p => ⟨[.int .i64 x1, .int .i64 x2, .undef, .undef, .undef, .undef, .undef, .ptr 0 0, .ptr 1 0, .undef, .int .i64 (ropsC.cls x1 x4), .undef, .str p.1, .int .i64 p.2.1, .undef, .undef, .undef, .undef, .undef, .undef, .undef, .undef, .undef, .undef, .undef, .undef, .undef, .undef, .undef, .undef, .undef, .undef, .undef, .undef, .undef, .undef, .undef, .undef, .undef, .undef, .undef, .undef, .undef, .undef, .undef, .undef, .undef, .undef, .undef, .undef, .undef, .undef, .undef, .undef, .undef, .undef, .undef, .undef, .undef, .undef, .undef, .undef, .undef, .undef, .undef, .undef, .undef, .undef, .undef, .undef, .undef, .undef, .undef, .undef, .undef, .undef, .undef, .undef, .undef, .undef, .undef, .undef, .undef], ofL [some (wordT, .word x4), some (wordT, .word p.2.2), none, none, none, none, none, none, none, none, none, none, none, none, none, none, none, none, none, none], 20⟩)
      (fun m p => 0 ≤ p.2.1 ∧ p.2.1 ≤ fField x2 + 1 ∧ (p.1.size : Int) = 1 + p.2.1 ∧ (bWord p.1).toNat = sgB (wNeg x1 x4) * 2 ^ p.2.1.toNat + (2 ^ p.2.1.toNat - 1) ∧ fField x2 + 1 - p.2.1 ≤ m) ?_ 17 (bif wNeg x1 x4 then bytesOf [49] else bytesOf [48], 0, mkWordR 0 0) ⟨by show (0 : Int) ≤ 0; decide, by show (0 : Int) ≤ fField x2 + 1; omega, by show (((bif wNeg x1 x4 then bytesOf [49] else bytesOf [48]).size : Nat) : Int) = 1 + 0; rw [sign_size]; omega, sg0 _, by show fField x2 + 1 - 0 ≤ (17 : Int); omega⟩
    rintro m ⟨s, i, z⟩ X ⟨h1, h2, h3, h4, h5⟩ hX
    replace h1 : 0 ≤ i := h1
    replace h2 : i ≤ fField x2 + 1 := h2
    replace h4 : (bWord s).toNat = sgB (wNeg x1 x4) * 2 ^ i.toNat + (2 ^ i.toNat - 1) := h4
    (generalize hK : kR _ _ = K; generalize hO : real = O; generalize hS0 : rops = S0; generalize hS1 : ropsB = S1; generalize hS2 : ropsC = S2; generalize hS3 : ropsD = S3; generalize hS4 : ropsE = S4; generalize hS5 : ropsF = S5; generalize hS6 : ropsG = S6; generalize hS7 : ropsH = S7; generalize hS8 : ropsI = S8; generalize hS9 : ropsJ = S9; generalize hS10 : ropsK = S10; generalize hS11 : ropsL = S11; generalize hS12 : ropsM = S12; generalize hS13 : ropsN = S13; generalize hS14 : ropsP = S14; generalize hS15 : ropsQ = S15; generalize hS16 : ropsT = S16; generalize hS17 : ropsU = S17; generalize hS18 : ropsV = S18; generalize hS19 : ropsW = S19; set_option maxRecDepth 100000 in cbv; subst hO hK hS0 hS1 hS2 hS3 hS4 hS5 hS6 hS7 hS8 hS9 hS10 hS11 hS12 hS13 hS14 hS15 hS16 hS17 hS18 hS19)
    have h3 : ((s.size : Nat) : Int) = 1 + i := h3
    have h5 : fField x2 + 1 - i ≤ ((m : Nat) : Int) := h5
    refine ⟨hto, imp_f fun h => ?_, imp_t fun h => ?_⟩
    · replace h : cmpR .leq i (fField x2) = true := h
      rw [c_leq_t] at h
      (dsimp only [real, rops, ropsB, ropsC, ropsD, ropsE, ropsF, ropsG, ropsH, ropsI, ropsJ, ropsK, ropsL, ropsM, ropsN, ropsP, ropsQ, ropsT, ropsU, ropsV, ropsW])
      have g3 : arithR .add .i64 i 1 = i + 1 := add_i64 (by omega) (by omega)
      have hm : m = (m - 1) + 1 := by omega
      have hc : fField x2 + 1 - (i + 1) ≤ ((m - 1 : Nat) : Int) := by omega
      have hw := one_step h4 (by omega)
      rw [show i.toNat + 1 = (i + 1).toNat by omega] at hw
      refine ⟨?_, ?_⟩
      · show ((s.size + 1 : Nat) : Int) ≤ IntKind.i64.max
        rw [i64_max]; omega
      · have := hX (m - 1) (s ++ bytesOf [49], i + 1, z) hm ⟨by show 0 ≤ i + 1; omega, by show i + 1 ≤ _; omega, by show (((s ++ _ : ByteArray).size : Nat) : Int) = _; rw [size_app]; show ((s.size + 1 : Nat) : Int) = 1 + (i + 1); omega, hw, hc⟩
        rw [g3]
        exact this
    · replace h : cmpR .leq i (fField x2) = false := h
      rw [c_leq_f] at h
      have hie : i = fField x2 + 1 := by omega
      clear hX
      refine loop_rule (α := ByteArray × Int) (fun p => ⟨[.int .i64 x1, .int .i64 x2, .undef, .undef, .undef, .undef, .undef, .ptr 0 0, .ptr 1 0, .undef, .int .i64 (ropsC.cls x1 x4), .undef, .str p.1, .undef, .int .i64 p.2, .undef, .undef, .undef, .undef, .undef, .undef, .undef, .undef, .undef, .undef, .undef, .undef, .undef, .undef, .undef, .undef, .undef, .undef, .undef, .undef, .undef, .undef, .undef, .undef, .undef, .undef, .undef, .undef, .undef, .undef, .undef, .undef, .undef, .undef, .undef, .undef, .undef, .undef, .undef, .undef, .undef, .undef, .undef, .undef, .undef, .undef, .undef, .undef, .undef, .undef, .undef, .undef, .undef, .undef, .undef, .undef, .undef, .undef, .undef, .undef, .undef, .undef, .undef, .undef, .undef, .undef, .undef, .undef], ofL [some (wordT, .word x4), some (wordT, .word z), none, none, none, none, none, none, none, none, none, none, none, none, none, none, none, none, none, none, none, none, none, none, none], 25⟩)
        (fun m p => 0 ≤ p.2 ∧ p.2 ≤ fPrec x2 - 2 ∧ (p.1.size : Int) = fField x2 + 2 + p.2 ∧ (bWord p.1).toNat = (sgB (wNeg x1 x4) * 2 ^ ((fField x2).toNat + 1) + (2 ^ ((fField x2).toNat + 1) - 1)) * 2 ^ p.2.toNat + payA x1 x4 p.2.toNat ∧ fPrec x2 - 2 - p.2 ≤ m) ?_ 112 (s, 0) ⟨by show (0 : Int) ≤ 0; decide, by show (0 : Int) ≤ fPrec x2 - 2; omega, by show ((s.size : Nat) : Int) = fField x2 + 2 + 0; omega, by
          show (bWord s).toNat = _
          rw [h4, hie, show (fField x2 + 1).toNat = (fField x2).toNat + 1 by omega, show (0 : Int).toNat = 0 from rfl, pay0 hfr x4]; omega, by show fPrec x2 - 2 - 0 ≤ (112 : Int); omega⟩
      rintro m ⟨s, j⟩ X ⟨j1, j2, j3, j4, j5⟩ hX
      replace j1 : 0 ≤ j := j1
      replace j2 : j ≤ fPrec x2 - 2 := j2
      replace j4 : (bWord s).toNat = (sgB (wNeg x1 x4) * 2 ^ ((fField x2).toNat + 1) + (2 ^ ((fField x2).toNat + 1) - 1)) * 2 ^ j.toNat + payA x1 x4 j.toNat := j4
      (generalize hK : kR _ _ = K; generalize hO : real = O; generalize hS0 : rops = S0; generalize hS1 : ropsB = S1; generalize hS2 : ropsC = S2; generalize hS3 : ropsD = S3; generalize hS4 : ropsE = S4; generalize hS5 : ropsF = S5; generalize hS6 : ropsG = S6; generalize hS7 : ropsH = S7; generalize hS8 : ropsI = S8; generalize hS9 : ropsJ = S9; generalize hS10 : ropsK = S10; generalize hS11 : ropsL = S11; generalize hS12 : ropsM = S12; generalize hS13 : ropsN = S13; generalize hS14 : ropsP = S14; generalize hS15 : ropsQ = S15; generalize hS16 : ropsT = S16; generalize hS17 : ropsU = S17; generalize hS18 : ropsV = S18; generalize hS19 : ropsW = S19; set_option maxRecDepth 100000 in cbv; subst hO hK hS0 hS1 hS2 hS3 hS4 hS5 hS6 hS7 hS8 hS9 hS10 hS11 hS12 hS13 hS14 hS15 hS16 hS17 hS18 hS19; dsimp only [real, rops, ropsB, ropsC, ropsD, ropsE, ropsF, ropsG, ropsH, ropsI, ropsJ, ropsK, ropsL, ropsM, ropsN, ropsP, ropsQ, ropsT, ropsU, ropsV, ropsW])
      have j3 : ((s.size : Nat) : Int) = fField x2 + 2 + j := j3
      have j5 : fPrec x2 - 2 - j ≤ ((m : Nat) : Int) := j5
      have q1 : arithR .sub .i64 (fPrec x2) 2 = fPrec x2 - 2 := sub_i64 (by omega) (by omega)
      have q2 : arithR .sub .i64 (fPrec x1) 3 = fPrec x1 - 3 := sub_i64 (by omega) (by omega)
      have q3 : arithR .sub .i64 (fPrec x1 - 3) j = fPrec x1 - 3 - j := sub_i64 (by omega) (by omega)
      have q4 : arithR .add .i64 j 1 = j + 1 := add_i64 (by omega) (by omega)
      rw [q1, q2, q3, q4]
      refine ⟨imp_f fun h => ?_, imp_t fun h => ?_⟩
      · rw [c_lss_t] at h
        have hm : m = (m - 1) + 1 := by omega
        have hc : fPrec x2 - 2 - (j + 1) ≤ ((m - 1 : Nat) : Int) := by omega
        have hw := bit_step hfr hto j4 (by omega)
        rw [show j.toNat + 1 = (j + 1).toNat by omega, show fPrec x1 - 3 - ((j.toNat : Nat) : Int) = fPrec x1 - 3 - j by omega] at hw
        have nx := hX (m - 1) (s ++ (bif wdBit x4 (fPrec x1 - 3 - j) then bytesOf [49] else bytesOf [48]), j + 1) hm ⟨by show 0 ≤ j + 1; omega, by show j + 1 ≤ _; omega, by show (((s ++ _ : ByteArray).size : Nat) : Int) = _; rw [size_app, sign_size]; show ((s.size + 1 : Nat) : Int) = fField x2 + 2 + (j + 1); omega, hw, hc⟩
        have fit : ∀ b : Bool, ((s.size + (bif b then bytesOf [49] else bytesOf [48]).size : Nat) : Int) ≤ IntKind.i64.max := fun b => by rw [sign_size, i64_max]; omega
        refine ⟨imp_f fun g => ?_, imp_t fun g => ?_⟩
        · rw [c_geq_t] at g
          exact ⟨g, fit _, nx⟩
        · rw [c_geq_f] at g
          have hwf : wdBit x4 (fPrec x1 - 3 - j) = false := by unfold wdBit; rw [decide_eq_false (by omega)]; rfl
          rw [hwf] at nx
          exact ⟨fit false, nx⟩
      · rw [c_lss_f] at h
        have hje : j = fPrec x2 - 2 := by omega
        have hv : bWord s = cvN x1 x2 x4 := by
          rw [← cv_word hnan hto, ← hje, ← j4]
          simp
        rw [hv]
        simp only [eql_dec]
        refine ⟨imp_f fun h => by rw [hc2] at h; simp at h, imp_t fun _ => ?_⟩
        unfold cvC cvCX
        rw [if_pos (.inr hc2), if_neg (by omega), if_pos (.inl hc2)]
        simp only [kR, canon, canons, getW, getWord, allInts8, asInt, isK, kindEq, isArgB, strOf, cBig, cInts, cWords, allInts, allWords, r_ofLimbs, r_mkWord, Option.some.injEq, LV.wide.injEq, LV.word.injEq, LV.int.injEq, LV.bool.injEq, LV.str.injEq, LV.big.injEq, LV.tup.injEq, LV.agg.injEq, List.cons.injEq, and_true, true_and]

  · replace h3 : cmpR .eql (cls x1 x4) 3 = true := h3
    rw [c_eql_t] at h3
    (dsimp only [real, rops, ropsB, ropsC, ropsD, ropsE, ropsF, ropsG, ropsH, ropsI, ropsJ, ropsK, ropsL, ropsM, ropsN, ropsP, ropsQ, ropsT, ropsU, ropsV, ropsW])
    refine ⟨hto, ?_⟩
    unfold cvC cvCX
    rw [if_neg (by omega), if_pos h3, if_neg (by omega), if_pos (.inr h3)]
    simp only [kR, canon, canons, getW, getWord, allInts8, asInt, isK, kindEq, isArgB, strOf, cBig, cInts, cWords, allInts, allWords, r_ofLimbs, r_mkWord, Option.some.injEq, LV.wide.injEq, LV.word.injEq, LV.int.injEq, LV.bool.injEq, LV.str.injEq, LV.big.injEq, LV.tup.injEq, LV.agg.injEq, List.cons.injEq, and_true, true_and]
  · replace h3 : cmpR .eql (cls x1 x4) 3 = false := h3
    replace h6 : cmpR .eql (cls x1 x4) 6 = true := h6
    rw [c_eql_f] at h3
    rw [c_eql_t] at h6
    (dsimp only [real, rops, ropsB, ropsC, ropsD, ropsE, ropsF, ropsG, ropsH, ropsI, ropsJ, ropsK, ropsL, ropsM, ropsN, ropsP, ropsQ, ropsT, ropsU, ropsV, ropsW])
    have hfin : wFin x1 x4 = true := (fin_iff _ _).2 (by omega)
    obtain ⟨_, f2⟩ := fin_round (t := x2) hfin hto hm
    obtain ⟨g1, g2⟩ := f2 ((vSig_zero hfin).2 h6)
    refine ⟨hto, ?_⟩
    unfold cvC cvCX
    rw [if_neg (by omega), if_neg h3, if_neg (by omega), if_neg (by omega), g1, g2]
    simp only [kR, canon, canons, getW, getWord, allInts8, asInt, isK, kindEq, isArgB, strOf, cBig, cInts, cWords, allInts, allWords, r_ofLimbs, r_mkWord, Option.some.injEq, LV.wide.injEq, LV.word.injEq, LV.int.injEq, LV.bool.injEq, LV.str.injEq, LV.big.injEq, LV.tup.injEq, LV.agg.injEq, List.cons.injEq, and_true, true_and]
  · replace h : cmpR .eql (cls x1 x4) 1 = false := h
    replace h2 : cmpR .eql (cls x1 x4) 2 = false := h2
    replace h3 : cmpR .eql (cls x1 x4) 3 = false := h3
    replace h6 : cmpR .eql (cls x1 x4) 6 = false := h6
    rw [c_eql_f] at h h2 h3 h6
    (dsimp only [real, rops, ropsB, ropsC, ropsD, ropsE, ropsF, ropsG, ropsH, ropsI, ropsJ, ropsK, ropsL, ropsM, ropsN, ropsP, ropsQ, ropsT, ropsU, ropsV, ropsW])
    have hfin : wFin x1 x4 = true := (fin_iff _ _).2 (by omega)
    have hz : vSig x1 x4 ≠ 0 := fun hh => h6 ((vSig_zero hfin).1 hh)
    obtain ⟨f1, _⟩ := fin_round (t := x2) hfin hto hm
    obtain ⟨g1, g2⟩ := f1 hz
    have hr := vExp_rng hfin
    have hv : vNeg x1 x4 = wNeg x1 x4 := by unfold vNeg; rw [hfin]; rfl
    refine ⟨hfin, ⟨by omega, by omega⟩, hto, ⟨rfl, rfl⟩, fin_okR hfin hz, ?_⟩
    unfold cvC cvCX
    rw [if_neg (by omega), if_neg h3, if_neg h, if_neg (by omega), g1, g2, hv]
    simp only [kR, canon, canons, getW, getWord, allInts8, asInt, isK, kindEq, isArgB, strOf, cBig, cInts, cWords, allInts, allWords, r_ofLimbs, r_mkWord, Option.some.injEq, LV.wide.injEq, LV.word.injEq, LV.int.injEq, LV.bool.injEq, LV.str.injEq, LV.big.injEq, LV.tup.injEq, LV.agg.injEq, List.cons.injEq, and_true, true_and]
    exact ⟨rfl, rfl⟩
theorem p_awake29 : SpecOk Tryz.prog globs 31 (mkSpec real [] (s_awake29 ropsW)) := by
  have hfns : FnsOk Tryz.prog globs [(28, .spec (mkSpec real [.int .i64, .int .i64, .int .i64, .word] (s_cWord ropsW)))] := (fnsCons (fnSpec (p_cWord)) fnsNil)
  refine spec0 hfns (by kernel_rfl) Tryz.func31 (by kernel_rfl) (by kernel_rfl) (by kernel_rfl) 4 _ _ (.bool) ?_
  clear hfns
  generalize hEE : env0 [(28, .spec (mkSpec real [.int .i64, .int .i64, .int .i64, .word] (s_cWord ropsW)))] = EE
  intro l r hl hr
  simp only [Forms, Form] at hl
  obtain rfl := hl
  subst hEE
  generalize hK : kR (.bool) r = K
  generalize hO : real = O
  generalize hS0 : rops = S0
  generalize hS1 : ropsB = S1
  generalize hS2 : ropsC = S2
  generalize hS3 : ropsD = S3
  generalize hS4 : ropsE = S4
  generalize hS5 : ropsF = S5
  generalize hS6 : ropsG = S6
  generalize hS7 : ropsH = S7
  generalize hS8 : ropsI = S8
  generalize hS9 : ropsJ = S9
  generalize hS10 : ropsK = S10
  generalize hS11 : ropsL = S11
  generalize hS12 : ropsM = S12
  generalize hS13 : ropsN = S13
  generalize hS14 : ropsP = S14
  generalize hS15 : ropsQ = S15
  generalize hS16 : ropsT = S16
  generalize hS17 : ropsU = S17
  generalize hS18 : ropsV = S18
  generalize hS19 : ropsW = S19
  set_option maxRecDepth 100000 in cbv
  subst hO hK hS0 hS1 hS2 hS3 hS4 hS5 hS6 hS7 hS8 hS9 hS10 hS11 hS12 hS13 hS14 hS15 hS16 hS17 hS18 hS19
  simp only [s_awake29, R.Y] at hr
  subst hr
  try dsimp only [real, rops, ropsB, ropsC, ropsD, ropsE, ropsF, ropsG, ropsH, ropsI, ropsJ, ropsK, ropsL, ropsM, ropsN, ropsP, ropsQ, ropsT, ropsU, ropsV, ropsW]
  simp only [kb_t, kb_lt, kb_lf]; decide +kernel
theorem p_ConvertWords : SpecOk Tryz.prog globs 5 (mkSpec real [.int .i64, .st [.int .i64, .int .i64], .word] (s_ConvertWords ropsW)) := by
  have hfns : FnsOk Tryz.prog globs [(28, .spec (mkSpec real [.int .i64, .int .i64, .int .i64, .word] (s_cWord ropsW))), (29, .spec (mkSpec real [.int .i64] (s_is rops))), (30, inlF Tryz.f30), (12, .spec (mkSpec real [.int .i64] (s_mIs08 ropsT))), (13, .spec (mkSpec real [.int .i64, .word] (s_fits05 ropsB))), (32, .spec (mkSpec real [.int .i64, .int .i64, .int .i64, .word] (s_word29 ropsW))), (31, .spec (mkSpec real [] (s_awake29 ropsW)))] := (fnsCons (fnSpec (p_cWord)) (fnsCons (fnSpec (p_is)) (fnsCons (inl_ok Tryz.func30 (by kernel_rfl) (by kernel_rfl)) (fnsCons (fnSpec (p_mIs08)) (fnsCons (fnSpec (p_fits05)) (fnsCons (fnSpec (p_word29)) (fnsCons (fnSpec (p_awake29)) fnsNil)))))))
  refine spec0 hfns (by kernel_rfl) Tryz.func5 (by kernel_rfl) (by kernel_rfl) (by kernel_rfl) 4 _ _ (.bool) ?_
  clear hfns
  generalize hEE : env0 [(28, .spec (mkSpec real [.int .i64, .int .i64, .int .i64, .word] (s_cWord ropsW))), (29, .spec (mkSpec real [.int .i64] (s_is rops))), (30, inlF Tryz.f30), (12, .spec (mkSpec real [.int .i64] (s_mIs08 ropsT))), (13, .spec (mkSpec real [.int .i64, .word] (s_fits05 ropsB))), (32, .spec (mkSpec real [.int .i64, .int .i64, .int .i64, .word] (s_word29 ropsW))), (31, .spec (mkSpec real [] (s_awake29 ropsW)))] = EE
  intro l r hl hr
  simp only [Forms, Form] at hl
  obtain ⟨_, _, rfl, ⟨x1, rfl, x1lo, x1hi⟩, _, _, rfl, ⟨_, rfl, ⟨_, _, rfl, ⟨x2_1, rfl, x2_1lo, x2_1hi⟩, _, _, rfl, ⟨x2_2, rfl, x2_2lo, x2_2hi⟩, rfl⟩⟩, _, _, rfl, ⟨x3, rfl⟩, rfl⟩ := hl
  subst hEE
  generalize hK : kR (.bool) r = K
  generalize hO : real = O
  generalize hS0 : rops = S0
  generalize hS1 : ropsB = S1
  generalize hS2 : ropsC = S2
  generalize hS3 : ropsD = S3
  generalize hS4 : ropsE = S4
  generalize hS5 : ropsF = S5
  generalize hS6 : ropsG = S6
  generalize hS7 : ropsH = S7
  generalize hS8 : ropsI = S8
  generalize hS9 : ropsJ = S9
  generalize hS10 : ropsK = S10
  generalize hS11 : ropsL = S11
  generalize hS12 : ropsM = S12
  generalize hS13 : ropsN = S13
  generalize hS14 : ropsP = S14
  generalize hS15 : ropsQ = S15
  generalize hS16 : ropsT = S16
  generalize hS17 : ropsU = S17
  generalize hS18 : ropsV = S18
  generalize hS19 : ropsW = S19
  set_option maxRecDepth 100000 in cbv
  subst hO hK hS0 hS1 hS2 hS3 hS4 hS5 hS6 hS7 hS8 hS9 hS10 hS11 hS12 hS13 hS14 hS15 hS16 hS17 hS18 hS19
  simp only [s_ConvertWords, R.Y] at hr
  subst hr
  try dsimp only [real, rops, ropsB, ropsC, ropsD, ropsE, ropsF, ropsG, ropsH, ropsI, ropsJ, ropsK, ropsL, ropsM, ropsN, ropsP, ropsQ, ropsT, ropsU, ropsV, ropsW]
  have no : cvOk x1 x2_1 x2_2 x3 = false → cvE x1 x2_1 x2_2 x3 = 1 ∧ cvW x1 x2_1 x2_2 x3 = 0 ∧ cvX x1 x2_1 x2_2 x3 = 0 := fun h => by
    unfold cvE cvW cvX; rw [h]; exact ⟨rfl, rfl, rfl⟩
  cases hk : fOk x2_1 with
  | false =>
    obtain ⟨a1, a2, a3⟩ := no (by unfold cvOk; rw [hk]; rfl)
    simp [a1, a2, a3, mkWord_0, eql_self, kb_t]
  | true =>
    cases hm : isM x2_2 with
    | false =>
      obtain ⟨a1, a2, a3⟩ := no (by unfold cvOk; rw [hk, hm]; rfl)
      simp [a1, a2, a3, mkWord_0, eql_self, kb_t]
    | true =>
      cases hF : fFits x1 x3 with
      | false =>
        obtain ⟨a1, a2, a3⟩ := no (by unfold cvOk; rw [hk, hm, hF]; rfl)
        simp [a1, a2, a3, mkWord_0, eql_self, kb_t]
      | true =>
        have ho : cvOk x1 x2_1 x2_2 x3 = true := by unfold cvOk; rw [hk, hm, hF]; rfl
        have hf : 1 ≤ x2_1 ∧ x2_1 ≤ 4 := of_decide_eq_true hk
        have a1 : cvE x1 x2_1 x2_2 x3 = 0 := by unfold cvE; rw [ho]; rfl
        have a2 : cvW x1 x2_1 x2_2 x3 = cvC x1 x2_1 x2_2 x3 := by unfold cvW; rw [ho]; rfl
        have a3 : cvX x1 x2_1 x2_2 x3 = cvCX x1 x2_1 x2_2 x3 := by unfold cvX; rw [ho]; rfl
        rw [a1, a2, a3]
        simp [hf, eql_self, kb_t]
end Go.LE