import Derived.Test.YtghinobkekkopaaGreatDoorW32
import Derived.Test.YtghinobkekkopaaGreatDoorLeU
set_option linter.unusedVariables false
set_option linter.unusedSimpArgs false
namespace Go.LE
open Go Go.Proofs
def spA (f : Int) (w : BitVec 128) : BitVec 128 := bif wFin f w then fWordOf f (wNeg f w) (irMag f 3 w) else 0
def spB (f : Int) (w : BitVec 128) : BitVec 128 := bif wFin f w then fWordOf f (wNeg f w) (rsMag f w) else 0
structure OpsSp where
  spA : Int → BitVec 128 → BitVec 128
  spB : Int → BitVec 128 → BitVec 128
  spOk : Int → BitVec 128 → Bool
noncomputable def ropsSp : OpsSp where
  spA := spA
  spB := spB
  spOk := wFin
def s_isplit (S : OpsSp) : List LV → R LV
  | [.int _ f, .word w] => .ok (.tup [.word (S.spA f w), .word (S.spB f w), .bool (S.spOk f w)])
  | _ => .fail
def s_IntegralSplits (_ : OpsSp) : List LV → R LV := fun _ => .ok (.bool true)
set_option exponentiation.threshold 600 in
theorem small_sh (s : W) {n : Int} (h : n ≤ 40000) : small (s.toNat * 2 ^ n.toNat) := by
  obtain ⟨k, hk⟩ : ∃ k : Nat, k = 1300 := ⟨_, rfl⟩
  refine small_lt (k := k) (by omega) ?_
  have h1 := s.isLt
  have h2 : s.toNat * 2 ^ n.toNat < 2 ^ 512 * 2 ^ n.toNat := Nat.mul_lt_mul_of_pos_right h1 (Nat.two_pow_pos _)
  refine Nat.lt_of_lt_of_le h2 ?_
  rw [← Nat.pow_add]
  exact Nat.pow_le_pow_right (by decide) (by omega)
theorem p_isplit : SpecOk Tryz.prog globs 18 (mkSpec real [.int .i64, .word] (s_isplit ropsSp)) := by
  have hfns : FnsOk Tryz.prog globs [(47, .spec (mkSpec real [.int .i64, .word] (s_value ropsL))), (41, .spec (mkSpec real [.st [.bool, .int .i64, .wide], .int .i64] (s_iwhole ropsX))), (42, .spec (mkSpec real [.int .i64, .st [.bool, .int .i64, .wide]] (s_exact ropsP))), (54, .spec (mkSpec real [.int .i64, .bool] (s_noughtW rops))), (56, .spec (mkSpec real [.wide, .int .i64] (s_shl rops))), (55, .spec (mkSpec real [.wide, .wide] (s_wSub rops)))] := (fnsCons (fnSpec (p_value)) (fnsCons (fnSpec (p_iwhole)) (fnsCons (fnSpec (p_exact)) (fnsCons (fnSpec (p_noughtW)) (fnsCons (fnSpec (p_shl)) (fnsCons (fnSpec (p_wSub)) fnsNil))))))
  refine spec0 hfns (by kernel_rfl) Tryz.func18 (by kernel_rfl) (by kernel_rfl) (by kernel_rfl) 4 _ _ (.tup [.word, .word, .bool]) ?_
  clear hfns
  generalize hEE : env0 [(47, .spec (mkSpec real [.int .i64, .word] (s_value ropsL))), (41, .spec (mkSpec real [.st [.bool, .int .i64, .wide], .int .i64] (s_iwhole ropsX))), (42, .spec (mkSpec real [.int .i64, .st [.bool, .int .i64, .wide]] (s_exact ropsP))), (54, .spec (mkSpec real [.int .i64, .bool] (s_noughtW rops))), (56, .spec (mkSpec real [.wide, .int .i64] (s_shl rops))), (55, .spec (mkSpec real [.wide, .wide] (s_wSub rops)))] = EE
  intro l r hl hr
  simp only [Forms, Form] at hl
  obtain ⟨_, _, rfl, ⟨x1, rfl, x1lo, x1hi⟩, _, _, rfl, ⟨x2, rfl⟩, rfl⟩ := hl
  subst hEE
  generalize hK : kR (.tup [.word, .word, .bool]) r = K
  generalize hO : real = O
  generalize hS0 : rops = S0
  generalize hS1 : ropsB = S1
  generalize hS2 : ropsC = S2
  generalize hS3 : ropsD = S3
  generalize hS4 : ropsE = S4
  generalize hS5 : ropsF = S5
  generalize hS6 : ropsG = S6
  generalize hS7 : ropsH = S7
  generalize hS8 : ropsI = S8
  generalize hS9 : ropsJ = S9
  generalize hS10 : ropsK = S10
  generalize hS11 : ropsL = S11
  generalize hS12 : ropsM = S12
  generalize hS13 : ropsN = S13
  generalize hS14 : ropsP = S14
  generalize hS15 : ropsQ = S15
  generalize hS16 : ropsT = S16
  generalize hS17 : ropsU = S17
  generalize hS18 : ropsV = S18
  generalize hS19 : ropsW = S19
  generalize hS20 : ropsX = S20
  generalize hS21 : ropsSp = S21
  set_option maxRecDepth 100000 in cbv
  subst hO hK hS0 hS1 hS2 hS3 hS4 hS5 hS6 hS7 hS8 hS9 hS10 hS11 hS12 hS13 hS14 hS15 hS16 hS17 hS18 hS19 hS20 hS21
  simp only [s_isplit, R.Y] at hr
  subst hr
  try dsimp only [real, rops, ropsB, ropsC, ropsD, ropsE, ropsF, ropsG, ropsH, ropsI, ropsJ, ropsK, ropsL, ropsM, ropsN, ropsP, ropsQ, ropsT, ropsU, ropsV, ropsW, ropsX, ropsSp]
  cases hfin : wFin x1 x2 with
  | false =>
    refine ⟨imp_f fun _ => ?_, imp_t fun h => by simp at h⟩
    unfold spA spB
    rw [hfin]
    simp only [kR, canon, canons, getW, getWord, allInts8, asInt, isK, kindEq, isArgB, strOf, cBig, cInts, cWords, allInts, allWords, r_ofLimbs, r_mkWord, Option.some.injEq, LV.wide.injEq, LV.word.injEq, LV.int.injEq, LV.bool.injEq, LV.str.injEq, LV.big.injEq, LV.tup.injEq, LV.agg.injEq, List.cons.injEq, and_true, true_and]
    all_goals (first | rfl | exact mkWord_0 | exact ⟨mkWord_0, rfl⟩)
  | true =>
    have hr := vExp_rng hfin
    obtain ⟨hF, hf⟩ := fin_fits hfin
    have hv : vNeg x1 x2 = wNeg x1 x2 := by unfold vNeg; rw [hfin]; rfl
    obtain ⟨x1e, x2e, _⟩ := ir_exact (m := 3) hfin rfl
    refine ⟨imp_f fun h => by simp at h, imp_t fun _ => ⟨⟨by omega, by omega⟩, ?_⟩⟩
    rw [x2e, whX_int (m := 3) rfl]
    unfold spA spB
    rw [hfin]
    refine ⟨imp_f fun h => ?_, imp_t fun h => ?_⟩
    · rw [Bool.not_eq_true'] at h
      have hz := (rs_rest (f := x1) (w := x2)).1.1 h
      have hm : rsMag x1 x2 = 0 := by unfold rsMag; rw [hz]; exact find_zero hf _
      rw [hm, hv]
      simp only [kR, canon, canons, getW, getWord, allInts8, asInt, isK, kindEq, isArgB, strOf, cBig, cInts, cWords, allInts, allWords, r_ofLimbs, r_mkWord, Option.some.injEq, LV.wide.injEq, LV.word.injEq, LV.int.injEq, LV.bool.injEq, LV.str.injEq, LV.big.injEq, LV.tup.injEq, LV.agg.injEq, List.cons.injEq, and_true, true_and]
      exact ⟨rfl, rfl⟩
    · rw [Bool.not_eq_false'] at h
      obtain ⟨r0, r1, r2⟩ := rs_word hfin h (vNeg x1 x2)
      have hS : whS 3 (vNeg x1 x2) (vSig x1 x2) (vExp x1 x2) = cutW (vSig x1 x2) (-(vExp x1 x2)) false 3 (vNeg x1 x2) := by unfold whS; rw [if_neg (by omega)]
      rw [hS, neg_i64 (by omega), r2, hv]
      simp only [kR, canon, canons, getW, getWord, allInts8, asInt, isK, kindEq, isArgB, strOf, cBig, cInts, cWords, allInts, allWords, r_ofLimbs, r_mkWord, Option.some.injEq, LV.wide.injEq, LV.word.injEq, LV.int.injEq, LV.bool.injEq, LV.str.injEq, LV.big.injEq, LV.tup.injEq, LV.agg.injEq, List.cons.injEq, and_true, true_and]
      exact ⟨rfl, rfl⟩
theorem p_IntegralSplits : SpecOk Tryz.prog globs 4 (mkSpec real [.int .i64, .word] (s_IntegralSplits ropsSp)) := by
  have hfns : FnsOk Tryz.prog globs [(18, .spec (mkSpec real [.int .i64, .word] (s_isplit ropsSp))), (19, .spec (mkSpec real [.int .i64, .word] (s_class06 ropsC))), (20, .spec (mkSpec real [.int .i64, .word] (s_neg06 ropsC))), (9, .spec (mkSpec real [.int .i64, .word] (s_whole32 ropsX))), (22, .spec (mkSpec real [.int .i64, .word] (s_value07 ropsM))), (21, .spec (mkSpec real [.st [.bool, .int .i64, .wide]] (s_of07 ropsK))), (23, .spec (mkSpec real [.big, .big] (s_add01 ropsH))), (24, .spec (mkSpec real [.big, .int .i64] (s_shl01 ropsH))), (25, .spec (mkSpec real [.big, .big] (s_cmp01 ropsH))), (26, .spec (mkSpec real [.st [.bool, .big, .int .i64], .st [.bool, .big, .int .i64]] (s_size07 ropsL))), (27, .spec (mkSpec real [.int .u64] (s_small01 ropsH))), (14, .spec (mkSpec real [] (s_awake32 ropsX)))] := (fnsCons (fnSpec (p_isplit)) (fnsCons (fnSpec (p_class06)) (fnsCons (fnSpec (p_neg06)) (fnsCons (fnSpec (p_whole32)) (fnsCons (fnSpec (p_value07)) (fnsCons (fnSpec (p_of07)) (fnsCons (fnSpec (p_add01)) (fnsCons (fnSpec (p_shl01)) (fnsCons (fnSpec (p_cmp01)) (fnsCons (fnSpec (p_size07)) (fnsCons (fnSpec (p_small01)) (fnsCons (fnSpec (p_awake32)) fnsNil))))))))))))
  refine spec0 hfns (by kernel_rfl) Tryz.func4 (by kernel_rfl) (by kernel_rfl) (by kernel_rfl) 7 _ _ (.bool) ?_
  clear hfns
  generalize hEE : env0 [(18, .spec (mkSpec real [.int .i64, .word] (s_isplit ropsSp))), (19, .spec (mkSpec real [.int .i64, .word] (s_class06 ropsC))), (20, .spec (mkSpec real [.int .i64, .word] (s_neg06 ropsC))), (9, .spec (mkSpec real [.int .i64, .word] (s_whole32 ropsX))), (22, .spec (mkSpec real [.int .i64, .word] (s_value07 ropsM))), (21, .spec (mkSpec real [.st [.bool, .int .i64, .wide]] (s_of07 ropsK))), (23, .spec (mkSpec real [.big, .big] (s_add01 ropsH))), (24, .spec (mkSpec real [.big, .int .i64] (s_shl01 ropsH))), (25, .spec (mkSpec real [.big, .big] (s_cmp01 ropsH))), (26, .spec (mkSpec real [.st [.bool, .big, .int .i64], .st [.bool, .big, .int .i64]] (s_size07 ropsL))), (27, .spec (mkSpec real [.int .u64] (s_small01 ropsH))), (14, .spec (mkSpec real [] (s_awake32 ropsX)))] = EE
  intro l r hl hr
  simp only [Forms, Form] at hl
  obtain ⟨_, _, rfl, ⟨x1, rfl, x1lo, x1hi⟩, _, _, rfl, ⟨x2, rfl⟩, rfl⟩ := hl
  subst hEE
  generalize hK : kR (.bool) r = K
  generalize hO : real = O
  generalize hS0 : rops = S0
  generalize hS1 : ropsB = S1
  generalize hS2 : ropsC = S2
  generalize hS3 : ropsD = S3
  generalize hS4 : ropsE = S4
  generalize hS5 : ropsF = S5
  generalize hS6 : ropsG = S6
  generalize hS7 : ropsH = S7
  generalize hS8 : ropsI = S8
  generalize hS9 : ropsJ = S9
  generalize hS10 : ropsK = S10
  generalize hS11 : ropsL = S11
  generalize hS12 : ropsM = S12
  generalize hS13 : ropsN = S13
  generalize hS14 : ropsP = S14
  generalize hS15 : ropsQ = S15
  generalize hS16 : ropsT = S16
  generalize hS17 : ropsU = S17
  generalize hS18 : ropsV = S18
  generalize hS19 : ropsW = S19
  generalize hS20 : ropsX = S20
  generalize hS21 : ropsSp = S21
  set_option maxRecDepth 100000 in cbv
  subst hO hK hS0 hS1 hS2 hS3 hS4 hS5 hS6 hS7 hS8 hS9 hS10 hS11 hS12 hS13 hS14 hS15 hS16 hS17 hS18 hS19 hS20 hS21
  simp only [s_IntegralSplits, R.Y] at hr
  subst hr
  try dsimp only [real, rops, ropsB, ropsC, ropsD, ropsE, ropsF, ropsG, ropsH, ropsI, ropsJ, ropsK, ropsL, ropsM, ropsN, ropsP, ropsQ, ropsT, ropsU, ropsV, ropsW, ropsX, ropsSp]
  have kt : kR AT.bool (LV.bool true) (LV.bool true) := rfl
  refine ⟨imp_f fun h => ?_, imp_t fun h => ?_⟩
  · rw [c_lss_t] at h
    have hfin : wFin x1 x2 = false := by
      cases hh : wFin x1 x2 with
      | false => rfl
      | true => have := (fin_iff x1 x2).1 hh; omega
    have hA : spA x1 x2 = 0 := by unfold spA; rw [hfin]; rfl
    have hB : spB x1 x2 = 0 := by unfold spB; rw [hfin]; rfl
    rw [hfin, hA, hB, mkWord_0]
    simp [kt]
  · rw [c_lss_f] at h
    have hfin : wFin x1 x2 = true := (fin_iff _ _).2 h
    obtain ⟨hF, hf⟩ := fin_fits hfin
    have hv : vNeg x1 x2 = wNeg x1 x2 := by unfold vNeg; rw [hfin]; rfl
    obtain ⟨i1, i2⟩ := ir_size (m := 3) hfin
    obtain ⟨r1, r2⟩ := rs_size hfin
    have hA : spA x1 x2 = fWordOf x1 (wNeg x1 x2) (irMag x1 3 x2) := by unfold spA; rw [hfin]; rfl
    have hB : spB x1 x2 = fWordOf x1 (wNeg x1 x2) (rsMag x1 x2) := by unfold spB; rw [hfin]; rfl
    obtain ⟨a1, a2, _, _⟩ := of_fin hf i1 (wNeg x1 x2)
    obtain ⟨b1, b2, _, _⟩ := of_fin hf r1 (wNeg x1 x2)
    have a3 := size_sgn hf i1 i2 (wNeg x1 x2)
    have b3 := size_sgn hf r1 r2 (wNeg x1 x2)
    rw [← hA] at a1 a2 a3
    rw [← hB] at b1 b2 b3
    clear hA hB
    generalize spA x1 x2 = A at *
    generalize spB x1 x2 = B at *
    have cA : cmpR .lss (cls x1 A) 4 = false := by rw [c_lss_f]; exact (fin_iff _ _).1 a1
    have cB : cmpR .lss (cls x1 B) 4 = false := by rw [c_lss_f]; exact (fin_iff _ _).1 b1
    have wA : whI x1 A = true := by unfold whI; rw [a1, (int_same a1 a3).1]; rfl
    have ra := vExp_rng a1
    have rb := vExp_rng b1
    have rw' := vExp_rng hfin
    generalize hM : (if (if vExp x1 x2 < vExp x1 B then vExp x1 x2 else vExp x1 B) < vExp x1 A then if vExp x1 x2 < vExp x1 B then vExp x1 x2 else vExp x1 B else vExp x1 A) = M
    have hM3 : M ≤ vExp x1 A ∧ M ≤ vExp x1 B ∧ M ≤ vExp x1 x2 ∧ -16495 ≤ M := by
      rw [← hM]
      by_cases q1 : vExp x1 x2 < vExp x1 B
      · simp only [if_pos q1]; split <;> omega
      · simp only [if_neg q1]; split <;> omega
    have e1 : arithR .sub .i64 (vExp x1 A) M = vExp x1 A - M := sub_i64 (by omega) (by omega)
    have e2 : arithR .sub .i64 (vExp x1 B) M = vExp x1 B - M := sub_i64 (by omega) (by omega)
    have e3 : arithR .sub .i64 (vExp x1 x2) M = vExp x1 x2 - M := sub_i64 (by omega) (by omega)
    have hsum := split_eq hM3.1 hM3.2.1 hM3.2.2.1 a3 b3 (fun k k1 k2 => split_sum hfin (vNeg x1 x2) k1 k2)
    have hles := rs_less b3
    have t1 := small_wide (vSig x1 A)
    have t2 := small_wide (vSig x1 B)
    have t3 := small_wide (vSig x1 x2)
    have t4 := small_sh (vSig x1 A) (n := vExp x1 A - M) (by omega)
    have t5 := small_sh (vSig x1 B) (n := vExp x1 B - M) (by omega)
    have g1 : 0 ≤ vExp x1 A - M ∧ vExp x1 A - M ≤ 17179869184 := ⟨by omega, by omega⟩
    have g2 : 0 ≤ vExp x1 B - M ∧ vExp x1 B - M ≤ 17179869184 := ⟨by omega, by omega⟩
    have g3 : 0 ≤ vExp x1 x2 - M ∧ vExp x1 x2 - M ≤ 17179869184 := ⟨by omega, by omega⟩
    have n1 : okN (vSig x1 B).toNat (vExp x1 B) := okN_wide _ ⟨by omega, by omega⟩
    simp only [e1, e2, e3, hsum, cmpN_eq, cA, cB, wA, a1, b1, hfin, a2, b2, t1, t2, t3, t4, t5, g1, g2, g3, n1]
    have n2 : okN 1 0 := ⟨Nat.le_trans (bitN_le.2 (show 1 < 2 ^ 1 by decide)) (by decide), by decide, by decide⟩
    have n3 : cmpR .lss (sizeN (BitVec.toNat (vSig x1 B)) (vExp x1 B) 1 0) 0 = true := by rw [lss_dec]; exact decide_eq_true hles
    simp [n2, n3, kt, show cmpR .eql 0 0 = true from rfl]
end Go.LE