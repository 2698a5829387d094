import Derived.Test.YtghinobkekkopaaDoorW25
import Derived.Test.YtghinobkekkopaaDoorLeR
set_option linter.unusedVariables false
set_option linter.unusedSimpArgs false
namespace Go.LE
open Go Go.Proofs
def s_SpecialRules (_ : OpsS) : List LV → R LV := fun _ => .ok (.bool true)
def s_SpecialSigns (_ : OpsS) : List LV → R LV := fun _ => .ok (.bool true)
theorem p_SpecialRules : SpecOk Tryd.prog globs 3 (mkSpec real [.st [.int .i64, .int .i64], .word, .word] (s_SpecialRules ropsS)) := by
  have hfns : FnsOk Tryd.prog globs [(10, .spec (mkSpec real [.int .i64, .word, .word] (s_rule26 ropsS))), (11, .spec (mkSpec real [.int .i64, .word] (s_root26 ropsS))), (12, .spec (mkSpec real [.int .i64, .int .i64, .word, .word] (s_sRule ropsS))), (13, .spec (mkSpec real [] (s_awake26 ropsS)))] := (fnsCons (fnSpec (p_rule26)) (fnsCons (fnSpec (p_root26)) (fnsCons (fnSpec (p_sRule)) (fnsCons (fnSpec (p_awake26)) fnsNil))))
  refine spec0 hfns (by kernel_rfl) Tryd.func3 (by kernel_rfl) (by kernel_rfl) (by kernel_rfl) 4 _ _ (.bool) ?_
  clear hfns
  generalize hEE : env0 [(10, .spec (mkSpec real [.int .i64, .word, .word] (s_rule26 ropsS))), (11, .spec (mkSpec real [.int .i64, .word] (s_root26 ropsS))), (12, .spec (mkSpec real [.int .i64, .int .i64, .word, .word] (s_sRule ropsS))), (13, .spec (mkSpec real [] (s_awake26 ropsS)))] = EE
  intro l r hl hr
  simp only [Forms, Form] at hl
  obtain ⟨_, _, rfl, ⟨_, rfl, ⟨_, _, rfl, ⟨x1_1, rfl, x1_1lo, x1_1hi⟩, _, _, rfl, ⟨x1_2, rfl, x1_2lo, x1_2hi⟩, rfl⟩⟩, _, _, rfl, ⟨x2, rfl⟩, _, _, rfl, ⟨x3, rfl⟩, rfl⟩ := hl
  subst hEE
  generalize hK : kR (.bool) r = K
  generalize hO : real = O
  generalize hS0 : rops = S0
  generalize hS1 : ropsB = S1
  generalize hS2 : ropsC = S2
  generalize hS3 : ropsD = S3
  generalize hS4 : ropsE = S4
  generalize hS5 : ropsF = S5
  generalize hS6 : ropsG = S6
  generalize hS7 : ropsH = S7
  generalize hS8 : ropsI = S8
  generalize hS9 : ropsJ = S9
  generalize hS10 : ropsK = S10
  generalize hS11 : ropsL = S11
  generalize hS12 : ropsM = S12
  generalize hS13 : ropsN = S13
  generalize hS14 : ropsP = S14
  generalize hS15 : ropsQ = S15
  generalize hS16 : ropsR = S16
  generalize hS17 : ropsS = S17
  set_option maxRecDepth 100000 in cbv
  subst hO hK hS0 hS1 hS2 hS3 hS4 hS5 hS6 hS7 hS8 hS9 hS10 hS11 hS12 hS13 hS14 hS15 hS16 hS17
  simp only [s_SpecialRules, R.Y] at hr
  subst hr
  try dsimp only [real, rops, ropsB, ropsC, ropsD, ropsE, ropsF, ropsG, ropsH, ropsI, ropsJ, ropsK, ropsL, ropsM, ropsN, ropsP, ropsQ, ropsR, ropsS]
  have q0 : ({ data := { toList := [] } } : ByteArray) = bytesOf [] := rfl
  simp only [q0, eql_dec]
  by_cases h1 : x1_2 = 1
  · subst h1
    simp [kb_t]
  · by_cases h2 : x1_2 = 2
    · subst h2
      simp [kb_t]
    · simp [h1, h2, kb_t]
theorem p_SpecialSigns : SpecOk Tryd.prog globs 4 (mkSpec real [.int .i64, .word, .word] (s_SpecialSigns ropsS)) := by
  have hfns : FnsOk Tryd.prog globs [(14, .spec (mkSpec real [.int .i64, .word] (s_class06 ropsC))), (15, .spec (mkSpec real [.int .i64, .word, .word] (s_sDiv ropsS))), (17, .spec (mkSpec real [.int .i64, .word] (s_neg06 ropsC))), (16, .spec (mkSpec real [.int .i64, .word, .bool] (s_signed06 ropsC))), (13, .spec (mkSpec real [] (s_awake26 ropsS)))] := (fnsCons (fnSpec (p_class06)) (fnsCons (fnSpec (p_sDiv)) (fnsCons (fnSpec (p_neg06)) (fnsCons (fnSpec (p_signed06)) (fnsCons (fnSpec (p_awake26)) fnsNil)))))
  refine spec0 hfns (by kernel_rfl) Tryd.func4 (by kernel_rfl) (by kernel_rfl) (by kernel_rfl) 4 _ _ (.bool) ?_
  clear hfns
  generalize hEE : env0 [(14, .spec (mkSpec real [.int .i64, .word] (s_class06 ropsC))), (15, .spec (mkSpec real [.int .i64, .word, .word] (s_sDiv ropsS))), (17, .spec (mkSpec real [.int .i64, .word] (s_neg06 ropsC))), (16, .spec (mkSpec real [.int .i64, .word, .bool] (s_signed06 ropsC))), (13, .spec (mkSpec real [] (s_awake26 ropsS)))] = EE
  intro l r hl hr
  simp only [Forms, Form] at hl
  obtain ⟨_, _, rfl, ⟨x1, rfl, x1lo, x1hi⟩, _, _, rfl, ⟨x2, rfl⟩, _, _, rfl, ⟨x3, rfl⟩, rfl⟩ := hl
  subst hEE
  generalize hK : kR (.bool) r = K
  generalize hO : real = O
  generalize hS0 : rops = S0
  generalize hS1 : ropsB = S1
  generalize hS2 : ropsC = S2
  generalize hS3 : ropsD = S3
  generalize hS4 : ropsE = S4
  generalize hS5 : ropsF = S5
  generalize hS6 : ropsG = S6
  generalize hS7 : ropsH = S7
  generalize hS8 : ropsI = S8
  generalize hS9 : ropsJ = S9
  generalize hS10 : ropsK = S10
  generalize hS11 : ropsL = S11
  generalize hS12 : ropsM = S12
  generalize hS13 : ropsN = S13
  generalize hS14 : ropsP = S14
  generalize hS15 : ropsQ = S15
  generalize hS16 : ropsR = S16
  generalize hS17 : ropsS = S17
  set_option maxRecDepth 100000 in cbv
  subst hO hK hS0 hS1 hS2 hS3 hS4 hS5 hS6 hS7 hS8 hS9 hS10 hS11 hS12 hS13 hS14 hS15 hS16 hS17
  simp only [s_SpecialSigns, R.Y] at hr
  subst hr
  try dsimp only [real, rops, ropsB, ropsC, ropsD, ropsE, ropsF, ropsG, ropsH, ropsI, ropsJ, ropsK, ropsL, ropsM, ropsN, ropsP, ropsQ, ropsR, ropsS]
  simp only [eql_dec]
  by_cases ha : cls x1 x2 = 0
  · simp [ha, kb_t]
  by_cases hb : cls x1 x3 = 0
  · simp [ha, hb, kb_t]
  have hF : fFits x1 x3 = true := by
    cases h : fFits x1 x3 with
    | true => rfl
    | false => exact absurd (by rw [cls_pos]; exact h) hb
  have hf := (fits_lt hF).1
  obtain ⟨t1, t2, t3, t4⟩ := div_turn (a := x2) hF
  have n0 : cmpR .neq (divX x1 x2 x3) (divX x1 x2 x3) = false := by rw [c_neq_f]
  rw [t2, t3, n0]
  cases ho : divOk x1 x2 x3 with
  | false => simp [ha, hb, hf, kb_t]
  | true =>
    by_cases hc : cls x1 (divW x1 x2 x3) < 3
    · have c0 : cmpR .lss (cls x1 (divW x1 x2 x3)) 3 = true := by rw [c_lss_t]; exact hc
      rw [c0]
      simp [ha, hb, hf, kb_t]
    · have c0 : cmpR .lss (cls x1 (divW x1 x2 x3)) 3 = false := by rw [c_lss_f]; omega
      rw [c0, div_turned hF ho hc]
      simp [ha, hb, hf, kb_t]
end Go.LE