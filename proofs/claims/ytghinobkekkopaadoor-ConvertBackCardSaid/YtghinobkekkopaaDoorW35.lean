import Derived.Test.YtghinobkekkopaaDoorW31
import Derived.Test.YtghinobkekkopaaDoorLeT
set_option linter.unusedVariables false
set_option linter.unusedSimpArgs false
namespace Go.LE
open Go Go.Proofs
def s_ConvertBack (_ : OpsW) : List LV → R LV := fun _ => .ok (.bool true)
theorem u8_rng {x : Int} (h1 : IntKind.u8.min ≤ x) (h2 : x ≤ IntKind.u8.max) : 0 ≤ x ∧ x < 256 := by
  simp only [IntKind.min, IntKind.max, IntKind.signed, IntKind.bits] at h1 h2
  simp at h1 h2
  omega
theorem rem_u8 {x k : Int} (hx : 0 ≤ x ∧ x < 256) (hk : 0 < k ∧ k ≤ 256) : IntKind.i64.wrap (arithR .rem .u8 x k) = x % k := by
  have e : arithR .rem .u8 x k = x % k := Int.tmod_eq_emod_of_nonneg hx.1
  have h1 := Int.emod_nonneg x (show k ≠ 0 by omega)
  have h2 := Int.emod_lt_of_pos x hk.1
  rw [e, wrap_i64_of (by omega) (by omega)]
theorem p_ConvertBack : SpecOk Tryd.prog globs 7 (mkSpec real [.int .u8, .int .u8, .word] (s_ConvertBack ropsW)) := by
  have hfns : FnsOk Tryd.prog globs [(14, .spec (mkSpec real [.int .i64, .word] (s_class06 ropsC))), (28, .spec (mkSpec real [.int .i64, .int .i64, .int .i64, .word] (s_cWord ropsW))), (17, .spec (mkSpec real [.int .i64, .word] (s_neg06 ropsC))), (27, .spec (mkSpec real [] (s_awake29 ropsW)))] := (fnsCons (fnSpec (p_class06)) (fnsCons (fnSpec (p_cWord)) (fnsCons (fnSpec (p_neg06)) (fnsCons (fnSpec (p_awake29)) fnsNil))))
  refine spec0 hfns (by kernel_rfl) Tryd.func7 (by kernel_rfl) (by kernel_rfl) (by kernel_rfl) 4 _ _ (.bool) ?_
  clear hfns
  generalize hEE : env0 [(14, .spec (mkSpec real [.int .i64, .word] (s_class06 ropsC))), (28, .spec (mkSpec real [.int .i64, .int .i64, .int .i64, .word] (s_cWord ropsW))), (17, .spec (mkSpec real [.int .i64, .word] (s_neg06 ropsC))), (27, .spec (mkSpec real [] (s_awake29 ropsW)))] = EE
  intro l r hl hr
  simp only [Forms, Form] at hl
  obtain ⟨_, _, rfl, ⟨x1, rfl, x1lo, x1hi⟩, _, _, rfl, ⟨x2, rfl, x2lo, x2hi⟩, _, _, rfl, ⟨x3, rfl⟩, rfl⟩ := hl
  subst hEE
  generalize hK : kR (.bool) r = K
  generalize hO : real = O
  generalize hS0 : rops = S0
  generalize hS1 : ropsB = S1
  generalize hS2 : ropsC = S2
  generalize hS3 : ropsD = S3
  generalize hS4 : ropsE = S4
  generalize hS5 : ropsF = S5
  generalize hS6 : ropsG = S6
  generalize hS7 : ropsH = S7
  generalize hS8 : ropsI = S8
  generalize hS9 : ropsJ = S9
  generalize hS10 : ropsK = S10
  generalize hS11 : ropsL = S11
  generalize hS12 : ropsM = S12
  generalize hS13 : ropsN = S13
  generalize hS14 : ropsP = S14
  generalize hS15 : ropsQ = S15
  generalize hS16 : ropsT = S16
  generalize hS17 : ropsU = S17
  generalize hS18 : ropsV = S18
  generalize hS19 : ropsW = S19
  set_option maxRecDepth 100000 in cbv
  subst hO hK hS0 hS1 hS2 hS3 hS4 hS5 hS6 hS7 hS8 hS9 hS10 hS11 hS12 hS13 hS14 hS15 hS16 hS17 hS18 hS19
  simp only [s_ConvertBack, R.Y] at hr
  subst hr
  try dsimp only [real, rops, ropsB, ropsC, ropsD, ropsE, ropsF, ropsG, ropsH, ropsI, ropsJ, ropsK, ropsL, ropsM, ropsN, ropsP, ropsQ, ropsT, ropsU, ropsV, ropsW]
  have r1 := u8_rng x1lo x1hi
  have r2 := u8_rng x2lo x2hi
  rw [rem_u8 r1 (k := 4) (by omega), rem_u8 r1 (k := 5) (by omega), rem_u8 r2 (k := 3) (by omega), rem_u8 r2 (k := 5) (by omega)]
  have a1 : arithR .add .i64 1 (x1 % 4) = 1 + x1 % 4 := add_i64 (by omega) (by omega)
  have a2 : arithR .add .i64 1 (x1 % 5) = 1 + x1 % 5 := add_i64 (by omega) (by omega)
  have a3 : arithR .add .i64 1 (x2 % 5) = 1 + x2 % 5 := add_i64 (by omega) (by omega)
  have a4 : arithR .add .i64 (1 + x1 % 4) (x2 % 3) = 1 + x1 % 4 + x2 % 3 := add_i64 (by omega) (by omega)
  rw [a1, a2, a3, a4]
  have hf : 1 ≤ 1 + x1 % 4 ∧ 1 + x1 % 4 ≤ 4 := by omega
  have ht : 1 + x1 % 4 ≤ (if 1 + x1 % 4 + x2 % 3 < 4 then 1 + x1 % 4 + x2 % 3 else 4) ∧ (if 1 + x1 % 4 + x2 % 3 < 4 then 1 + x1 % 4 + x2 % 3 else 4) ≤ 4 := by split <;> omega
  have hm : isM (1 + x2 % 5) = true := decide_eq_true (by omega)
  have hm2 : isM (1 + x1 % 5) = true := decide_eq_true (by omega)
  generalize (if 1 + x1 % 4 + x2 % 3 < 4 then 1 + x1 % 4 + x2 % 3 else 4) = t at *
  generalize 1 + x1 % 4 = f at *
  generalize 1 + x2 % 5 = m at *
  generalize 1 + x1 % 5 = m2 at *
  rw [lss_dec]
  by_cases h2 : cls f x3 < 2
  · simp [h2, kb_t]
  obtain ⟨b1, b2, b3, b4, b5⟩ := cv_back hf.1 ht.1 ht.2 (show 2 ≤ cls f x3 by omega) hm hm2
  have hF : fFits f x3 = true := by
    cases hh : fFits f x3 with
    | true => rfl
    | false => exact absurd (show cls f x3 = 0 by rw [cls_pos]; exact hh) (by omega)
  have kt : fOk t = true := decide_eq_true (by omega)
  have kf : fOk f = true := decide_eq_true (by omega)
  have o1 : cvOk f t m x3 = true := by unfold cvOk; rw [kt, hm, hF]; rfl
  have u1 : cvW f t m x3 = cvC f t m x3 := by unfold cvW; rw [o1]; rfl
  have o2 : cvOk t f m2 (cvC f t m x3) = true := by unfold cvOk; rw [kf, hm2, b1]; rfl
  have u2 : cvX f t m x3 = 0 := by unfold cvX; rw [o1]; exact b2
  have u3 : cvE f t m x3 = 0 := by unfold cvE; rw [o1]; rfl
  have u4 : cvW t f m2 (cvC f t m x3) = x3 := by unfold cvW; rw [o2]; exact b3
  have u5 : cvX t f m2 (cvC f t m x3) = 0 := by unfold cvX; rw [o2]; exact b4
  have u6 : cvE t f m2 (cvC f t m x3) = 0 := by unfold cvE; rw [o2]; rfl
  rw [u1, u2, u3, u4, u5, u6, ← b5]
  simp [h2, eql_self, kb_t]
end Go.LE