import Derived.Test.YtghinobkekkopaaDoorW32
import Derived.Test.YtghinobkekkopaaDoorLeU
set_option linter.unusedVariables false
set_option linter.unusedSimpArgs false
namespace Go.LE
open Go Go.Proofs
def s_IntegralStays (_ : OpsX) : List LV → R LV := fun _ => .ok (.bool true)
theorem u8_rg {x : Int} (h1 : IntKind.u8.min ≤ x) (h2 : x ≤ IntKind.u8.max) : 0 ≤ x ∧ x < 256 := by
  simp only [IntKind.min, IntKind.max, IntKind.signed, IntKind.bits] at h1 h2
  simp at h1 h2
  omega
theorem rem_u8k {x k : Int} (hx : 0 ≤ x ∧ x < 256) (hk : 0 < k ∧ k ≤ 256) : IntKind.i64.wrap (arithR .rem .u8 x k) = x % k := by
  have e : arithR .rem .u8 x k = x % k := Int.tmod_eq_emod_of_nonneg hx.1
  have h1 := Int.emod_nonneg x (show k ≠ 0 by omega)
  have h2 := Int.emod_lt_of_pos x hk.1
  rw [e, wrap_i64_of (by omega) (by omega)]
theorem p_IntegralStays : SpecOk Tryd.prog globs 9 (mkSpec real [.int .i64, .st [.int .u8, .int .u8], .word] (s_IntegralStays ropsX)) := by
  have hfns : FnsOk Tryd.prog globs [(14, .spec (mkSpec real [.int .i64, .word] (s_class06 ropsC))), (32, .spec (mkSpec real [.int .i64, .int .i64, .word] (s_iround ropsX))), (33, .spec (mkSpec real [.int .i64, .word] (s_iis ropsX))), (20, .spec (mkSpec real [.int .i64, .word] (s_value ropsL))), (25, .spec (mkSpec real [.st [.bool, .int .i64, .wide], .st [.bool, .int .i64, .wide]] (s_ucmp ropsQ))), (31, .spec (mkSpec real [] (s_awake32 ropsX)))] := (fnsCons (fnSpec (p_class06)) (fnsCons (fnSpec (p_iround)) (fnsCons (fnSpec (p_iis)) (fnsCons (fnSpec (p_value)) (fnsCons (fnSpec (p_ucmp)) (fnsCons (fnSpec (p_awake32)) fnsNil))))))
  refine spec0 hfns (by kernel_rfl) Tryd.func9 (by kernel_rfl) (by kernel_rfl) (by kernel_rfl) 7 _ _ (.bool) ?_
  clear hfns
  generalize hEE : env0 [(14, .spec (mkSpec real [.int .i64, .word] (s_class06 ropsC))), (32, .spec (mkSpec real [.int .i64, .int .i64, .word] (s_iround ropsX))), (33, .spec (mkSpec real [.int .i64, .word] (s_iis ropsX))), (20, .spec (mkSpec real [.int .i64, .word] (s_value ropsL))), (25, .spec (mkSpec real [.st [.bool, .int .i64, .wide], .st [.bool, .int .i64, .wide]] (s_ucmp ropsQ))), (31, .spec (mkSpec real [] (s_awake32 ropsX)))] = EE
  intro l r hl hr
  simp only [Forms, Form] at hl
  obtain ⟨_, _, rfl, ⟨x1, rfl, x1lo, x1hi⟩, _, _, rfl, ⟨_, rfl, ⟨_, _, rfl, ⟨x2_1, rfl, x2_1lo, x2_1hi⟩, _, _, rfl, ⟨x2_2, rfl, x2_2lo, x2_2hi⟩, rfl⟩⟩, _, _, rfl, ⟨x3, rfl⟩, rfl⟩ := hl
  subst hEE
  generalize hK : kR (.bool) r = K
  generalize hO : real = O
  generalize hS0 : rops = S0
  generalize hS1 : ropsB = S1
  generalize hS2 : ropsC = S2
  generalize hS3 : ropsD = S3
  generalize hS4 : ropsE = S4
  generalize hS5 : ropsF = S5
  generalize hS6 : ropsG = S6
  generalize hS7 : ropsH = S7
  generalize hS8 : ropsI = S8
  generalize hS9 : ropsJ = S9
  generalize hS10 : ropsK = S10
  generalize hS11 : ropsL = S11
  generalize hS12 : ropsM = S12
  generalize hS13 : ropsN = S13
  generalize hS14 : ropsP = S14
  generalize hS15 : ropsQ = S15
  generalize hS16 : ropsT = S16
  generalize hS17 : ropsU = S17
  generalize hS18 : ropsV = S18
  generalize hS19 : ropsW = S19
  generalize hS20 : ropsX = S20
  set_option cbv.maxSteps 4000000 in set_option maxRecDepth 100000 in cbv
  subst hO hK hS0 hS1 hS2 hS3 hS4 hS5 hS6 hS7 hS8 hS9 hS10 hS11 hS12 hS13 hS14 hS15 hS16 hS17 hS18 hS19 hS20
  simp only [s_IntegralStays, R.Y] at hr
  subst hr
  try dsimp only [real, rops, ropsB, ropsC, ropsD, ropsE, ropsF, ropsG, ropsH, ropsI, ropsJ, ropsK, ropsL, ropsM, ropsN, ropsP, ropsQ, ropsT, ropsU, ropsV, ropsW, ropsX]
  have r1 := u8_rg x2_1lo x2_1hi
  have r2 := u8_rg x2_2lo x2_2hi
  rw [rem_u8k r1 (k := 5) (by omega), rem_u8k r2 (k := 5) (by omega)]
  have a1 : arithR .add .i64 1 (x2_1 % 5) = 1 + x2_1 % 5 := add_i64 (by omega) (by omega)
  have a2 : arithR .add .i64 1 (x2_2 % 5) = 1 + x2_2 % 5 := add_i64 (by omega) (by omega)
  rw [a1, a2]
  have hm : isM (1 + x2_1 % 5) = true := decide_eq_true (by omega)
  have hm2 : isM (1 + x2_2 % 5) = true := decide_eq_true (by omega)
  generalize 1 + x2_1 % 5 = m at *
  generalize 1 + x2_2 % 5 = m2 at *
  refine ⟨imp_f fun _ => rfl, imp_t fun h => ?_⟩
  rw [c_lss_f] at h
  have hfin := (fin_iff _ _).2 h
  obtain ⟨s1, s2, s3, s4, s5, s6, s7, s8, s9⟩ := stays hfin hm hm2
  have hu := ucmp_words s2 hfin
  simp only [s1, s3, s4, s5, s6, hu]
  generalize sgI (sval x1 (irW x1 m x3) - sval x1 x3) = c at *
  have n0 : cmpR .neq 0 0 = false := rfl
  have kt : kR AT.bool (LV.bool true) (LV.bool true) := rfl
  have hne : ∀ a b : Int, cmpR .neq a b = decide (a ≠ b) := fun a b => by
    by_cases hab : a = b
    · subst hab; simp [cmpR]
    · simp [cmpR, hab]
  have t1 : cmpR .neq m 4 = true ∨ cmpR .geq c 0 = true := by
    by_cases h4 : m = 4
    · right; rw [geq_dec]; exact decide_eq_true (s7 h4)
    · left; rw [hne]; exact decide_eq_true h4
  have t2 : cmpR .neq m 5 = true ∨ cmpR .leq c 0 = true := by
    by_cases h4 : m = 5
    · right; rw [leq_dec]; exact decide_eq_true (s8 h4)
    · left; rw [hne]; exact decide_eq_true h4
  have t3 : cmpR .neq m 3 = true ∨ cmpR .eql c 0 = true ∨ ¬cmpR .lss c 0 = vNeg x1 x3 := by
    by_cases h4 : m = 3
    · right
      rw [eql_dec, lss_dec]
      rcases s9 h4 with h5 | h5
      · exact .inl (decide_eq_true h5)
      · exact .inr h5
    · left; rw [hne]; exact decide_eq_true h4
  rw [n0]
  rcases t1 with t | t <;> rcases t2 with u | u <;> rcases t3 with v | v | v <;> simp [t, u, v, kt]
end Go.LE