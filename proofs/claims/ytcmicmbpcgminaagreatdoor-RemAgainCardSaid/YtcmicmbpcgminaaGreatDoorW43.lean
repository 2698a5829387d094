import Derived.Test.YtcmicmbpcgminaaGreatDoorW42
import Derived.Test.YtcmicmbpcgminaaGreatDoorLeX
set_option linter.unusedVariables false
set_option linter.unusedSimpArgs false
namespace Go.LE
open Go Go.Proofs
def s_rmod (S : OpsRm) : List LV → R LV
  | [.agg [.bool _, .int _ e, .wide s], .agg [.bool _, .int _ g, .wide t]] => .req (S.okM e s g t) (.ok (.agg [.wide (S.lfR s e t g), .int .i64 (S.lfE e g), .bool (S.lfO s e t g)]))
  | _ => .fail
set_option exponentiation.threshold 600 in
theorem p_rmod : SpecOk Tryz.prog globs 75 (mkSpec real [.st [.bool, .int .i64, .wide], .st [.bool, .int .i64, .wide]] (s_rmod ropsRm)) := by
  have hfns : FnsOk Tryz.prog globs [(118, .spec (mkSpec real [.wide, .wide, .int .i64] (s_rsmall ropsRm))), (119, .spec (mkSpec real [.wide, .int .i64, .fnc 120 [.cell (.st [.bool, .int .i64, .wide])]] (s_shrink ropsRs))), (83, .spec (mkSpec real [.wide, .int .i64] (s_shl rops)))] := (fnsCons (fnSpec (p_rsmall)) (fnsCons (fnSpec (p_shrink)) (fnsCons (fnSpec (p_shl)) fnsNil)))
  refine spec0 hfns (by kernel_rfl) Tryz.func75 (by kernel_rfl) (by kernel_rfl) (by kernel_rfl) 4 _ _ (.st [.wide, .int .i64, .bool]) ?_
  clear hfns
  generalize hEE : env0 [(118, .spec (mkSpec real [.wide, .wide, .int .i64] (s_rsmall ropsRm))), (119, .spec (mkSpec real [.wide, .int .i64, .fnc 120 [.cell (.st [.bool, .int .i64, .wide])]] (s_shrink ropsRs))), (83, .spec (mkSpec real [.wide, .int .i64] (s_shl rops)))] = EE
  intro l r hl hr
  simp only [Forms, Form] at hl
  obtain ⟨_, _, rfl, ⟨_, rfl, ⟨_, _, rfl, ⟨x1_1, rfl⟩, _, _, rfl, ⟨x1_2, rfl, x1_2lo, x1_2hi⟩, _, _, rfl, ⟨x1_3, rfl⟩, rfl⟩⟩, _, _, rfl, ⟨_, rfl, ⟨_, _, rfl, ⟨x2_1, rfl⟩, _, _, rfl, ⟨x2_2, rfl, x2_2lo, x2_2hi⟩, _, _, rfl, ⟨x2_3, rfl⟩, rfl⟩⟩, rfl⟩ := hl
  subst hEE
  generalize hK : kR (.st [.wide, .int .i64, .bool]) r = K
  generalize hO : real = O
  generalize hS0 : rops = S0
  generalize hS1 : ropsB = S1
  generalize hS2 : ropsC = S2
  generalize hS3 : ropsD = S3
  generalize hS4 : ropsE = S4
  generalize hS5 : ropsF = S5
  generalize hS6 : ropsG = S6
  generalize hS7 : ropsH = S7
  generalize hS8 : ropsI = S8
  generalize hS9 : ropsJ = S9
  generalize hS10 : ropsK = S10
  generalize hS11 : ropsL = S11
  generalize hS12 : ropsM = S12
  generalize hS13 : ropsN = S13
  generalize hS14 : ropsP = S14
  generalize hS15 : ropsQ = S15
  generalize hS16 : ropsDv = S16
  generalize hS17 : ropsRm = S17
  generalize hS18 : ropsRs = S18
  set_option maxRecDepth 100000 in cbv
  subst hO hK hS0 hS1 hS2 hS3 hS4 hS5 hS6 hS7 hS8 hS9 hS10 hS11 hS12 hS13 hS14 hS15 hS16 hS17 hS18
  simp only [s_rmod, R.Y] at hr
  try dsimp only [real, rops, ropsB, ropsC, ropsD, ropsE, ropsF, ropsG, ropsH, ropsI, ropsJ, ropsK, ropsL, ropsM, ropsN, ropsP, ropsQ, ropsDv, ropsRm, ropsRs]
  obtain ⟨hq, hr⟩ := hr
  subst hr
  dsimp only [ropsRm]
  obtain ⟨q1, q2, q3, q4, q5⟩ := id hq
  have e1 : arithR .sub .i64 x2_2 x1_2 = x2_2 - x1_2 := sub_i64 (by omega) (by omega)
  have e2 : arithR .sub .i64 x1_2 x2_2 = x1_2 - x2_2 := sub_i64 (by omega) (by omega)
  rw [e1, e2]
  refine ⟨imp_f fun c => ?_, imp_t fun c => ⟨⟨q3, ?_, q4, q5⟩, ?_⟩⟩
  · rw [c_lss_t] at c
    have hE : lfE x1_2 x2_2 = x1_2 := by unfold lfE; omega
    have hA : lfA x1_3.toNat x1_2 x2_2 = x1_3.toNat := by unfold lfA; rw [hE, show (x1_2 - x1_2).toNat = 0 by omega, Nat.pow_zero, Nat.mul_one]
    have hD : lfD x2_3.toNat x1_2 x2_2 = x2_3.toNat * 2 ^ (x2_2 - x1_2).toNat := by unfold lfD; rw [hE]
    unfold lfR lfQ
    rw [hE, hA, hD]
    refine ⟨imp_f fun g => ?_, imp_t fun g => ?_⟩
    · rw [gtr_dec, decide_eq_true_eq] at g
      have hlt : x1_3.toNat < x2_3.toNat * 2 ^ (x2_2 - x1_2).toNat := by
        have a1 : 2 ^ 120 ≤ 2 ^ (x2_2 - x1_2).toNat := Nat.pow_le_pow_right (by decide) (by omega)
        have a2 : 2 ^ (x2_2 - x1_2).toNat ≤ x2_3.toNat * 2 ^ (x2_2 - x1_2).toNat := Nat.le_mul_of_pos_left _ (by omega)
        omega
      rw [Nat.mod_eq_of_lt hlt, Nat.div_eq_of_lt hlt, w_own_nat]
      rfl
    · rw [gtr_dec, decide_eq_false_iff_not] at g
      have a0 : x2_3.toNat * 2 ^ (x2_2 - x1_2).toNat < 2 ^ 250 := by
        have a1 : x2_3.toNat * 2 ^ (x2_2 - x1_2).toNat < 2 ^ 120 * 2 ^ (x2_2 - x1_2).toNat := Nat.mul_lt_mul_of_pos_right q5 (Nat.two_pow_pos _)
        have a2 : 2 ^ 120 * 2 ^ (x2_2 - x1_2).toNat ≤ 2 ^ 250 := by rw [← Nat.pow_add]; exact Nat.pow_le_pow_right (by decide) (by omega)
        exact Nat.lt_of_lt_of_le a1 a2
      have hs : (wShl x2_3 (x2_2 - x1_2)).toNat = x2_3.toNat * 2 ^ (x2_2 - x1_2).toNat := shl_exact (by omega) (by omega) (k := 250) (by decide) a0
      have hz : x2_3.toNat * 2 ^ (x2_2 - x1_2).toNat ≠ 0 := by
        have := Nat.mul_pos (show 0 < x2_3.toNat by omega) (Nat.two_pow_pos (x2_2 - x1_2).toNat)
        omega
      rw [hs]
      refine ⟨⟨hz, a0, by omega⟩, ?_⟩
      rfl
  · rw [c_lss_f] at c
    omega
  · rw [c_lss_f] at c
    have hE : lfE x1_2 x2_2 = x2_2 := by unfold lfE; omega
    have hA : lfA x1_3.toNat x1_2 x2_2 = x1_3.toNat * 2 ^ (x1_2 - x2_2).toNat := by unfold lfA; rw [hE]
    have hD : lfD x2_3.toNat x1_2 x2_2 = x2_3.toNat := by unfold lfD; rw [hE, show (x2_2 - x2_2).toNat = 0 by omega, Nat.pow_zero, Nat.mul_one]
    unfold lfR lfQ
    rw [hE, hA, hD]
    rfl
end Go.LE