import Derived.Test.YtcmicmbpcgminaaGreatDoorW41
import Derived.Test.YtcmicmbpcgminaaGreatDoorLeX
set_option linter.unusedVariables false
set_option linter.unusedSimpArgs false
namespace Go.LE
open Go Go.Proofs
def skP (a y k q l : Nat) : Prop := l = (a * 2 ^ k) % y ∧ q % 2 = (a * 2 ^ k / y) % 2
theorem quo_nat {n d : W} : (BitVec.ofNat 512 (n.toNat / d.toNat)).toNat = n.toNat / d.toNat := by
  rw [BitVec.toNat_ofNat, Nat.mod_eq_of_lt (Nat.lt_of_le_of_lt (Nat.div_le_self _ _) n.isLt)]
theorem rem_nat {n d : W} : (BitVec.ofNat 512 (n.toNat % d.toNat)).toNat = n.toNat % d.toNat := by
  rw [BitVec.toNat_ofNat, Nat.mod_eq_of_lt (Nat.lt_of_le_of_lt (Nat.mod_le _ _) n.isLt)]
theorem sk_zero {y : W} (h : y.toNat ≠ 0) (a : W) : skP a.toNat y.toNat 0 (BitVec.ofNat 512 (a.toNat / y.toNat)).toNat (BitVec.ofNat 512 (a.toNat % y.toNat)).toNat := by
  unfold skP
  rw [quo_nat, rem_nat, Nat.pow_zero, Nat.mul_one]
  exact ⟨rfl, rfl⟩
theorem sk_step {a y k q l n : Nat} (hy : y ≠ 0) (h : skP a y k q l) (hn : 1 ≤ n) : skP a y (k + n) (l * 2 ^ n / y) (l * 2 ^ n % y) := by
  unfold skP at *
  rw [h.1, Nat.pow_add, ← Nat.mul_assoc]
  exact ⟨(md_scale (by omega) _ n).1.symm, (md_odd (by omega) _ hn).symm⟩
theorem odd_limb (q : W) : cmpR .eql (arithR .and .u64 (limbR q 0) 1) 1 = decide (q.toNat % 2 = 1) := by
  rw [and_u64 ⟨limbR_nonneg q 0, limbR_lt q 0⟩ (by decide), eql_dec]
  refine decide_eq_decide.2 ?_
  have e : (limbR q 0).toNat = q.toNat % 2 ^ 64 := by
    unfold limbR
    rw [Int.toNat_natCast, Nat.mul_zero, Nat.pow_zero, Nat.div_one]
  rw [e, show (1 : Int).toNat = 1 by rfl, Nat.and_one_is_mod, Nat.mod_mod_of_dvd _ (show 2 ∣ 2 ^ 64 by decide)]
  omega
structure OpsRs where
  okD : W → W → Prop
  quo : W → W → W
  rem : W → W → W
  okH : W → Int → W → Prop
  shR : W → Int → W → W
  shO : W → Int → W → Bool
noncomputable def ropsRs : OpsRs where
  okD := okD
  quo := fun n d => BitVec.ofNat 512 (n.toNat / d.toNat)
  rem := fun n d => BitVec.ofNat 512 (n.toNat % d.toNat)
  okH := fun a by_ y => a.toNat < 2 ^ 113 ∧ 0 ≤ by_ ∧ y.toNat ≠ 0 ∧ y.toNat < 2 ^ 120
  shR := fun a by_ y => BitVec.ofNat 512 ((a.toNat * 2 ^ by_.toNat) % y.toNat)
  shO := fun a by_ y => decide ((a.toNat * 2 ^ by_.toNat / y.toNat) % 2 = 1)
def s_mod1 (S : OpsRs) : List LV → R LV
  | [.wide n, .cell (.agg [.bool _, .int _ _, .wide y])] => .req (S.okD n y) (.ok (.tup [.wide (S.quo n y), .wide (S.rem n y)]))
  | _ => .fail
def s_shrink (S : OpsRs) : List LV → R LV
  | [.wide a, .int _ b, .fn _ [.cell (.agg [.bool _, .int _ _, .wide y])]] => .req (S.okH a b y) (.ok (.tup [.wide (S.shR a b y), .bool (S.shO a b y)]))
  | _ => .fail
theorem p_mod1 : SpecOk Tryz.prog globs 120 (mkSpec real [.wide, .cell (.st [.bool, .int .i64, .wide])] (s_mod1 ropsRs)) := by
  have hfns : FnsOk Tryz.prog globs [(121, .spec (mkSpec real [.wide, .wide] (s_divide ropsDv)))] := (fnsCons (fnSpec (p_divide)) fnsNil)
  refine spec0 hfns (by kernel_rfl) Tryz.func120 (by kernel_rfl) (by kernel_rfl) (by kernel_rfl) 4 _ _ (.tup [.wide, .wide]) ?_
  clear hfns
  generalize hEE : env0 [(121, .spec (mkSpec real [.wide, .wide] (s_divide ropsDv)))] = EE
  intro l r hl hr
  simp only [Forms, Form] at hl
  obtain ⟨_, _, rfl, ⟨x1, rfl⟩, _, _, rfl, ⟨_, rfl, ⟨_, rfl, ⟨_, _, rfl, ⟨x2_1, rfl⟩, _, _, rfl, ⟨x2_2, rfl, x2_2lo, x2_2hi⟩, _, _, rfl, ⟨x2_3, rfl⟩, rfl⟩⟩⟩, rfl⟩ := hl
  subst hEE
  generalize hK : kR (.tup [.wide, .wide]) r = K
  generalize hO : real = O
  generalize hS0 : rops = S0
  generalize hS1 : ropsB = S1
  generalize hS2 : ropsC = S2
  generalize hS3 : ropsD = S3
  generalize hS4 : ropsE = S4
  generalize hS5 : ropsF = S5
  generalize hS6 : ropsG = S6
  generalize hS7 : ropsH = S7
  generalize hS8 : ropsI = S8
  generalize hS9 : ropsJ = S9
  generalize hS10 : ropsK = S10
  generalize hS11 : ropsL = S11
  generalize hS12 : ropsM = S12
  generalize hS13 : ropsN = S13
  generalize hS14 : ropsP = S14
  generalize hS15 : ropsQ = S15
  generalize hS16 : ropsDv = S16
  generalize hS17 : ropsRm = S17
  generalize hS18 : ropsRs = S18
  set_option maxRecDepth 100000 in cbv
  subst hO hK hS0 hS1 hS2 hS3 hS4 hS5 hS6 hS7 hS8 hS9 hS10 hS11 hS12 hS13 hS14 hS15 hS16 hS17 hS18
  simp only [s_mod1, R.Y] at hr
  try dsimp only [real, rops, ropsB, ropsC, ropsD, ropsE, ropsF, ropsG, ropsH, ropsI, ropsJ, ropsK, ropsL, ropsM, ropsN, ropsP, ropsQ, ropsDv, ropsRm, ropsRs]
  obtain ⟨hq, hr⟩ := hr
  subst hr
  dsimp only [ropsRs]
  refine ⟨hq, ?_⟩
  simp only [kR, canon, canons, getW, getWord, allInts8, asInt, isK, kindEq, isArgB, strOf, cBig, cInts, cWords, allInts, allWords, r_ofLimbs, r_mkWord, Option.some.injEq, LV.wide.injEq, LV.word.injEq, LV.int.injEq, LV.bool.injEq, LV.str.injEq, LV.big.injEq, LV.tup.injEq, LV.agg.injEq, List.cons.injEq, and_true, true_and]
set_option exponentiation.threshold 600 in
theorem p_shrink : SpecOk Tryz.prog globs 119 (mkSpec real [.wide, .int .i64, .fnc 120 [.cell (.st [.bool, .int .i64, .wide])]] (s_shrink ropsRs)) := by
  have hfns : FnsOk Tryz.prog globs [(120, .spec (mkSpec real [.wide, .cell (.st [.bool, .int .i64, .wide])] (s_mod1 ropsRs))), (83, .spec (mkSpec real [.wide, .int .i64] (s_shl rops)))] := (fnsCons (fnSpec (p_mod1)) (fnsCons (fnSpec (p_shl)) fnsNil))
  refine specL (fun _ => [1,2,6,8,9]) hfns (by kernel_rfl) Tryz.func119 (by kernel_rfl) (by kernel_rfl) (by kernel_rfl) 4 _ _ (.tup [.wide, .bool]) ?_
  clear hfns
  generalize hEE : envL (fun _ => [1,2,6,8,9]) [(120, .spec (mkSpec real [.wide, .cell (.st [.bool, .int .i64, .wide])] (s_mod1 ropsRs))), (83, .spec (mkSpec real [.wide, .int .i64] (s_shl rops)))] = EE
  intro l r hl hr
  simp only [Forms, Form] at hl
  obtain ⟨_, _, rfl, ⟨x1, rfl⟩, _, _, rfl, ⟨x2, rfl, x2lo, x2hi⟩, _, _, rfl, ⟨_, rfl, ⟨_, _, rfl, ⟨_, rfl, ⟨_, rfl, ⟨_, _, rfl, ⟨x3_1_1, rfl⟩, _, _, rfl, ⟨x3_1_2, rfl, x3_1_2lo, x3_1_2hi⟩, _, _, rfl, ⟨x3_1_3, rfl⟩, rfl⟩⟩⟩, rfl⟩⟩, rfl⟩ := hl
  subst hEE
  generalize hK : kR (.tup [.wide, .bool]) r = K
  generalize hO : real = O
  generalize hS0 : rops = S0
  generalize hS1 : ropsB = S1
  generalize hS2 : ropsC = S2
  generalize hS3 : ropsD = S3
  generalize hS4 : ropsE = S4
  generalize hS5 : ropsF = S5
  generalize hS6 : ropsG = S6
  generalize hS7 : ropsH = S7
  generalize hS8 : ropsI = S8
  generalize hS9 : ropsJ = S9
  generalize hS10 : ropsK = S10
  generalize hS11 : ropsL = S11
  generalize hS12 : ropsM = S12
  generalize hS13 : ropsN = S13
  generalize hS14 : ropsP = S14
  generalize hS15 : ropsQ = S15
  generalize hS16 : ropsDv = S16
  generalize hS17 : ropsRm = S17
  generalize hS18 : ropsRs = S18
  set_option maxRecDepth 100000 in cbv
  obtain ⟨hq, hr⟩ := hr
  have hr : r = _ := hr.symm
  subst hO hK hS0 hS1 hS2 hS3 hS4 hS5 hS6 hS7 hS8 hS9 hS10 hS11 hS12 hS13 hS14 hS15 hS16 hS17 hS18
  subst hr
  obtain ⟨h1, h2, h3, h4⟩ := id hq
  have hd1 : x1.toNat < x3_1_3.toNat * 2 ^ 128 := by
    have : 2 ^ 128 ≤ x3_1_3.toNat * 2 ^ 128 := Nat.le_mul_of_pos_left _ (by omega)
    omega
  refine ⟨⟨h3, h4, hd1⟩, loop_rule (α := W × W × W × Int) (fun p => ⟨[.undef, .int .i64 p.2.2.2, .fn 120 [.cell (.agg [.bool x3_1_1, .int .i64 x3_1_2, .wide x3_1_3])], .undef, .undef, .undef, .ptr 1 0, .undef, .ptr 9 0, .ptr 10 0, .undef, .undef, .undef, .undef, .undef, .undef, .undef, .undef, .undef, .undef, .undef, .undef, .undef, .undef, .undef, .undef, .undef, .undef, .undef, .undef, .undef, .undef, .undef, .undef, .undef, .undef, .undef, .undef, .undef], ofL [some (wdT, .wide x1), some (wdT, .wide p.2.2.1), none, none, none, none, none, none, none, some (wdT, .wide p.1), some (wdT, .wide p.2.1), none, none], 13⟩)
    (fun m p => skP x1.toNat x3_1_3.toNat (x2 - p.2.2.2).toNat p.1.toNat p.2.1.toNat ∧ 0 ≤ p.2.2.2 ∧ p.2.2.2 ≤ x2 ∧ p.2.2.2 ≤ ((m : Nat) : Int)) ?_ x2.toNat (ropsRs.quo x1 x3_1_3, ropsRs.rem x1 x3_1_3, ofLimbsR 0 0 0 0 0 0 0 0, x2)
    ⟨by show skP _ _ (x2 - x2).toNat _ _; rw [show (x2 - x2).toNat = 0 by omega]; exact sk_zero h3 x1, h2, Int.le_refl _, by show x2 ≤ _; omega⟩⟩
  rintro m ⟨q, l, z, b⟩ X ⟨g1, g2, g3, g4⟩ hX
  (generalize hK : kR _ _ = K; generalize hO : real = O; generalize hS0 : rops = S0; generalize hS1 : ropsB = S1; generalize hS2 : ropsC = S2; generalize hS3 : ropsD = S3; generalize hS4 : ropsE = S4; generalize hS5 : ropsF = S5; generalize hS6 : ropsG = S6; generalize hS7 : ropsH = S7; generalize hS8 : ropsI = S8; generalize hS9 : ropsJ = S9; generalize hS10 : ropsK = S10; generalize hS11 : ropsL = S11; generalize hS12 : ropsM = S12; generalize hS13 : ropsN = S13; generalize hS14 : ropsP = S14; generalize hS15 : ropsQ = S15; generalize hS16 : ropsDv = S16; generalize hS17 : ropsRm = S17; generalize hS18 : ropsRs = S18; set_option maxRecDepth 100000 in cbv; subst hO hK hS0 hS1 hS2 hS3 hS4 hS5 hS6 hS7 hS8 hS9 hS10 hS11 hS12 hS13 hS14 hS15 hS16 hS17 hS18; dsimp only [real, rops, ropsB, ropsC, ropsD, ropsE, ropsF, ropsG, ropsH, ropsI, ropsJ, ropsK, ropsL, ropsM, ropsN, ropsP, ropsQ, ropsDv, ropsRm, ropsRs])
  have k1 : skP x1.toNat x3_1_3.toNat (x2 - b).toNat q.toNat l.toNat := g1
  have k2 : 0 ≤ b := g2
  have k3 : b ≤ x2 := g3
  have k4 : b ≤ ((m : Nat) : Int) := g4
  clear g1 g2 g3 g4
  have hy : 0 < x3_1_3.toNat := by omega
  have hx2 : x2 ≤ 9223372036854775807 := by rw [i64_max] at x2hi; exact x2hi
  refine ⟨imp_f fun g => ?_, imp_t fun g => ?_⟩
  · rw [gtr_dec, decide_eq_true_eq] at g
    generalize hn : (if 120 < b then (120 : Int) else b) = n
    have hn2 : 1 ≤ n ∧ n ≤ 120 ∧ n ≤ b := by rw [← hn]; split <;> omega
    have e1 : arithR .sub .i64 b n = b - n := sub_i64 (by omega) (by omega)
    rw [e1]
    have hl : l.toNat < x3_1_3.toNat := by rw [k1.1]; exact Nat.mod_lt _ hy
    have hs : (wShl l n).toNat = l.toNat * 2 ^ n.toNat := shl_div (by omega) (by omega) (by omega)
    have st := sk_step h3 k1 (n := n.toNat) (by omega)
    have ek : (x2 - b).toNat + n.toNat = (x2 - (b - n)).toNat := by omega
    rw [ek] at st
    have hok : okD (wShl l n) x3_1_3 := by
      refine ⟨h3, h4, ?_⟩
      rw [hs]
      have a1 : l.toNat * 2 ^ n.toNat < x3_1_3.toNat * 2 ^ n.toNat := Nat.mul_lt_mul_of_pos_right hl (Nat.two_pow_pos _)
      exact Nat.lt_of_lt_of_le a1 (Nat.mul_le_mul_left _ (Nat.pow_le_pow_right (by decide) (by omega)))
    have st2 : skP x1.toNat x3_1_3.toNat (x2 - (b - n)).toNat (BitVec.ofNat 512 ((wShl l n).toNat / x3_1_3.toNat)).toNat (BitVec.ofNat 512 ((wShl l n).toNat % x3_1_3.toNat)).toNat := by
      rw [quo_nat, rem_nat, hs]
      exact st
    refine ⟨hok, imp_f fun c => ?_, imp_t fun c => ?_⟩
    · rw [c_eql_t] at c
      rw [c, show (x2 - 0).toNat = x2.toNat by omega] at st2
      rw [odd_limb, st2.2, ← st2.1, w_own_nat]
      rfl
    · have hm : m = (m - 1) + 1 := by omega
      have hc : b - n ≤ ((m - 1 : Nat) : Int) := by omega
      exact hX (m - 1) (BitVec.ofNat 512 ((wShl l n).toNat / x3_1_3.toNat), BitVec.ofNat 512 ((wShl l n).toNat % x3_1_3.toNat), z, b - n) hm ⟨st2, by show 0 ≤ b - n; omega, by show b - n ≤ x2; omega, hc⟩
  · rw [gtr_dec, decide_eq_false_iff_not] at g
    have hb : b = 0 := by omega
    rw [hb, show (x2 - 0).toNat = x2.toNat by omega] at k1
    rw [odd_limb, k1.2, ← k1.1, w_own_nat]
    rfl
end Go.LE