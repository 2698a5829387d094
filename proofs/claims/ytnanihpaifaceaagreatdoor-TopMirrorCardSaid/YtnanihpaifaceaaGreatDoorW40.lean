import Derived.Test.YtnanihpaifaceaaGreatDoorW22
import Derived.Test.YtnanihpaifaceaaGreatDoorLeT
set_option linter.unusedVariables false
set_option linter.unusedSimpArgs false
namespace Go.LE
open Go Go.Proofs
def okD (n d : W) : Prop := d.toNat ≠ 0 ∧ d.toNat < 2 ^ 120 ∧ n.toNat < d.toNat * 2 ^ 128
def wdT : Ty := .arr 8 (.int .u64)
set_option exponentiation.threshold 600 in
theorem ofLimbs_one : (ofLimbsR 1 0 0 0 0 0 0 0).toNat = 1 := by
  have h := ofLimbs_toNat (a := 1) (b := 0) (c := 0) (d := 0) (e := 0) (f := 0) (g := 0) (h := 0) (by decide) (by decide) (by decide) (by decide) (by decide) (by decide) (by decide) (by decide)
  simp at h
  omega
theorem add_nat {a b : W} {k : Nat} (h : a.toNat + b.toNat < 2 ^ k) (hk : k ≤ 512) : (a + b).toNat = a.toNat + b.toNat := by
  rw [BitVec.toNat_add, Nat.mod_eq_of_lt (Nat.lt_of_lt_of_le h (Nat.pow_le_pow_right (by decide) hk))]
theorem w_own_nat (a : W) : BitVec.ofNat 512 a.toNat = a := BitVec.eq_of_toNat_eq (by rw [BitVec.toNat_ofNat, Nat.mod_eq_of_lt a.isLt])
set_option exponentiation.threshold 600 in
theorem shl_div {d : W} {i : Int} (hd : d.toNat < 2 ^ 120) (h0 : 0 ≤ i) (h1 : i ≤ 127) : (wShl d i).toNat = d.toNat * 2 ^ i.toNat := by
  refine shl_exact h0 (by omega) (k := 300) (by decide) ?_
  have a1 : d.toNat * 2 ^ i.toNat < 2 ^ 120 * 2 ^ i.toNat := Nat.mul_lt_mul_of_pos_right hd (Nat.two_pow_pos _)
  have a2 : 2 ^ 120 * 2 ^ i.toNat ≤ 2 ^ 300 := by rw [← Nat.pow_add]; exact Nat.pow_le_pow_right (by decide) (by omega)
  exact Nat.lt_of_lt_of_le a1 a2
structure OpsDv where
  okD : W → W → Prop
  quo : W → W → W
  rem : W → W → W
  sum3 : W → W → W → W
noncomputable def ropsDv : OpsDv where
  okD := okD
  quo := fun n d => BitVec.ofNat 512 (n.toNat / d.toNat)
  rem := fun n d => BitVec.ofNat 512 (n.toNat % d.toNat)
  sum3 := fun a b c => a + b + c
def s_sum3 (S : OpsDv) : List LV → R LV
  | [.im [.wide a, .wide b, .wide c]] => .ok (.wide (S.sum3 a b c))
  | _ => .fail
def s_dvMay (S : OpsDv) : List LV → R LV
  | [.wide n, .wide d] => .req (S.okD n d) (.ok (.int .i64 0))
  | _ => .fail
def s_divide (S : OpsDv) : List LV → R LV
  | [.wide n, .wide d] => .req (S.okD n d) (.ok (.tup [.wide (S.quo n d), .wide (S.rem n d), .int .i64 0]))
  | _ => .fail
theorem p_sum3 : SpecOk Tryz.prog globs 220 (mkSpec real [.lst [.wide, .wide, .wide]] (s_sum3 ropsDv)) := by
  have hfns : FnsOk Tryz.prog globs [(106, .spec (mkSpec real [.wide, .wide] (s_wAdd rops)))] := (fnsCons (fnSpec (p_wAdd)) fnsNil)
  refine spec0 hfns (by kernel_rfl) Tryz.func220 (by kernel_rfl) (by kernel_rfl) (by kernel_rfl) 4 _ _ (.wide) ?_
  clear hfns
  generalize hEE : env0 [(106, .spec (mkSpec real [.wide, .wide] (s_wAdd rops)))] = EE
  intro l r hl hr
  simp only [Forms, Form] at hl
  obtain ⟨_, _, rfl, ⟨_, rfl, ⟨_, _, rfl, ⟨x1_1, rfl⟩, _, _, rfl, ⟨x1_2, rfl⟩, _, _, rfl, ⟨x1_3, rfl⟩, rfl⟩⟩, rfl⟩ := hl
  subst hEE
  generalize hK : kR (.wide) r = K
  generalize hO : real = O
  generalize hS0 : rops = S0
  generalize hS1 : ropsB = S1
  generalize hS2 : ropsC = S2
  generalize hS3 : ropsD = S3
  generalize hS4 : ropsE = S4
  generalize hS5 : ropsF = S5
  generalize hS6 : ropsG = S6
  generalize hS7 : ropsH = S7
  generalize hS8 : ropsI = S8
  generalize hS9 : ropsJ = S9
  generalize hS10 : ropsK = S10
  generalize hS11 : ropsL = S11
  generalize hS12 : ropsM = S12
  generalize hS13 : ropsN = S13
  generalize hS14 : ropsP = S14
  generalize hS15 : ropsQ = S15
  generalize hS16 : ropsDv = S16
  set_option maxRecDepth 100000 in cbv
  subst hO hK hS0 hS1 hS2 hS3 hS4 hS5 hS6 hS7 hS8 hS9 hS10 hS11 hS12 hS13 hS14 hS15 hS16
  simp only [s_sum3, R.Y] at hr
  subst hr
  try dsimp only [real, rops, ropsB, ropsC, ropsD, ropsE, ropsF, ropsG, ropsH, ropsI, ropsJ, ropsK, ropsL, ropsM, ropsN, ropsP, ropsQ, ropsDv]
  rw [ofLimbs_0, show (0 : W) + x1_1 = x1_1 from BitVec.zero_add _]
  simp only [kR, canon, canons, ekEq, numE, getW, getWord, allInts8, asInt, isK, kindEq, isArgB, strOf, cBig, cInts, cWords, allInts, allWords, r_ofLimbs, r_mkWord, Option.some.injEq, LV.wide.injEq, LV.word.injEq, LV.int.injEq, LV.bool.injEq, LV.str.injEq, LV.big.injEq, LV.tup.injEq, LV.agg.injEq, List.cons.injEq, and_true, true_and]
set_option exponentiation.threshold 600 in
theorem p_dvMay : SpecOk Tryz.prog globs 217 (mkSpec real [.wide, .wide] (s_dvMay ropsDv)) := by
  have hfns : FnsOk Tryz.prog globs [(42, .spec (mkSpec real [.wide] (s_wLen rops))), (88, .spec (mkSpec real [.wide, .int .i64] (s_shl rops))), (161, .spec (mkSpec real [.wide, .wide] (s_wCmp rops)))] := (fnsCons (fnSpec (p_wLen)) (fnsCons (fnSpec (p_shl)) (fnsCons (fnSpec (p_wCmp)) fnsNil)))
  refine spec0 hfns (by kernel_rfl) Tryz.func217 (by kernel_rfl) (by kernel_rfl) (by kernel_rfl) 4 _ _ (.int .i64) ?_
  clear hfns
  generalize hEE : env0 [(42, .spec (mkSpec real [.wide] (s_wLen rops))), (88, .spec (mkSpec real [.wide, .int .i64] (s_shl rops))), (161, .spec (mkSpec real [.wide, .wide] (s_wCmp rops)))] = EE
  intro l r hl hr
  simp only [Forms, Form] at hl
  obtain ⟨_, _, rfl, ⟨x1, rfl⟩, _, _, rfl, ⟨x2, rfl⟩, rfl⟩ := hl
  subst hEE
  generalize hK : kR (.int .i64) r = K
  generalize hO : real = O
  generalize hS0 : rops = S0
  generalize hS1 : ropsB = S1
  generalize hS2 : ropsC = S2
  generalize hS3 : ropsD = S3
  generalize hS4 : ropsE = S4
  generalize hS5 : ropsF = S5
  generalize hS6 : ropsG = S6
  generalize hS7 : ropsH = S7
  generalize hS8 : ropsI = S8
  generalize hS9 : ropsJ = S9
  generalize hS10 : ropsK = S10
  generalize hS11 : ropsL = S11
  generalize hS12 : ropsM = S12
  generalize hS13 : ropsN = S13
  generalize hS14 : ropsP = S14
  generalize hS15 : ropsQ = S15
  generalize hS16 : ropsDv = S16
  set_option maxRecDepth 100000 in cbv
  subst hO hK hS0 hS1 hS2 hS3 hS4 hS5 hS6 hS7 hS8 hS9 hS10 hS11 hS12 hS13 hS14 hS15 hS16
  simp only [s_dvMay, R.Y] at hr
  obtain ⟨hreq, hr⟩ := hr
  try dsimp only [rops, ropsB, ropsC, ropsD, ropsE, ropsF, ropsG, ropsH, ropsI, ropsJ, ropsK, ropsL, ropsM, ropsN, ropsP, ropsQ, ropsDv] at hreq
  subst hr
  try dsimp only [real, rops, ropsB, ropsC, ropsD, ropsE, ropsF, ropsG, ropsH, ropsI, ropsJ, ropsK, ropsL, ropsM, ropsN, ropsP, ropsQ, ropsDv]
  obtain ⟨h1, h2, h3⟩ := hreq
  have hs : (wShl x2 128).toNat = x2.toNat * 2 ^ 128 := by
    have := shl_exact (s := x2) (n := 128) (k := 300) (by decide) (by decide) (by decide) (by
      show x2.toNat * 2 ^ 128 < 2 ^ 300
      have : x2.toNat * 2 ^ 128 < 2 ^ 120 * 2 ^ 128 := Nat.mul_lt_mul_of_pos_right h2 (Nat.two_pow_pos _)
      omega)
    exact this
  refine ⟨imp_f fun h => ?_, imp_t fun _ => ⟨imp_f fun h => ?_, imp_t fun _ => ⟨imp_f fun h => ?_, imp_t fun _ => ?_⟩⟩⟩
  · rw [ofLimbs_0, decide_eq_true_eq] at h
    exact absurd (show x2.toNat = 0 by rw [← w_zero]; exact h) h1
  · rw [gtr_dec, decide_eq_true_eq, ← bitN_wLen] at h
    have := bitN_le.2 h2
    omega
  · rw [c_geq_t] at h
    unfold wCmp at h
    rw [hs] at h
    by_cases he : x1 = wShl x2 128
    · have : x1.toNat = (wShl x2 128).toNat := by rw [← he]
      omega
    · rw [if_neg he, if_pos h3] at h
      omega
  · simp only [kR, canon, canons, ekEq, numE, getW, getWord, allInts8, asInt, isK, kindEq, isArgB, strOf, cBig, cInts, cWords, allInts, allWords, r_ofLimbs, r_mkWord, Option.some.injEq, LV.wide.injEq, LV.word.injEq, LV.int.injEq, LV.bool.injEq, LV.str.injEq, LV.big.injEq, LV.tup.injEq, LV.agg.injEq, List.cons.injEq, and_true, true_and]
set_option exponentiation.threshold 600 in
theorem p_divide : SpecOk Tryz.prog globs 215 (mkSpec real [.wide, .wide] (s_divide ropsDv)) := by
  have hfns : FnsOk Tryz.prog globs [(218, inlF Tryz.f218), (219, inlF Tryz.f219), (217, .spec (mkSpec real [.wide, .wide] (s_dvMay ropsDv))), (220, .spec (mkSpec real [.lst [.wide, .wide, .wide]] (s_sum3 ropsDv))), (50, .spec (mkSpec real [.ints .u64] (s_of rops))), (102, .spec (mkSpec real [.wide, .wide] (s_wSub rops))), (88, .spec (mkSpec real [.wide, .int .i64] (s_shl rops)))] := (fnsCons (inl_ok Tryz.func218 (by kernel_rfl) (by kernel_rfl)) (fnsCons (inl_ok Tryz.func219 (by kernel_rfl) (by kernel_rfl)) (fnsCons (fnSpec (p_dvMay)) (fnsCons (fnSpec (p_sum3)) (fnsCons (fnSpec (p_of)) (fnsCons (fnSpec (p_wSub)) (fnsCons (fnSpec (p_shl)) fnsNil)))))))
  refine specL (fun _ => [2,4,6,7]) hfns (by kernel_rfl) Tryz.func215 (by kernel_rfl) (by kernel_rfl) (by kernel_rfl) 6 _ _ (.tup [.wide, .wide, .int .i64]) ?_
  clear hfns
  generalize hEE : envL (fun _ => [2,4,6,7]) [(218, inlF Tryz.f218), (219, inlF Tryz.f219), (217, .spec (mkSpec real [.wide, .wide] (s_dvMay ropsDv))), (220, .spec (mkSpec real [.lst [.wide, .wide, .wide]] (s_sum3 ropsDv))), (50, .spec (mkSpec real [.ints .u64] (s_of rops))), (102, .spec (mkSpec real [.wide, .wide] (s_wSub rops))), (88, .spec (mkSpec real [.wide, .int .i64] (s_shl rops)))] = EE
  intro l r hl hr
  simp only [Forms, Form] at hl
  obtain ⟨_, _, rfl, ⟨x1, rfl⟩, _, _, rfl, ⟨x2, rfl⟩, rfl⟩ := hl
  subst hEE
  generalize hK : kR (.tup [.wide, .wide, .int .i64]) r = K
  generalize hO : real = O
  generalize hS0 : rops = S0
  generalize hS1 : ropsB = S1
  generalize hS2 : ropsC = S2
  generalize hS3 : ropsD = S3
  generalize hS4 : ropsE = S4
  generalize hS5 : ropsF = S5
  generalize hS6 : ropsG = S6
  generalize hS7 : ropsH = S7
  generalize hS8 : ropsI = S8
  generalize hS9 : ropsJ = S9
  generalize hS10 : ropsK = S10
  generalize hS11 : ropsL = S11
  generalize hS12 : ropsM = S12
  generalize hS13 : ropsN = S13
  generalize hS14 : ropsP = S14
  generalize hS15 : ropsQ = S15
  generalize hS16 : ropsDv = S16
  set_option maxRecDepth 100000 in cbv
  obtain ⟨hq, hr⟩ := hr
  have hr : r = _ := hr.symm
  subst hO hK hS0 hS1 hS2 hS3 hS4 hS5 hS6 hS7 hS8 hS9 hS10 hS11 hS12 hS13 hS14 hS15 hS16
  subst hr
  replace hq : okD x1 x2 := hq
  obtain ⟨h1, h2, h3⟩ := id hq
  refine ⟨hq, imp_f fun h => (by cases h), imp_t fun _ => ?_⟩
  have z0 : (ofLimbsR 0 0 0 0 0 0 0 0).toNat = 0 := by rw [ofLimbs_0, ← w_zero]
  refine loop_rule (α := W × W × W × W × Int) (fun p => ⟨[.undef, .undef, .fn 219 [.ptr 11 0, .ptr 12 0], .undef, .ptr 18 0, .undef, .ptr 20 0, .int .i64 p.2.2.2.2, .undef, .undef, .undef, .undef, .undef, .undef, .undef, .undef, .undef, .undef, .undef, .undef, .undef, .undef, .undef, .undef, .undef, .undef, .undef, .undef, .undef, .undef, .undef, .undef, .undef, .undef, .undef, .undef], ofL [some (wdT, .wide x1), some (wdT, .wide x2), some (wdT, .wide p.2.2.2.1), some (wdT, .wide p.2.2.2.1), none, none, none, none, none, none, none, some (wdT, .wide p.1), some (wdT, .wide p.2.2.1), none, none, none, none, some (wdT, .wide x1), some (wdT, .wide x2), none, some (wdT, .wide p.2.1), none, none], 23⟩)
    (fun m p => -1 ≤ p.2.2.2.2 ∧ p.2.2.2.2 ≤ 127 ∧ dvP x1.toNat x2.toNat p.1.toNat p.2.1.toNat p.2.2.2.2 ∧ (p.2.2.2.2 = 127 ∨ p.2.2.1 = p.2.1) ∧ p.2.2.2.2 + 1 ≤ ((m : Nat) : Int)) ?_ 128 (ofLimbsR 0 0 0 0 0 0 0 0, x1, ofLimbsR 0 0 0 0 0 0 0 0, ofLimbsR 0 0 0 0 0 0 0 0, 127) ⟨by show (-1 : Int) ≤ 127; decide, by show (127 : Int) ≤ 127; decide, by show dvP x1.toNat x2.toNat (ofLimbsR 0 0 0 0 0 0 0 0).toNat x1.toNat 127; rw [z0]; exact dv_zero h3, .inl rfl, by show (127 : Int) + 1 ≤ ((128 : Nat) : Int); decide⟩
  rintro m ⟨q, l, r, z, i⟩ X ⟨g1, g2, g3, g4, g5⟩ hX
  (generalize hK : kR _ _ = K; generalize hO : real = O; generalize hS0 : rops = S0; generalize hS1 : ropsB = S1; generalize hS2 : ropsC = S2; generalize hS3 : ropsD = S3; generalize hS4 : ropsE = S4; generalize hS5 : ropsF = S5; generalize hS6 : ropsG = S6; generalize hS7 : ropsH = S7; generalize hS8 : ropsI = S8; generalize hS9 : ropsJ = S9; generalize hS10 : ropsK = S10; generalize hS11 : ropsL = S11; generalize hS12 : ropsM = S12; generalize hS13 : ropsN = S13; generalize hS14 : ropsP = S14; generalize hS15 : ropsQ = S15; generalize hS16 : ropsDv = S16; set_option maxRecDepth 100000 in cbv; subst hO hK hS0 hS1 hS2 hS3 hS4 hS5 hS6 hS7 hS8 hS9 hS10 hS11 hS12 hS13 hS14 hS15 hS16; dsimp only [real, rops, ropsB, ropsC, ropsD, ropsE, ropsF, ropsG, ropsH, ropsI, ropsJ, ropsK, ropsL, ropsM, ropsN, ropsP, ropsQ, ropsDv])
  have k1 : -1 ≤ i := g1
  have k2 : i ≤ 127 := g2
  have k3 : dvP x1.toNat x2.toNat q.toNat l.toNat i := g3
  have k4 : i = 127 ∨ r = l := g4
  have k5 : i + 1 ≤ ((m : Nat) : Int) := g5
  clear g1 g2 g3 g4 g5
  have o1 := ofLimbs_one
  have hql := dv_qlt h1 h3 k1 k3
  have e1 : arithR .sub .i64 i 1 = i - 1 := sub_i64 (by omega) (by omega)
  rw [e1]
  refine ⟨imp_f fun g => ?_, imp_t fun g => ?_⟩
  · rw [c_geq_t] at g
    have hs := shl_div h2 g k2
    have hm : m = (m - 1) + 1 := by omega
    have hc : i - 1 + 1 ≤ ((m - 1 : Nat) : Int) := by omega
    refine ⟨imp_f fun b => ?_, imp_t fun b => ?_⟩
    · have hle : x2.toNat * 2 ^ i.toNat ≤ l.toNat := by
        rw [Bool.not_eq_true'] at b
        have := of_decide_eq_false b
        rw [hs] at this
        omega
      have hl : (l - wShl x2 i).toNat = l.toNat - x2.toNat * 2 ^ i.toNat := by rw [BitVec.toNat_sub_of_le (by rw [BitVec.le_def, hs]; exact hle), hs]
      have hq1 : (q + q + ofLimbsR 1 0 0 0 0 0 0 0).toNat = q.toNat + q.toNat + 1 := by
        rw [add_nat (k := 300) (by rw [add_nat (k := 300) (by omega) (by decide), o1]; omega) (by decide), add_nat (k := 300) (by omega) (by decide), o1]
      have hd := dv_hit h1 g k3 hle
      exact hX (m - 1) (q + q + ofLimbsR 1 0 0 0 0 0 0 0, l - wShl x2 i, l - wShl x2 i, z, i - 1) hm ⟨by show -1 ≤ i - 1; omega, by show i - 1 ≤ 127; omega, by show dvP x1.toNat x2.toNat (q + q + ofLimbsR 1 0 0 0 0 0 0 0).toNat (l - wShl x2 i).toNat (i - 1); rw [hq1, hl]; exact hd, .inr rfl, hc⟩
    · have hlt : l.toNat < x2.toNat * 2 ^ i.toNat := by
        rw [Bool.not_eq_false'] at b
        have := of_decide_eq_true b
        rw [hs] at this
        exact this
      have hq1 : (q + q + ofLimbsR 0 0 0 0 0 0 0 0).toNat = q.toNat + q.toNat := by
        rw [add_nat (k := 300) (by rw [add_nat (k := 300) (by omega) (by decide), z0]; omega) (by decide), add_nat (k := 300) (by omega) (by decide), z0]
        rfl
      have hd := dv_miss h1 g k3 hlt
      exact hX (m - 1) (q + q + ofLimbsR 0 0 0 0 0 0 0 0, l, l, z, i - 1) hm ⟨by show -1 ≤ i - 1; omega, by show i - 1 ≤ 127; omega, by show dvP x1.toNat x2.toNat (q + q + ofLimbsR 0 0 0 0 0 0 0 0).toNat l.toNat (i - 1); rw [hq1]; exact hd, .inr rfl, hc⟩
  · rw [c_geq_f] at g
    have hr : r = l := by
      rcases k4 with k | k
      · omega
      · exact k
    obtain ⟨f1, f2⟩ := dv_end (by omega) k3
    rw [← f1, ← f2, hr, w_own_nat, w_own_nat]
    rfl
end Go.LE