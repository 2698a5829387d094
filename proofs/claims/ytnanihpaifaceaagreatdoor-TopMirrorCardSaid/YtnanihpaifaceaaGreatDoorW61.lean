import Derived.Test.YtnanihpaifaceaaGreatDoorW60
set_option linter.unusedVariables false
set_option linter.unusedSimpArgs false
namespace Go.LE
open Go Go.Proofs
/-- one of two contracts, by the form of the arguments -/
def selS (O : Prim) (t1 : List AT) (g1 : List LV → R LV) (t2 : List AT) (g2 : List LV → R LV) : Spec := fun l => match canons O t1 l with
  | some l' => g1 l'
  | none => match canons O t2 l with
    | some l' => g2 l'
    | none => .fail
theorem spec_sel {P : Program} {G : List (Nat × Ty × LV)} {f : FuncId} {O : Prim} {t1 t2 : List AT} {g1 g2 : List LV → R LV} (h1 : SpecOk P G f (mkSpec O t1 g1)) (h2 : SpecOk P G f (mkSpec O t2 g2)) : SpecOk P G f (selS O t1 g1 t2 g2) := by
  refine ⟨h1.1, fun args r hY w vals hv hg => ?_⟩
  unfold selS at hY
  cases e1 : canons O t1 args with
  | some l =>
    rw [e1] at hY
    exact h1.2 args r (by unfold mkSpec; rw [e1]; exact hY) w vals hv hg
  | none =>
    rw [e1] at hY
    exact h2.2 args r (by unfold mkSpec; exact hY) w vals hv hg
def s_sqroot (S : OpsQt) : List LV → R LV
  | [.wide n] => .req (S.okR n) (.ok (.tup [.wide (S.rt n), .wide (S.rr n), .int .i64 0]))
  | _ => .fail
theorem two_i64 {i : Int} (h0 : 0 ≤ i) (h1 : i ≤ 127) : arithR .mul .i64 2 i = 2 * i := by
  show IntKind.i64.wrap (2 * i) = _
  rw [IntKind.wrap_i64]
  omega
theorem p_sum2 : SpecOk Tryz.prog globs 220 (mkSpec real [.lst [.wide, .wide]] (s_sum2 ropsQt)) := by
  have hfns : FnsOk Tryz.prog globs [(106, .spec (mkSpec real [.wide, .wide] (s_wAdd rops)))] := (fnsCons (fnSpec (p_wAdd)) fnsNil)
  refine spec0 hfns (by kernel_rfl) Tryz.func220 (by kernel_rfl) (by kernel_rfl) (by kernel_rfl) 4 _ _ (.wide) ?_
  clear hfns
  generalize hEE : env0 [(106, .spec (mkSpec real [.wide, .wide] (s_wAdd rops)))] = EE
  intro l r hl hr
  simp only [Forms, Form] at hl
  obtain ⟨_, _, rfl, ⟨_, rfl, ⟨_, _, rfl, ⟨x1_1, rfl⟩, _, _, rfl, ⟨x1_2, rfl⟩, rfl⟩⟩, rfl⟩ := hl
  subst hEE
  generalize hK : kR (.wide) r = K
  generalize hO : real = O
  generalize hS0 : rops = S0
  generalize hS1 : ropsB = S1
  generalize hS2 : ropsC = S2
  generalize hS3 : ropsD = S3
  generalize hS4 : ropsE = S4
  generalize hS5 : ropsF = S5
  generalize hS6 : ropsG = S6
  generalize hS7 : ropsH = S7
  generalize hS8 : ropsI = S8
  generalize hS9 : ropsJ = S9
  generalize hS10 : ropsK = S10
  generalize hS11 : ropsL = S11
  generalize hS12 : ropsM = S12
  generalize hS13 : ropsN = S13
  generalize hS14 : ropsP = S14
  generalize hS15 : ropsQ = S15
  generalize hS16 : ropsT = S16
  generalize hS17 : ropsUm = S17
  generalize hS18 : ropsU = S18
  generalize hS19 : ropsV = S19
  generalize hS20 : ropsDv = S20
  generalize hS21 : ropsQt = S21
  set_option maxRecDepth 100000 in cbv
  subst hO hK hS0 hS1 hS2 hS3 hS4 hS5 hS6 hS7 hS8 hS9 hS10 hS11 hS12 hS13 hS14 hS15 hS16 hS17 hS18 hS19 hS20 hS21
  simp only [s_sum2, R.Y] at hr
  subst hr
  try dsimp only [real, rops, ropsB, ropsC, ropsD, ropsE, ropsF, ropsG, ropsH, ropsI, ropsJ, ropsK, ropsL, ropsM, ropsN, ropsP, ropsQ, ropsT, ropsUm, ropsU, ropsV, ropsDv, ropsQt]
  rw [ofLimbs_0, show (0 : W) + x1_1 = x1_1 from BitVec.zero_add _]
  simp only [kR, canon, canons, ekEq, numE, getW, getWord, allInts8, asInt, isK, kindEq, isArgB, strOf, cBig, cInts, cWords, allInts, allWords, r_ofLimbs, r_mkWord, Option.some.injEq, LV.wide.injEq, LV.word.injEq, LV.int.injEq, LV.bool.injEq, LV.str.injEq, LV.big.injEq, LV.tup.injEq, LV.agg.injEq, List.cons.injEq, and_true, true_and]
set_option exponentiation.threshold 600 in
theorem p_sqroot : SpecOk Tryz.prog globs 216 (mkSpec real [.wide] (s_sqroot ropsQt)) := by
  have hfns : FnsOk Tryz.prog globs [(222, inlF Tryz.f222), (223, inlF Tryz.f223), (220, .spec (selS real [.lst [.wide, .wide, .wide]] (s_sum3 ropsDv) [.lst [.wide, .wide]] (s_sum2 ropsQt))), (221, .spec (mkSpec real [.wide] (s_rtMay ropsQt))), (50, .spec (mkSpec real [.ints .u64] (s_of rops))), (102, .spec (mkSpec real [.wide, .wide] (s_wSub rops))), (106, .spec (mkSpec real [.wide, .wide] (s_wAdd rops))), (88, .spec (mkSpec real [.wide, .int .i64] (s_shl rops))), (107, .spec (mkSpec real [.int .i64] (s_power rops)))] := (fnsCons (inl_ok Tryz.func222 (by kernel_rfl) (by kernel_rfl)) (fnsCons (inl_ok Tryz.func223 (by kernel_rfl) (by kernel_rfl)) (fnsCons (fnSpec (spec_sel p_sum3 p_sum2)) (fnsCons (fnSpec (p_rtMay)) (fnsCons (fnSpec (p_of)) (fnsCons (fnSpec (p_wSub)) (fnsCons (fnSpec (p_wAdd)) (fnsCons (fnSpec (p_shl)) (fnsCons (fnSpec (p_power)) fnsNil)))))))))
  refine specL (fun _ => [1,4,5,6]) hfns (by kernel_rfl) Tryz.func216 (by kernel_rfl) (by kernel_rfl) (by kernel_rfl) 6 _ _ (.tup [.wide, .wide, .int .i64]) ?_
  clear hfns
  generalize hEE : envL (fun _ => [1,4,5,6]) [(222, inlF Tryz.f222), (223, inlF Tryz.f223), (220, .spec (selS real [.lst [.wide, .wide, .wide]] (s_sum3 ropsDv) [.lst [.wide, .wide]] (s_sum2 ropsQt))), (221, .spec (mkSpec real [.wide] (s_rtMay ropsQt))), (50, .spec (mkSpec real [.ints .u64] (s_of rops))), (102, .spec (mkSpec real [.wide, .wide] (s_wSub rops))), (106, .spec (mkSpec real [.wide, .wide] (s_wAdd rops))), (88, .spec (mkSpec real [.wide, .int .i64] (s_shl rops))), (107, .spec (mkSpec real [.int .i64] (s_power rops)))] = EE
  intro l r hl hr
  simp only [Forms, Form] at hl
  obtain ⟨_, _, rfl, ⟨x1, rfl⟩, rfl⟩ := hl
  subst hEE
  generalize hK : kR (.tup [.wide, .wide, .int .i64]) r = K
  generalize hO : real = O
  generalize hS0 : rops = S0
  generalize hS1 : ropsB = S1
  generalize hS2 : ropsC = S2
  generalize hS3 : ropsD = S3
  generalize hS4 : ropsE = S4
  generalize hS5 : ropsF = S5
  generalize hS6 : ropsG = S6
  generalize hS7 : ropsH = S7
  generalize hS8 : ropsI = S8
  generalize hS9 : ropsJ = S9
  generalize hS10 : ropsK = S10
  generalize hS11 : ropsL = S11
  generalize hS12 : ropsM = S12
  generalize hS13 : ropsN = S13
  generalize hS14 : ropsP = S14
  generalize hS15 : ropsQ = S15
  generalize hS16 : ropsT = S16
  generalize hS17 : ropsUm = S17
  generalize hS18 : ropsU = S18
  generalize hS19 : ropsV = S19
  generalize hS20 : ropsDv = S20
  generalize hS21 : ropsQt = S21
  set_option maxRecDepth 100000 in cbv
  obtain ⟨hq, hr⟩ := hr
  have hr : r = _ := hr.symm
  subst hO hK hS0 hS1 hS2 hS3 hS4 hS5 hS6 hS7 hS8 hS9 hS10 hS11 hS12 hS13 hS14 hS15 hS16 hS17 hS18 hS19 hS20 hS21
  subst hr
  replace hq : x1.toNat < 2 ^ 256 := hq
  refine ⟨hq, imp_f fun h => (by cases h), imp_t fun _ => ?_⟩
  have z0 : (ofLimbsR 0 0 0 0 0 0 0 0).toNat = 0 := by rw [ofLimbs_0, ← w_zero]
  refine loop_rule (α := W × W × W × W × W × Int) (fun p => ⟨[.undef, .fn 223 [.ptr 9 0, .ptr 10 0], .undef, .undef, .ptr 17 0, .ptr 18 0, .int .i64 p.2.2.2.2.2, .undef, .undef, .undef, .undef, .undef, .undef, .undef, .undef, .undef, .undef, .undef, .undef, .undef, .undef, .undef, .undef, .undef, .undef, .undef, .undef, .undef, .undef, .undef, .undef, .undef, .undef, .undef, .undef, .undef, .undef, .undef, .undef, .undef, .undef, .undef, .undef, .undef], ofL [some (wdT, .wide x1), some (wdT, .wide p.2.2.2.2.1), some (wdT, .wide p.2.2.2.2.1), none, none, none, none, none, none, some (wdT, .wide p.1), some (wdT, .wide p.2.1), none, none, none, some (wdT, .wide x1), none, none, some (wdT, .wide p.2.2.1), some (wdT, .wide p.2.2.2.1), none, none, none], 22⟩)
    (fun m p => -1 ≤ p.2.2.2.2.2 ∧ p.2.2.2.2.2 ≤ 127 ∧ rtP x1.toNat p.1.toNat p.2.2.1.toNat p.2.2.2.1.toNat p.2.2.2.2.2 ∧ (p.2.2.2.2.2 = 127 ∨ p.2.1 = p.2.2.1) ∧ p.2.2.2.2.2 + 1 ≤ ((m : Nat) : Int)) ?_ 128 (ofLimbsR 0 0 0 0 0 0 0 0, ofLimbsR 0 0 0 0 0 0 0 0, x1, ofLimbsR 0 0 0 0 0 0 0 0, ofLimbsR 0 0 0 0 0 0 0 0, 127) ⟨by show (-1 : Int) ≤ 127; decide, by show (127 : Int) ≤ 127; decide, by show rtP x1.toNat (ofLimbsR 0 0 0 0 0 0 0 0).toNat x1.toNat (ofLimbsR 0 0 0 0 0 0 0 0).toNat 127; rw [z0]; exact rt_zero hq, .inl rfl, by show (127 : Int) + 1 ≤ ((128 : Nat) : Int); decide⟩
  rintro m ⟨s, r, l, t, z, i⟩ X ⟨g1, g2, g3, g4, g5⟩ hX
  (generalize hK : kR _ _ = K; generalize hO : real = O; generalize hS0 : rops = S0; generalize hS1 : ropsB = S1; generalize hS2 : ropsC = S2; generalize hS3 : ropsD = S3; generalize hS4 : ropsE = S4; generalize hS5 : ropsF = S5; generalize hS6 : ropsG = S6; generalize hS7 : ropsH = S7; generalize hS8 : ropsI = S8; generalize hS9 : ropsJ = S9; generalize hS10 : ropsK = S10; generalize hS11 : ropsL = S11; generalize hS12 : ropsM = S12; generalize hS13 : ropsN = S13; generalize hS14 : ropsP = S14; generalize hS15 : ropsQ = S15; generalize hS16 : ropsT = S16; generalize hS17 : ropsUm = S17; generalize hS18 : ropsU = S18; generalize hS19 : ropsV = S19; generalize hS20 : ropsDv = S20; generalize hS21 : ropsQt = S21; set_option maxRecDepth 100000 in cbv; subst hO hK hS0 hS1 hS2 hS3 hS4 hS5 hS6 hS7 hS8 hS9 hS10 hS11 hS12 hS13 hS14 hS15 hS16 hS17 hS18 hS19 hS20 hS21; dsimp only [real, rops, ropsB, ropsC, ropsD, ropsE, ropsF, ropsG, ropsH, ropsI, ropsJ, ropsK, ropsL, ropsM, ropsN, ropsP, ropsQ, ropsT, ropsUm, ropsU, ropsV, ropsDv, ropsQt])
  have k1 : -1 ≤ i := g1
  have k2 : i ≤ 127 := g2
  have k3 : rtP x1.toNat s.toNat l.toNat t.toNat i := g3
  have k4 : i = 127 ∨ r = l := g4
  have k5 : i + 1 ≤ ((m : Nat) : Int) := g5
  clear g1 g2 g3 g4 g5
  have e1 : arithR .sub .i64 i 1 = i - 1 := sub_i64 (by omega) (by omega)
  have e2 : arithR .add .i64 i 1 = i + 1 := add_i64 (by omega) (by omega)
  refine ⟨imp_f fun g => ?_, imp_t fun g => ?_⟩
  · rw [c_geq_t] at g
    obtain ⟨b1, b2, b3, b4⟩ := rt_bound g k3
    have o1 := ofLimbs_one
    rw [two_i64 g k2, e1, e2]
    have hp2 : (wPower (2 * i)).toNat = 2 ^ (2 * i).toNat := power_toNat ⟨by omega, by omega⟩
    have hp1 : (wPower (i + 1)).toNat = 2 ^ (i + 1).toNat := power_toNat ⟨by omega, by omega⟩
    have hs1 : (wShl t i).toNat = t.toNat * 2 ^ i.toNat := shl_exact (k := 257) g (by omega) (by decide) (by omega)
    have hT : (wShl t i + wPower (2 * i)).toNat = t.toNat * 2 ^ i.toNat + 2 ^ (2 * i).toNat := by
      rw [add_nat (k := 257) (by rw [hs1, hp2]; exact b1) (by decide), hs1, hp2]
    have hm : m = (m - 1) + 1 := by omega
    have hc : i - 1 + 1 ≤ ((m - 1 : Nat) : Int) := by omega
    have ht1 : (t + wPower (i + 1)).toNat = t.toNat + 2 ^ (i + 1).toNat := by
      rw [add_nat (k := 130) (by rw [hp1]; omega) (by decide), hp1]
    have hs2 : (s + s).toNat = s.toNat + s.toNat := add_nat (k := 130) (by omega) (by decide)
    refine ⟨imp_f fun b => ?_, imp_t fun b => ?_⟩
    · have hlt : l.toNat < t.toNat * 2 ^ i.toNat + 2 ^ (2 * i).toNat := by
        have := of_decide_eq_true b
        rw [hT] at this
        exact this
      have hq1 : (s + s + ofLimbsR 0 0 0 0 0 0 0 0).toNat = s.toNat + s.toNat := by
        rw [add_nat (k := 300) (by rw [hs2, z0]; omega) (by decide), hs2, z0]
        rfl
      have hd := rt_miss g k3 hlt
      exact hX (m - 1) (s + s + ofLimbsR 0 0 0 0 0 0 0 0, l, l, t, z, i - 1) hm ⟨by show -1 ≤ i - 1; omega, by show i - 1 ≤ 127; omega, by show rtP x1.toNat (s + s + ofLimbsR 0 0 0 0 0 0 0 0).toNat l.toNat t.toNat (i - 1); rw [hq1]; exact hd, .inr rfl, hc⟩
    · have hle : t.toNat * 2 ^ i.toNat + 2 ^ (2 * i).toNat ≤ l.toNat := by
        have := of_decide_eq_false b
        rw [hT] at this
        omega
      have hl : (l - (wShl t i + wPower (2 * i))).toNat = l.toNat - (t.toNat * 2 ^ i.toNat + 2 ^ (2 * i).toNat) := by rw [BitVec.toNat_sub_of_le (by rw [BitVec.le_def, hT]; exact hle), hT]
      have hq1 : (s + s + ofLimbsR 1 0 0 0 0 0 0 0).toNat = s.toNat + s.toNat + 1 := by
        rw [add_nat (k := 300) (by rw [hs2, o1]; omega) (by decide), hs2, o1]
      have hd := rt_hit g k3 hle
      exact hX (m - 1) (s + s + ofLimbsR 1 0 0 0 0 0 0 0, l - (wShl t i + wPower (2 * i)), l - (wShl t i + wPower (2 * i)), t + wPower (i + 1), z, i - 1) hm ⟨by show -1 ≤ i - 1; omega, by show i - 1 ≤ 127; omega, by show rtP x1.toNat (s + s + ofLimbsR 1 0 0 0 0 0 0 0).toNat (l - (wShl t i + wPower (2 * i))).toNat (t + wPower (i + 1)).toNat (i - 1); rw [hq1, hl, ht1]; exact hd, .inr rfl, hc⟩
  · rw [c_geq_f] at g
    have hr : r = l := by
      rcases k4 with k | k
      · omega
      · exact k
    obtain ⟨f1, f2⟩ := rt_end (by omega) k3
    rw [← f1]
    have f2' : x1.toNat - s.toNat * s.toNat = l.toNat := by rw [f1]; exact f2.symm
    rw [f2', hr, w_own_nat, w_own_nat]
    rfl
end Go.LE