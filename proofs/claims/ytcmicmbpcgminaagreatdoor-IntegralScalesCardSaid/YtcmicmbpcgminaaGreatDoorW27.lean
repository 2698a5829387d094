import Derived.Test.YtcmicmbpcgminaaGreatDoorW22
import Derived.Test.YtcmicmbpcgminaaGreatDoorLeQ
import Derived.Test.YtcmicmbpcgminaaGreatDoorLeR
set_option linter.unusedVariables false
set_option linter.unusedSimpArgs false
namespace Go.LE
open Go Go.Proofs
structure OpsT where
  isM : Int → Bool
  rest : W → Int → Bool → Int
  grows : Int → Bool → Bool → Int → Bool
  growsI : Int → Bool → Bool → Int → Bool
  cutW : W → Int → Bool → Int → Bool → W
  cutX : W → Int → Bool → Int → Bool
  right : Int → Int → W → Bool → Bool
  rng : Int → Prop
  atW : Int → Int → Bool → Int → W → Bool → W
  atX : Int → Int → Int → W → Bool → Bool
  ovW : Int → Int → Bool → BitVec 128
  isF : Int → Prop
  joinOk : Int → Int → W → Prop
  joinW : Int → Bool → Int → W → BitVec 128
  rW : Int → Int → Bool → Int → W → Bool → BitVec 128
  rX : Int → Int → Bool → Int → W → Bool → Int
  rE : Int → Int → Int → W → Bool → Int
noncomputable def ropsT : OpsT where
  isM := isM
  rest := fun s n more => restM s.toNat n more
  grows := growsM
  growsI := fun m neg odd r => isM m && growsM m neg odd r
  cutW := cutW
  cutX := cutX
  right := rightN
  rng := fun x => -1099511627776 ≤ x ∧ x ≤ 1099511627776
  atW := fun p m b e s more => if p - e ≤ 0 then wShl s (e - p) else cutW s (p - e) more m b
  atX := fun p m e s more => if p - e ≤ 0 then more else cutX s (p - e) more m
  ovW := fun f m b => bif overInf m b then fInf f b else fMax f b
  isF := fun f => 1 ≤ f ∧ f ≤ 4
  joinOk := joinOk
  joinW := joinW
  rW := rW
  rX := rX
  rE := rE
def s_mIs (S : OpsT) : List LV → R LV
  | [.int _ m] => .ok (.bool (S.isM m))
  | _ => .fail
def s_rest (S : OpsT) : List LV → R LV
  | [.wide s, .int _ n, .bool more] => .ok (.int .i64 (S.rest s n more))
  | _ => .fail
def s_grows (S : OpsT) : List LV → R LV
  | [.int _ m, .bool neg, .bool odd, .int _ r] => .ok (.bool (S.growsI m neg odd r))
  | _ => .fail
def s_grows08 (S : OpsT) : List LV → R LV
  | [.int _ m, .bool neg, .bool odd, .int _ r] => .ok (.bool (S.grows m neg odd r))
  | _ => .fail
def s_cut (S : OpsT) : List LV → R LV
  | [.wide s, .int _ n, .bool more, .int _ m, .bool neg] => .ok (.tup [.wide (S.cutW s n more m neg), .bool (S.cutX s n more m)])
  | _ => .fail
def s_pright (S : OpsT) : List LV → R LV
  | [.int _ p, .agg [.bool _, .int _ e, .wide s], .bool more] => .ok (.bool (S.right p e s more))
  | _ => .fail
def s_pat (S : OpsT) : List LV → R LV
  | [.int _ p, .int _ m, .agg [.bool b, .int _ e, .wide s], .bool more] => .req (S.rng p) (.req (S.rng e) (.ok (.tup [.wide (S.atW p m b e s more), .bool (S.atX p m e s more)])))
  | _ => .fail
def s_over (S : OpsT) : List LV → R LV
  | [.int _ f, .int _ m, .bool b] => .req (S.isF f) (.ok (.tup [.word (S.ovW f m b), .int .i64 20]))
  | _ => .fail
def s_joined (S : OpsT) : List LV → R LV
  | [.int _ f, .bool b, .int _ fld, .wide s] => .req (S.joinOk f fld s) (.ok (.word (S.joinW f b fld s)))
  | _ => .fail
def s_round (S : OpsT) : List LV → R LV
  | [.int _ f, .int _ m, .agg [.bool b, .int _ e, .wide s], .bool more] => .ok (.tup [.word (S.rW f m b e s more), .int .i64 (S.rX f m b e s more), .int .i64 (S.rE f m e s more)])
  | _ => .fail
theorem isM_rng {m : Int} (h : isM m = true) : 1 ≤ m ∧ m ≤ 5 := of_decide_eq_true h
theorem i3 {r : Int} (h1 : ¬ r < 1) (h2 : ¬ 3 < r) : r = 1 ∨ r = 2 ∨ r = 3 := by omega
theorem i5 {m : Int} (h : 1 ≤ m ∧ m ≤ 5) : m = 1 ∨ m = 2 ∨ m = 3 ∨ m = 4 ∨ m = 5 := by omega
theorem leq_dec (x y : Int) : cmpR .leq x y = decide (x ≤ y) := by
  cases h : cmpR .leq x y with
  | true => rw [c_leq_t] at h; exact (decide_eq_true h).symm
  | false => rw [c_leq_f] at h; exact (decide_eq_false (by omega)).symm
theorem p_mIs : SpecOk Tryz.prog globs 87 (mkSpec real [.int .i64] (s_mIs ropsT)) := by
  have hfns : FnsOk Tryz.prog globs [] := fnsNil
  refine spec0 hfns (by kernel_rfl) Tryz.func87 (by kernel_rfl) (by kernel_rfl) (by kernel_rfl) 4 _ _ (.bool) ?_
  clear hfns
  generalize hEE : env0 [] = EE
  intro l r hl hr
  simp only [Forms, Form] at hl
  obtain ⟨_, _, rfl, ⟨x1, rfl, x1lo, x1hi⟩, rfl⟩ := hl
  subst hEE
  generalize hK : kR (.bool) r = K
  generalize hO : real = O
  set_option maxRecDepth 100000 in cbv
  subst hO hK 
  simp only [s_mIs, R.Y] at hr
  subst hr
  try dsimp only [real, rops, ropsB, ropsC, ropsD, ropsE, ropsF, ropsG, ropsH, ropsI, ropsJ, ropsK, ropsL, ropsM, ropsN, ropsP, ropsQ, ropsT]
  unfold isM
  refine ⟨imp_f fun h => ?_, imp_t fun h => ?_⟩
  · rw [c_geq_t] at h
    simp only [kR, canon, canons, ekEq, numE, getW, getWord, allInts8, asInt, isK, kindEq, isArgB, strOf, cBig, cInts, cWords, allInts, allWords, r_ofLimbs, r_mkWord, Option.some.injEq, LV.wide.injEq, LV.word.injEq, LV.int.injEq, LV.bool.injEq, LV.str.injEq, LV.big.injEq, LV.tup.injEq, LV.agg.injEq, List.cons.injEq, and_true, true_and]
    rw [lss_dec]
    exact decide_eq_decide.2 (by omega)
  · rw [c_geq_f] at h
    rw [decide_eq_false (by omega)]
    simp only [kR, canon, canons, ekEq, numE, getW, getWord, allInts8, asInt, isK, kindEq, isArgB, strOf, cBig, cInts, cWords, allInts, allWords, r_ofLimbs, r_mkWord, Option.some.injEq, LV.wide.injEq, LV.word.injEq, LV.int.injEq, LV.bool.injEq, LV.str.injEq, LV.big.injEq, LV.tup.injEq, LV.agg.injEq, List.cons.injEq, and_true, true_and]
set_option exponentiation.threshold 600 in
theorem p_rest : SpecOk Tryz.prog globs 185 (mkSpec real [.wide, .int .i64, .bool] (s_rest ropsT)) := by
  have hfns : FnsOk Tryz.prog globs [(104, .spec (mkSpec real [.wide, .int .i64] (s_shr rops))), (83, .spec (mkSpec real [.wide, .int .i64] (s_shl rops))), (85, .spec (mkSpec real [.wide, .wide] (s_wSub rops))), (86, .spec (mkSpec real [.int .i64] (s_power rops))), (115, .spec (mkSpec real [.wide, .wide] (s_wCmp rops)))] := (fnsCons (fnSpec (p_shr)) (fnsCons (fnSpec (p_shl)) (fnsCons (fnSpec (p_wSub)) (fnsCons (fnSpec (p_power)) (fnsCons (fnSpec (p_wCmp)) fnsNil)))))
  refine spec0 hfns (by kernel_rfl) Tryz.func185 (by kernel_rfl) (by kernel_rfl) (by kernel_rfl) 4 _ _ (.int .i64) ?_
  clear hfns
  generalize hEE : env0 [(104, .spec (mkSpec real [.wide, .int .i64] (s_shr rops))), (83, .spec (mkSpec real [.wide, .int .i64] (s_shl rops))), (85, .spec (mkSpec real [.wide, .wide] (s_wSub rops))), (86, .spec (mkSpec real [.int .i64] (s_power rops))), (115, .spec (mkSpec real [.wide, .wide] (s_wCmp rops)))] = EE
  intro l r hl hr
  simp only [Forms, Form] at hl
  obtain ⟨_, _, rfl, ⟨x1, rfl⟩, _, _, rfl, ⟨x2, rfl, x2lo, x2hi⟩, _, _, rfl, ⟨x3, rfl⟩, rfl⟩ := hl
  subst hEE
  generalize hK : kR (.int .i64) r = K
  generalize hO : real = O
  generalize hS0 : rops = S0
  generalize hS1 : ropsB = S1
  generalize hS2 : ropsC = S2
  generalize hS3 : ropsD = S3
  generalize hS4 : ropsE = S4
  generalize hS5 : ropsF = S5
  generalize hS6 : ropsG = S6
  generalize hS7 : ropsH = S7
  generalize hS8 : ropsI = S8
  generalize hS9 : ropsJ = S9
  generalize hS10 : ropsK = S10
  generalize hS11 : ropsL = S11
  generalize hS12 : ropsM = S12
  generalize hS13 : ropsN = S13
  generalize hS14 : ropsP = S14
  generalize hS15 : ropsQ = S15
  generalize hS16 : ropsT = S16
  set_option maxRecDepth 100000 in cbv
  subst hO hK hS0 hS1 hS2 hS3 hS4 hS5 hS6 hS7 hS8 hS9 hS10 hS11 hS12 hS13 hS14 hS15 hS16
  simp only [s_rest, R.Y] at hr
  subst hr
  try dsimp only [real, rops, ropsB, ropsC, ropsD, ropsE, ropsF, ropsG, ropsH, ropsI, ropsJ, ropsK, ropsL, ropsM, ropsN, ropsP, ropsQ, ropsT]
  have e0 : ofLimbsR 0 0 0 0 0 0 0 0 = 0 := ofLimbs_0
  rw [e0]
  have tail : ∀ low : W, 1 ≤ x2 → x2 ≤ 512 → low.toNat = x1.toNat % 2 ^ x2.toNat → ∀ c : Int, wCmp low (wPower (x2 - 1)) = c →
      restM x1.toNat x2 x3 = if 0 < c ∨ (c = 0 ∧ x3 = true) then 3 else if c = 0 then 2 else if x3 = true ∨ low ≠ 0 then 1 else 0 := fun low h1 h2 hl c hc => by
    subst hc
    exact rest_low h1 h2 hl x3
  refine ⟨imp_f fun h => ?_, imp_t fun h => ⟨imp_f fun h2 => ?_, imp_t fun h2 => ?_⟩⟩
  · rw [c_leq_t] at h
    rw [rest_neg h]
    cases x3 <;> simp [kR, canon, isK, asInt, kindEq]
  · rw [c_leq_f] at h
    rw [c_lss_t] at h2
    have e1 : arithR .sub .i64 x2 1 = x2 - 1 := sub_i64 (by omega) (by omega)
    rw [e1]
    have hs := tail _ (by omega) (by omega) (low_part (s := x1) (n := x2) ⟨by omega, by omega⟩) _ rfl
    rw [hs]
    refine ⟨imp_f fun g => by rw [c_gtr_t] at g; omega, imp_t fun _ => ?_⟩
    generalize wCmp (x1 - wShl (wShr x1 x2) x2) (wPower (x2 - 1)) = c
    generalize x1 - wShl (wShr x1 x2) x2 = low
    simp only [gtr_dec, eql_dec]
    by_cases c1 : 0 < c
    · have c2 : c ≠ 0 := by omega
      simp [c1, c2, kR, canon, isK, asInt, kindEq]
    · by_cases c2 : c = 0 <;> by_cases c3 : low = 0#512 <;> cases x3 <;> simp [c1, c2, c3, kR, canon, isK, asInt, kindEq]
  · rw [c_lss_f] at h2
    refine ⟨imp_f fun g => ?_, imp_t fun g => ?_⟩
    · rw [c_gtr_t] at g
      rw [rest_big g]
      have hz : (x1 = 0#512) = (x1.toNat = 0) := w_zero
      by_cases c3 : x1 = 0#512
      · have c4 : x1.toNat = 0 := by rw [← hz]; exact c3
        cases x3 <;> simp [c3, kR, canon, isK, asInt, kindEq]
      · have c4 : ¬ x1.toNat = 0 := by rw [← hz]; exact c3
        cases x3 <;> simp [c3, c4, kR, canon, isK, asInt, kindEq]
    · rw [c_gtr_f] at g
      have hx : x2 = 512 := by omega
      subst hx
      have e1 : arithR .sub .i64 512 1 = (512 : Int) - 1 := sub_i64 (by omega) (by omega)
      rw [e1]
      have hs := tail x1 (by omega) (by omega) low_full.symm _ rfl
      rw [hs]
      generalize wCmp x1 (wPower (512 - 1)) = c
      simp only [gtr_dec, eql_dec]
      by_cases c1 : 0 < c
      · have c2 : c ≠ 0 := by omega
        simp [c1, c2, kR, canon, isK, asInt, kindEq]
      · by_cases c2 : c = 0 <;> by_cases c3 : x1 = 0#512 <;> cases x3 <;> simp [c1, c2, c3, kR, canon, isK, asInt, kindEq]
theorem p_grows : SpecOk Tryz.prog globs 153 (mkSpec real [.int .i64, .bool, .bool, .int .i64] (s_grows ropsT)) := by
  have hfns : FnsOk Tryz.prog globs [(87, .spec (mkSpec real [.int .i64] (s_mIs ropsT))), (178, inlF Tryz.f178), (179, inlF Tryz.f179), (180, inlF Tryz.f180), (181, inlF Tryz.f181), (182, inlF Tryz.f182)] := (fnsCons (fnSpec (p_mIs)) (fnsCons (inl_ok Tryz.func178 (by kernel_rfl) (by kernel_rfl)) (fnsCons (inl_ok Tryz.func179 (by kernel_rfl) (by kernel_rfl)) (fnsCons (inl_ok Tryz.func180 (by kernel_rfl) (by kernel_rfl)) (fnsCons (inl_ok Tryz.func181 (by kernel_rfl) (by kernel_rfl)) (fnsCons (inl_ok Tryz.func182 (by kernel_rfl) (by kernel_rfl)) fnsNil))))))
  refine spec0 hfns (by kernel_rfl) Tryz.func153 (by kernel_rfl) (by kernel_rfl) (by kernel_rfl) 4 _ _ (.bool) ?_
  clear hfns
  generalize hEE : env0 [(87, .spec (mkSpec real [.int .i64] (s_mIs ropsT))), (178, inlF Tryz.f178), (179, inlF Tryz.f179), (180, inlF Tryz.f180), (181, inlF Tryz.f181), (182, inlF Tryz.f182)] = EE
  intro l r hl hr
  simp only [Forms, Form] at hl
  obtain ⟨_, _, rfl, ⟨x1, rfl, x1lo, x1hi⟩, _, _, rfl, ⟨x2, rfl⟩, _, _, rfl, ⟨x3, rfl⟩, _, _, rfl, ⟨x4, rfl, x4lo, x4hi⟩, rfl⟩ := hl
  subst hEE
  generalize hK : kR (.bool) r = K
  generalize hO : real = O
  generalize hS0 : rops = S0
  generalize hS1 : ropsB = S1
  generalize hS2 : ropsC = S2
  generalize hS3 : ropsD = S3
  generalize hS4 : ropsE = S4
  generalize hS5 : ropsF = S5
  generalize hS6 : ropsG = S6
  generalize hS7 : ropsH = S7
  generalize hS8 : ropsI = S8
  generalize hS9 : ropsJ = S9
  generalize hS10 : ropsK = S10
  generalize hS11 : ropsL = S11
  generalize hS12 : ropsM = S12
  generalize hS13 : ropsN = S13
  generalize hS14 : ropsP = S14
  generalize hS15 : ropsQ = S15
  generalize hS16 : ropsT = S16
  set_option maxRecDepth 100000 in cbv
  subst hO hK hS0 hS1 hS2 hS3 hS4 hS5 hS6 hS7 hS8 hS9 hS10 hS11 hS12 hS13 hS14 hS15 hS16
  simp only [s_grows, R.Y] at hr
  subst hr
  try dsimp only [real, rops, ropsB, ropsC, ropsD, ropsE, ropsF, ropsG, ropsH, ropsI, ropsJ, ropsK, ropsL, ropsM, ropsN, ropsP, ropsQ, ropsT]
  cases hm : isM x1 with
  | false =>
    refine ⟨imp_f fun _ => ?_, imp_t fun h => by simp at h⟩
    simp [kR, canon, isArgB]
  | true =>
    have hm2 := i5 (isM_rng hm)
    refine ⟨imp_f fun h => by simp at h, imp_t fun _ => ?_⟩
    simp only [lss_dec, gtr_dec, eql_dec, neq_dec, Bool.true_and]
    by_cases a1 : x4 < 1
    · simp [a1, growsM, kR, canon, isArgB]
    by_cases a2 : 3 < x4
    · simp [a1, a2, growsM, kR, canon, isArgB]
    rcases i3 a1 a2 with rfl | rfl | rfl <;> rcases hm2 with rfl | rfl | rfl | rfl | rfl <;> cases x2 <;> cases x3 <;> simp [growsM, kR, canon, isArgB]
theorem p_grows08 : SpecOk Tryz.prog globs 160 (mkSpec real [.int .i64, .bool, .bool, .int .i64] (s_grows08 ropsT)) := by
  have hfns : FnsOk Tryz.prog globs [] := fnsNil
  refine spec0 hfns (by kernel_rfl) Tryz.func160 (by kernel_rfl) (by kernel_rfl) (by kernel_rfl) 4 _ _ (.bool) ?_
  clear hfns
  generalize hEE : env0 [] = EE
  intro l r hl hr
  simp only [Forms, Form] at hl
  obtain ⟨_, _, rfl, ⟨x1, rfl, x1lo, x1hi⟩, _, _, rfl, ⟨x2, rfl⟩, _, _, rfl, ⟨x3, rfl⟩, _, _, rfl, ⟨x4, rfl, x4lo, x4hi⟩, rfl⟩ := hl
  subst hEE
  generalize hK : kR (.bool) r = K
  generalize hO : real = O
  set_option maxRecDepth 100000 in cbv
  subst hO hK 
  simp only [s_grows08, R.Y] at hr
  subst hr
  try dsimp only [real, rops, ropsB, ropsC, ropsD, ropsE, ropsF, ropsG, ropsH, ropsI, ropsJ, ropsK, ropsL, ropsM, ropsN, ropsP, ropsQ, ropsT]
  simp only [lss_dec, gtr_dec, eql_dec, geq_dec]
  by_cases a1 : x4 < 1
  · simp [a1, growsM, kR, canon, isArgB]
  by_cases a2 : 3 < x4
  · simp [a1, a2, growsM, kR, canon, isArgB]
  by_cases b1 : x1 = 1
  · subst b1
    rcases i3 a1 a2 with rfl | rfl | rfl <;> cases x3 <;> simp [growsM, kR, canon, isArgB]
  by_cases b2 : x1 = 2
  · subst b2
    rcases i3 a1 a2 with rfl | rfl | rfl <;> simp [growsM, kR, canon, isArgB]
  by_cases b4 : x1 = 4
  · subst b4
    rcases i3 a1 a2 with rfl | rfl | rfl <;> cases x2 <;> simp [growsM, kR, canon, isArgB]
  by_cases b5 : x1 = 5
  · subst b5
    rcases i3 a1 a2 with rfl | rfl | rfl <;> cases x2 <;> simp [growsM, kR, canon, isArgB]
  simp [a1, a2, b1, b2, b4, b5, growsM, kR, canon, isArgB]
theorem p_cut : SpecOk Tryz.prog globs 155 (mkSpec real [.wide, .int .i64, .bool, .int .i64, .bool] (s_cut ropsT)) := by
  have hfns : FnsOk Tryz.prog globs [(87, .spec (mkSpec real [.int .i64] (s_mIs ropsT))), (185, .spec (mkSpec real [.wide, .int .i64, .bool] (s_rest ropsT))), (104, .spec (mkSpec real [.wide, .int .i64] (s_shr rops))), (127, .spec (mkSpec real [.wide, .int .i64] (s_wBit rops))), (153, .spec (mkSpec real [.int .i64, .bool, .bool, .int .i64] (s_grows ropsT))), (132, .spec (mkSpec real [.ints .u64] (s_of rops))), (124, .spec (mkSpec real [.wide, .wide] (s_wAdd rops)))] := (fnsCons (fnSpec (p_mIs)) (fnsCons (fnSpec (p_rest)) (fnsCons (fnSpec (p_shr)) (fnsCons (fnSpec (p_wBit)) (fnsCons (fnSpec (p_grows)) (fnsCons (fnSpec (p_of)) (fnsCons (fnSpec (p_wAdd)) fnsNil)))))))
  refine spec0 hfns (by kernel_rfl) Tryz.func155 (by kernel_rfl) (by kernel_rfl) (by kernel_rfl) 4 _ _ (.tup [.wide, .bool]) ?_
  clear hfns
  generalize hEE : env0 [(87, .spec (mkSpec real [.int .i64] (s_mIs ropsT))), (185, .spec (mkSpec real [.wide, .int .i64, .bool] (s_rest ropsT))), (104, .spec (mkSpec real [.wide, .int .i64] (s_shr rops))), (127, .spec (mkSpec real [.wide, .int .i64] (s_wBit rops))), (153, .spec (mkSpec real [.int .i64, .bool, .bool, .int .i64] (s_grows ropsT))), (132, .spec (mkSpec real [.ints .u64] (s_of rops))), (124, .spec (mkSpec real [.wide, .wide] (s_wAdd rops)))] = EE
  intro l r hl hr
  simp only [Forms, Form] at hl
  obtain ⟨_, _, rfl, ⟨x1, rfl⟩, _, _, rfl, ⟨x2, rfl, x2lo, x2hi⟩, _, _, rfl, ⟨x3, rfl⟩, _, _, rfl, ⟨x4, rfl, x4lo, x4hi⟩, _, _, rfl, ⟨x5, rfl⟩, rfl⟩ := hl
  subst hEE
  generalize hK : kR (.tup [.wide, .bool]) r = K
  generalize hO : real = O
  generalize hS0 : rops = S0
  generalize hS1 : ropsB = S1
  generalize hS2 : ropsC = S2
  generalize hS3 : ropsD = S3
  generalize hS4 : ropsE = S4
  generalize hS5 : ropsF = S5
  generalize hS6 : ropsG = S6
  generalize hS7 : ropsH = S7
  generalize hS8 : ropsI = S8
  generalize hS9 : ropsJ = S9
  generalize hS10 : ropsK = S10
  generalize hS11 : ropsL = S11
  generalize hS12 : ropsM = S12
  generalize hS13 : ropsN = S13
  generalize hS14 : ropsP = S14
  generalize hS15 : ropsQ = S15
  generalize hS16 : ropsT = S16
  set_option maxRecDepth 100000 in cbv
  subst hO hK hS0 hS1 hS2 hS3 hS4 hS5 hS6 hS7 hS8 hS9 hS10 hS11 hS12 hS13 hS14 hS15 hS16
  simp only [s_cut, R.Y] at hr
  subst hr
  try dsimp only [real, rops, ropsB, ropsC, ropsD, ropsE, ropsF, ropsG, ropsH, ropsI, ropsJ, ropsK, ropsL, ropsM, ropsN, ropsP, ropsQ, ropsT]
  unfold cutW cutX
  rw [neq_dec]
  cases hm : isM x4 with
  | false =>
    refine ⟨imp_f fun _ => ?_, imp_t fun h => by simp at h⟩
    simp only [kR, canon, canons, ekEq, numE, getW, getWord, allInts8, asInt, isK, kindEq, isArgB, strOf, cBig, cInts, cWords, allInts, allWords, r_ofLimbs, r_mkWord, Option.some.injEq, LV.wide.injEq, LV.word.injEq, LV.int.injEq, LV.bool.injEq, LV.str.injEq, LV.big.injEq, LV.tup.injEq, LV.agg.injEq, List.cons.injEq, and_true, true_and]
    exact ⟨ofLimbs_0, rfl⟩
  | true =>
    refine ⟨imp_f fun h => by simp at h, imp_t fun _ => ⟨imp_f fun g => ?_, imp_t fun g => ?_⟩⟩
    · rw [Bool.true_and] at g
      rw [g]
      simp only [kR, canon, canons, ekEq, numE, getW, getWord, allInts8, asInt, isK, kindEq, isArgB, strOf, cBig, cInts, cWords, allInts, allWords, r_ofLimbs, r_mkWord, Option.some.injEq, LV.wide.injEq, LV.word.injEq, LV.int.injEq, LV.bool.injEq, LV.str.injEq, LV.big.injEq, LV.tup.injEq, LV.agg.injEq, List.cons.injEq, and_true, true_and]
      refine ⟨rfl, ?_⟩
      simp
    · rw [Bool.true_and] at g
      rw [g]
      simp only [kR, canon, canons, ekEq, numE, getW, getWord, allInts8, asInt, isK, kindEq, isArgB, strOf, cBig, cInts, cWords, allInts, allWords, r_ofLimbs, r_mkWord, Option.some.injEq, LV.wide.injEq, LV.word.injEq, LV.int.injEq, LV.bool.injEq, LV.str.injEq, LV.big.injEq, LV.tup.injEq, LV.agg.injEq, List.cons.injEq, and_true, true_and]
      refine ⟨rfl, ?_⟩
      simp
theorem p_pright : SpecOk Tryz.prog globs 97 (mkSpec real [.int .i64, .st [.bool, .int .i64, .wide], .bool] (s_pright ropsT)) := by
  have hfns : FnsOk Tryz.prog globs [(99, .spec (mkSpec real [.wide] (s_wLen rops))), (80, .spec (mkSpec real [.st [.bool, .int .i64, .wide]] (s_right ropsK)))] := (fnsCons (fnSpec (p_wLen)) (fnsCons (fnSpec (p_right)) fnsNil))
  refine spec0 hfns (by kernel_rfl) Tryz.func97 (by kernel_rfl) (by kernel_rfl) (by kernel_rfl) 4 _ _ (.bool) ?_
  clear hfns
  generalize hEE : env0 [(99, .spec (mkSpec real [.wide] (s_wLen rops))), (80, .spec (mkSpec real [.st [.bool, .int .i64, .wide]] (s_right ropsK)))] = EE
  intro l r hl hr
  simp only [Forms, Form] at hl
  obtain ⟨_, _, rfl, ⟨x1, rfl, x1lo, x1hi⟩, _, _, rfl, ⟨_, rfl, ⟨_, _, rfl, ⟨x2_1, rfl⟩, _, _, rfl, ⟨x2_2, rfl, x2_2lo, x2_2hi⟩, _, _, rfl, ⟨x2_3, rfl⟩, rfl⟩⟩, _, _, rfl, ⟨x3, rfl⟩, rfl⟩ := hl
  subst hEE
  generalize hK : kR (.bool) r = K
  generalize hO : real = O
  generalize hS0 : rops = S0
  generalize hS1 : ropsB = S1
  generalize hS2 : ropsC = S2
  generalize hS3 : ropsD = S3
  generalize hS4 : ropsE = S4
  generalize hS5 : ropsF = S5
  generalize hS6 : ropsG = S6
  generalize hS7 : ropsH = S7
  generalize hS8 : ropsI = S8
  generalize hS9 : ropsJ = S9
  generalize hS10 : ropsK = S10
  generalize hS11 : ropsL = S11
  generalize hS12 : ropsM = S12
  generalize hS13 : ropsN = S13
  generalize hS14 : ropsP = S14
  generalize hS15 : ropsQ = S15
  generalize hS16 : ropsT = S16
  set_option maxRecDepth 100000 in cbv
  subst hO hK hS0 hS1 hS2 hS3 hS4 hS5 hS6 hS7 hS8 hS9 hS10 hS11 hS12 hS13 hS14 hS15 hS16
  simp only [s_pright, R.Y] at hr
  subst hr
  try dsimp only [real, rops, ropsB, ropsC, ropsD, ropsE, ropsF, ropsG, ropsH, ropsI, ropsJ, ropsK, ropsL, ropsM, ropsN, ropsP, ropsQ, ropsT]
  unfold rightN rgtE
  simp only [geq_dec, leq_dec, gtr_dec]
  by_cases a1 : 1 ≤ x1 <;> by_cases a2 : x1 ≤ 500 <;> simp [a1, a2, kR, canon, isArgB]
  by_cases a3 : -1048576 ≤ x2_2 <;> by_cases a5 : x2_2 ≤ 1048576 <;> by_cases a4 : wLen x2_3 ≤ 511 <;> by_cases a6 : x1 < wLen x2_3 <;> cases x3 <;> simp [a3, a4, a5, a6] <;> omega
theorem p_pat : SpecOk Tryz.prog globs 101 (mkSpec real [.int .i64, .int .i64, .st [.bool, .int .i64, .wide], .bool] (s_pat ropsT)) := by
  have hfns : FnsOk Tryz.prog globs [(83, .spec (mkSpec real [.wide, .int .i64] (s_shl rops))), (155, .spec (mkSpec real [.wide, .int .i64, .bool, .int .i64, .bool] (s_cut ropsT)))] := (fnsCons (fnSpec (p_shl)) (fnsCons (fnSpec (p_cut)) fnsNil))
  refine spec0 hfns (by kernel_rfl) Tryz.func101 (by kernel_rfl) (by kernel_rfl) (by kernel_rfl) 4 _ _ (.tup [.wide, .bool]) ?_
  clear hfns
  generalize hEE : env0 [(83, .spec (mkSpec real [.wide, .int .i64] (s_shl rops))), (155, .spec (mkSpec real [.wide, .int .i64, .bool, .int .i64, .bool] (s_cut ropsT)))] = EE
  intro l r hl hr
  simp only [Forms, Form] at hl
  obtain ⟨_, _, rfl, ⟨x1, rfl, x1lo, x1hi⟩, _, _, rfl, ⟨x2, rfl, x2lo, x2hi⟩, _, _, rfl, ⟨_, rfl, ⟨_, _, rfl, ⟨x3_1, rfl⟩, _, _, rfl, ⟨x3_2, rfl, x3_2lo, x3_2hi⟩, _, _, rfl, ⟨x3_3, rfl⟩, rfl⟩⟩, _, _, rfl, ⟨x4, rfl⟩, rfl⟩ := hl
  subst hEE
  generalize hK : kR (.tup [.wide, .bool]) r = K
  generalize hO : real = O
  generalize hS0 : rops = S0
  generalize hS1 : ropsB = S1
  generalize hS2 : ropsC = S2
  generalize hS3 : ropsD = S3
  generalize hS4 : ropsE = S4
  generalize hS5 : ropsF = S5
  generalize hS6 : ropsG = S6
  generalize hS7 : ropsH = S7
  generalize hS8 : ropsI = S8
  generalize hS9 : ropsJ = S9
  generalize hS10 : ropsK = S10
  generalize hS11 : ropsL = S11
  generalize hS12 : ropsM = S12
  generalize hS13 : ropsN = S13
  generalize hS14 : ropsP = S14
  generalize hS15 : ropsQ = S15
  generalize hS16 : ropsT = S16
  set_option maxRecDepth 100000 in cbv
  subst hO hK hS0 hS1 hS2 hS3 hS4 hS5 hS6 hS7 hS8 hS9 hS10 hS11 hS12 hS13 hS14 hS15 hS16
  simp only [s_pat, R.Y] at hr
  try dsimp only [real, rops, ropsB, ropsC, ropsD, ropsE, ropsF, ropsG, ropsH, ropsI, ropsJ, ropsK, ropsL, ropsM, ropsN, ropsP, ropsQ, ropsT]
  obtain ⟨hp, he, hr⟩ := hr
  subst hr
  dsimp only [real, ropsT, rops]
  replace hp : -1099511627776 ≤ x1 ∧ x1 ≤ 1099511627776 := hp
  replace he : -1099511627776 ≤ x3_2 ∧ x3_2 ≤ 1099511627776 := he
  have e1 : arithR .sub .i64 x1 x3_2 = x1 - x3_2 := sub_i64 (by omega) (by omega)
  rw [e1, leq_dec, neg_i64 (by omega)]
  refine ⟨imp_f fun h => ?_, imp_t fun h => ?_⟩
  · rw [decide_eq_true_eq] at h
    rw [if_pos h, if_pos h, show -(x1 - x3_2) = x3_2 - x1 by omega]
    simp only [kR, canon, canons, ekEq, numE, getW, getWord, allInts8, asInt, isK, kindEq, isArgB, strOf, cBig, cInts, cWords, allInts, allWords, r_ofLimbs, r_mkWord, Option.some.injEq, LV.wide.injEq, LV.word.injEq, LV.int.injEq, LV.bool.injEq, LV.str.injEq, LV.big.injEq, LV.tup.injEq, LV.agg.injEq, List.cons.injEq, and_true, true_and]
  · rw [decide_eq_false_iff_not] at h
    rw [if_neg h, if_neg h]
    simp only [kR, canon, canons, ekEq, numE, getW, getWord, allInts8, asInt, isK, kindEq, isArgB, strOf, cBig, cInts, cWords, allInts, allWords, r_ofLimbs, r_mkWord, Option.some.injEq, LV.wide.injEq, LV.word.injEq, LV.int.injEq, LV.bool.injEq, LV.str.injEq, LV.big.injEq, LV.tup.injEq, LV.agg.injEq, List.cons.injEq, and_true, true_and]
theorem p_over : SpecOk Tryz.prog globs 100 (mkSpec real [.int .i64, .int .i64, .bool] (s_over ropsT)) := by
  have hfns : FnsOk Tryz.prog globs [(153, .spec (mkSpec real [.int .i64, .bool, .bool, .int .i64] (s_grows ropsT))), (93, .spec (mkSpec real [.int .i64, .bool] (s_infW rops))), (154, .spec (mkSpec real [.int .i64, .bool] (s_maxW rops)))] := (fnsCons (fnSpec (p_grows)) (fnsCons (fnSpec (p_infW)) (fnsCons (fnSpec (p_maxW)) fnsNil)))
  refine spec0 hfns (by kernel_rfl) Tryz.func100 (by kernel_rfl) (by kernel_rfl) (by kernel_rfl) 4 _ _ (.tup [.word, .int .i64]) ?_
  clear hfns
  generalize hEE : env0 [(153, .spec (mkSpec real [.int .i64, .bool, .bool, .int .i64] (s_grows ropsT))), (93, .spec (mkSpec real [.int .i64, .bool] (s_infW rops))), (154, .spec (mkSpec real [.int .i64, .bool] (s_maxW rops)))] = EE
  intro l r hl hr
  simp only [Forms, Form] at hl
  obtain ⟨_, _, rfl, ⟨x1, rfl, x1lo, x1hi⟩, _, _, rfl, ⟨x2, rfl, x2lo, x2hi⟩, _, _, rfl, ⟨x3, rfl⟩, rfl⟩ := hl
  subst hEE
  generalize hK : kR (.tup [.word, .int .i64]) r = K
  generalize hO : real = O
  generalize hS0 : rops = S0
  generalize hS1 : ropsB = S1
  generalize hS2 : ropsC = S2
  generalize hS3 : ropsD = S3
  generalize hS4 : ropsE = S4
  generalize hS5 : ropsF = S5
  generalize hS6 : ropsG = S6
  generalize hS7 : ropsH = S7
  generalize hS8 : ropsI = S8
  generalize hS9 : ropsJ = S9
  generalize hS10 : ropsK = S10
  generalize hS11 : ropsL = S11
  generalize hS12 : ropsM = S12
  generalize hS13 : ropsN = S13
  generalize hS14 : ropsP = S14
  generalize hS15 : ropsQ = S15
  generalize hS16 : ropsT = S16
  set_option maxRecDepth 100000 in cbv
  subst hO hK hS0 hS1 hS2 hS3 hS4 hS5 hS6 hS7 hS8 hS9 hS10 hS11 hS12 hS13 hS14 hS15 hS16
  simp only [s_over, R.Y] at hr
  try dsimp only [real, rops, ropsB, ropsC, ropsD, ropsE, ropsF, ropsG, ropsH, ropsI, ropsJ, ropsK, ropsL, ropsM, ropsN, ropsP, ropsQ, ropsT]
  obtain ⟨hf, hr⟩ := hr
  subst hr
  dsimp only [real, ropsT, rops]
  simp only [eql_dec]
  have hg : (isM x2 && growsM x2 x3 false 3) = growsM x2 x3 false 3 := by
    cases hm : isM x2 with
    | true => rfl
    | false =>
      have hm : decide (1 ≤ x2 ∧ x2 ≤ 5) = false := hm
      rw [decide_eq_false_iff_not] at hm
      unfold growsM
      rw [if_neg (by omega), if_neg (by omega), if_neg (by omega), if_neg (by omega), if_neg (by omega)]
      rfl
  rw [hg]
  unfold overInf
  by_cases b1 : x2 = 1
  · simp [b1, kR, canon, canons, isK, asInt, kindEq, getWord]
  by_cases b2 : x2 = 2
  · simp [b1, b2, kR, canon, canons, isK, asInt, kindEq, getWord]
  cases growsM x2 x3 false 3 <;> simp [b1, b2, kR, canon, canons, isK, asInt, kindEq, getWord]
theorem p_joined : SpecOk Tryz.prog globs 102 (mkSpec real [.int .i64, .bool, .int .i64, .wide] (s_joined ropsT)) := by
  have hfns : FnsOk Tryz.prog globs [(79, .spec (mkSpec real [.int .i64] (s_fmtOf rops))), (104, .spec (mkSpec real [.wide, .int .i64] (s_shr rops))), (83, .spec (mkSpec real [.wide, .int .i64] (s_shl rops))), (85, .spec (mkSpec real [.wide, .wide] (s_wSub rops))), (84, .spec (mkSpec real [.int .i64, .bool, .int .i64, .wide] (s_make ropsD)))] := (fnsCons (fnSpec (p_fmtOf)) (fnsCons (fnSpec (p_shr)) (fnsCons (fnSpec (p_shl)) (fnsCons (fnSpec (p_wSub)) (fnsCons (fnSpec (p_make)) fnsNil)))))
  refine spec0 hfns (by kernel_rfl) Tryz.func102 (by kernel_rfl) (by kernel_rfl) (by kernel_rfl) 4 _ _ (.word) ?_
  clear hfns
  generalize hEE : env0 [(79, .spec (mkSpec real [.int .i64] (s_fmtOf rops))), (104, .spec (mkSpec real [.wide, .int .i64] (s_shr rops))), (83, .spec (mkSpec real [.wide, .int .i64] (s_shl rops))), (85, .spec (mkSpec real [.wide, .wide] (s_wSub rops))), (84, .spec (mkSpec real [.int .i64, .bool, .int .i64, .wide] (s_make ropsD)))] = EE
  intro l r hl hr
  simp only [Forms, Form] at hl
  obtain ⟨_, _, rfl, ⟨x1, rfl, x1lo, x1hi⟩, _, _, rfl, ⟨x2, rfl⟩, _, _, rfl, ⟨x3, rfl, x3lo, x3hi⟩, _, _, rfl, ⟨x4, rfl⟩, rfl⟩ := hl
  subst hEE
  generalize hK : kR (.word) r = K
  generalize hO : real = O
  generalize hS0 : rops = S0
  generalize hS1 : ropsB = S1
  generalize hS2 : ropsC = S2
  generalize hS3 : ropsD = S3
  generalize hS4 : ropsE = S4
  generalize hS5 : ropsF = S5
  generalize hS6 : ropsG = S6
  generalize hS7 : ropsH = S7
  generalize hS8 : ropsI = S8
  generalize hS9 : ropsJ = S9
  generalize hS10 : ropsK = S10
  generalize hS11 : ropsL = S11
  generalize hS12 : ropsM = S12
  generalize hS13 : ropsN = S13
  generalize hS14 : ropsP = S14
  generalize hS15 : ropsQ = S15
  generalize hS16 : ropsT = S16
  set_option maxRecDepth 100000 in cbv
  subst hO hK hS0 hS1 hS2 hS3 hS4 hS5 hS6 hS7 hS8 hS9 hS10 hS11 hS12 hS13 hS14 hS15 hS16
  simp only [s_joined, R.Y] at hr
  try dsimp only [real, rops, ropsB, ropsC, ropsD, ropsE, ropsF, ropsG, ropsH, ropsI, ropsJ, ropsK, ropsL, ropsM, ropsN, ropsP, ropsQ, ropsT]
  obtain ⟨hj, hr⟩ := hr
  subst hr
  dsimp only [real, ropsT, rops, ropsD]
  have hj : joinOk x1 x3 x4 := hj
  obtain ⟨hf, h0, h1⟩ := id hj
  obtain ⟨j1, j2, j3, j4⟩ := join_leaf hj x2
  have he := e_rng x1 hf
  have hl := (lr (wShr x4 (fPrec x1 - 1)) 0)
  rw [(sub_prec hf).1, j1, wrap_i64_of (by omega) (by omega), add_i64 (by omega) (by omega), j4]
  simp only [kR, canon, canons, ekEq, numE, getW, getWord, allInts8, asInt, isK, kindEq, isArgB, strOf, cBig, cInts, cWords, allInts, allWords, r_ofLimbs, r_mkWord, Option.some.injEq, LV.wide.injEq, LV.word.injEq, LV.int.injEq, LV.bool.injEq, LV.str.injEq, LV.big.injEq, LV.tup.injEq, LV.agg.injEq, List.cons.injEq, and_true, true_and]
end Go.LE