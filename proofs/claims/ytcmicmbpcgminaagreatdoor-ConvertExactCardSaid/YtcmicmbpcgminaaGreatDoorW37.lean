import Derived.Test.YtcmicmbpcgminaaGreatDoorW31
import Derived.Test.YtcmicmbpcgminaaGreatDoorLeT
set_option linter.unusedVariables false
set_option linter.unusedSimpArgs false
namespace Go.LE
open Go Go.Proofs
def cexB (f t : Int) (w : BitVec 128) : Bool := wFin f w && exOk t (vExp f w) (vSig f w)
def narI (f : Int) (w : BitVec 128) : Int := bif cexB f 1 w then 1 else bif cexB f 2 w then 2 else bif cexB f 3 w then 3 else bif cexB f 4 w then 4 else 0
def narF (f : Int) (w : BitVec 128) (p : Int) : Int :=
  if p ≤ 1 then narI f w
  else if p ≤ 2 then (bif cexB f 2 w then 2 else bif cexB f 3 w then 3 else bif cexB f 4 w then 4 else 0)
  else if p ≤ 3 then (bif cexB f 3 w then 3 else bif cexB f 4 w then 4 else 0)
  else if p ≤ 4 then (bif cexB f 4 w then 4 else 0)
  else 0
theorem nar_hit {f p : Int} {w : BitVec 128} (h1 : 1 ≤ p) (h : p ≤ 4) (g : cexB f p w = true) : narF f w p = p := by
  obtain rfl | rfl | rfl | rfl : p = 1 ∨ p = 2 ∨ p = 3 ∨ p = 4 := by omega
  all_goals (unfold narF; simp [narI, g])
theorem nar_miss {f p : Int} {w : BitVec 128} (h1 : 1 ≤ p) (h : p ≤ 4) (g : cexB f p w = false) : narF f w p = narF f w (p + 1) := by
  obtain rfl | rfl | rfl | rfl : p = 1 ∨ p = 2 ∨ p = 3 ∨ p = 4 := by omega
  all_goals (unfold narF; simp [narI, g])
theorem nar_end {f : Int} {w : BitVec 128} : narF f w 5 = 0 := by unfold narF; simp
theorem nar_no {f : Int} {w : BitVec 128} (h : wFin f w = false) : (∀ t, cexB f t w = false) ∧ narI f w = 0 := by
  have hc : ∀ t, cexB f t w = false := fun t => by unfold cexB; rw [h]; rfl
  exact ⟨hc, by unfold narI; simp [hc]⟩
structure OpsEx where
  cex : Int → Int → BitVec 128 → Bool
  nar : Int → BitVec 128 → Int
  isF : Int → Prop
  rgt : Int → Prop
  exOk : Int → Int → W → Bool
noncomputable def ropsEx : OpsEx where
  cex := cexB
  nar := narI
  isF := fun f => 1 ≤ f ∧ f ≤ 4
  rgt := fun e => rgtE e = true
  exOk := exOk
def s_exact29 (S : OpsEx) : List LV → R LV
  | [.int _ f, .agg [.bool _, .int _ e, .wide s]] => .req (S.isF f) (.req (S.rgt e) (.ok (.bool (S.exOk f e s))))
  | _ => .fail
def s_cExact (S : OpsEx) : List LV → R LV
  | [.int _ f, .int _ t, .word w] => .ok (.bool (S.cex f t w))
  | _ => .fail
def s_narrow (S : OpsEx) : List LV → R LV
  | [.int _ f, .word w] => .ok (.int .i64 (S.nar f w))
  | _ => .fail
def s_ConvertExact (_ : OpsEx) : List LV → R LV := fun _ => .ok (.bool true)
theorem p_exact29 : SpecOk Tryz.prog globs 14 (mkSpec real [.int .i64, .st [.bool, .int .i64, .wide]] (s_exact29 ropsEx)) := by
  have hfns : FnsOk Tryz.prog globs [(48, .spec (mkSpec real [.int .i64, .st [.bool, .int .i64, .wide]] (s_exact07 ropsP)))] := (fnsCons (fnSpec (p_exact07)) fnsNil)
  refine spec0 hfns (by kernel_rfl) Tryz.func14 (by kernel_rfl) (by kernel_rfl) (by kernel_rfl) 4 _ _ (.bool) ?_
  clear hfns
  generalize hEE : env0 [(48, .spec (mkSpec real [.int .i64, .st [.bool, .int .i64, .wide]] (s_exact07 ropsP)))] = EE
  intro l r hl hr
  simp only [Forms, Form] at hl
  obtain ⟨_, _, rfl, ⟨x1, rfl, x1lo, x1hi⟩, _, _, rfl, ⟨_, rfl, ⟨_, _, rfl, ⟨x2_1, rfl⟩, _, _, rfl, ⟨x2_2, rfl, x2_2lo, x2_2hi⟩, _, _, rfl, ⟨x2_3, rfl⟩, rfl⟩⟩, rfl⟩ := hl
  subst hEE
  generalize hK : kR (.bool) r = K
  generalize hO : real = O
  generalize hS0 : rops = S0
  generalize hS1 : ropsB = S1
  generalize hS2 : ropsC = S2
  generalize hS3 : ropsD = S3
  generalize hS4 : ropsE = S4
  generalize hS5 : ropsF = S5
  generalize hS6 : ropsG = S6
  generalize hS7 : ropsH = S7
  generalize hS8 : ropsI = S8
  generalize hS9 : ropsJ = S9
  generalize hS10 : ropsK = S10
  generalize hS11 : ropsL = S11
  generalize hS12 : ropsM = S12
  generalize hS13 : ropsN = S13
  generalize hS14 : ropsP = S14
  generalize hS15 : ropsQ = S15
  generalize hS16 : ropsT = S16
  generalize hS17 : ropsU = S17
  generalize hS18 : ropsV = S18
  generalize hS19 : ropsW = S19
  generalize hS20 : ropsEx = S20
  set_option maxRecDepth 100000 in cbv
  subst hO hK hS0 hS1 hS2 hS3 hS4 hS5 hS6 hS7 hS8 hS9 hS10 hS11 hS12 hS13 hS14 hS15 hS16 hS17 hS18 hS19 hS20
  simp only [s_exact29, R.Y] at hr
  try dsimp only [real, rops, ropsB, ropsC, ropsD, ropsE, ropsF, ropsG, ropsH, ropsI, ropsJ, ropsK, ropsL, ropsM, ropsN, ropsP, ropsQ, ropsT, ropsU, ropsV, ropsW, ropsEx]
  obtain ⟨hf, hg, hr⟩ := hr
  subst hr
  dsimp only [ropsEx]
  refine ⟨hf, hg, ?_⟩
  simp only [kR, canon, canons, getW, getWord, allInts8, asInt, isK, kindEq, isArgB, strOf, cBig, cInts, cWords, allInts, allWords, r_ofLimbs, r_mkWord, Option.some.injEq, LV.wide.injEq, LV.word.injEq, LV.int.injEq, LV.bool.injEq, LV.str.injEq, LV.big.injEq, LV.tup.injEq, LV.agg.injEq, List.cons.injEq, and_true, true_and]
theorem p_cExact : SpecOk Tryz.prog globs 10 (mkSpec real [.int .i64, .int .i64, .word] (s_cExact ropsEx)) := by
  have hfns : FnsOk Tryz.prog globs [(44, .spec (mkSpec real [.int .i64, .word] (s_value ropsL))), (45, .spec (mkSpec real [.int .i64, .st [.bool, .int .i64, .wide]] (s_exact ropsP)))] := (fnsCons (fnSpec (p_value)) (fnsCons (fnSpec (p_exact)) fnsNil))
  refine spec0 hfns (by kernel_rfl) Tryz.func10 (by kernel_rfl) (by kernel_rfl) (by kernel_rfl) 4 _ _ (.bool) ?_
  clear hfns
  generalize hEE : env0 [(44, .spec (mkSpec real [.int .i64, .word] (s_value ropsL))), (45, .spec (mkSpec real [.int .i64, .st [.bool, .int .i64, .wide]] (s_exact ropsP)))] = EE
  intro l r hl hr
  simp only [Forms, Form] at hl
  obtain ⟨_, _, rfl, ⟨x1, rfl, x1lo, x1hi⟩, _, _, rfl, ⟨x2, rfl, x2lo, x2hi⟩, _, _, rfl, ⟨x3, rfl⟩, rfl⟩ := hl
  subst hEE
  generalize hK : kR (.bool) r = K
  generalize hO : real = O
  generalize hS0 : rops = S0
  generalize hS1 : ropsB = S1
  generalize hS2 : ropsC = S2
  generalize hS3 : ropsD = S3
  generalize hS4 : ropsE = S4
  generalize hS5 : ropsF = S5
  generalize hS6 : ropsG = S6
  generalize hS7 : ropsH = S7
  generalize hS8 : ropsI = S8
  generalize hS9 : ropsJ = S9
  generalize hS10 : ropsK = S10
  generalize hS11 : ropsL = S11
  generalize hS12 : ropsM = S12
  generalize hS13 : ropsN = S13
  generalize hS14 : ropsP = S14
  generalize hS15 : ropsQ = S15
  generalize hS16 : ropsT = S16
  generalize hS17 : ropsU = S17
  generalize hS18 : ropsV = S18
  generalize hS19 : ropsW = S19
  generalize hS20 : ropsEx = S20
  set_option maxRecDepth 100000 in cbv
  subst hO hK hS0 hS1 hS2 hS3 hS4 hS5 hS6 hS7 hS8 hS9 hS10 hS11 hS12 hS13 hS14 hS15 hS16 hS17 hS18 hS19 hS20
  simp only [s_cExact, R.Y] at hr
  subst hr
  try dsimp only [real, rops, ropsB, ropsC, ropsD, ropsE, ropsF, ropsG, ropsH, ropsI, ropsJ, ropsK, ropsL, ropsM, ropsN, ropsP, ropsQ, ropsT, ropsU, ropsV, ropsW, ropsEx]
  unfold cexB
  cases hfin : wFin x1 x3 with
  | false =>
    refine ⟨imp_f fun h => (by cases h), imp_t fun _ => ?_⟩
    simp only [kR, canon, canons, getW, getWord, allInts8, asInt, isK, kindEq, isArgB, strOf, cBig, cInts, cWords, allInts, allWords, r_ofLimbs, r_mkWord, Option.some.injEq, LV.wide.injEq, LV.word.injEq, LV.int.injEq, LV.bool.injEq, LV.str.injEq, LV.big.injEq, LV.tup.injEq, LV.agg.injEq, List.cons.injEq, and_true, true_and]
    rfl
  | true =>
    refine ⟨imp_f fun _ => ?_, imp_t fun h => (by cases h)⟩
    simp only [kR, canon, canons, getW, getWord, allInts8, asInt, isK, kindEq, isArgB, strOf, cBig, cInts, cWords, allInts, allWords, r_ofLimbs, r_mkWord, Option.some.injEq, LV.wide.injEq, LV.word.injEq, LV.int.injEq, LV.bool.injEq, LV.str.injEq, LV.big.injEq, LV.tup.injEq, LV.agg.injEq, List.cons.injEq, and_true, true_and]
    rfl
theorem p_narrow : SpecOk Tryz.prog globs 11 (mkSpec real [.int .i64, .word] (s_narrow ropsEx)) := by
  have hfns : FnsOk Tryz.prog globs [(10, .spec (mkSpec real [.int .i64, .int .i64, .word] (s_cExact ropsEx)))] := (fnsCons (fnSpec (p_cExact)) fnsNil)
  refine specL (fun _ => [0,3,5]) hfns (by kernel_rfl) Tryz.func11 (by kernel_rfl) (by kernel_rfl) (by kernel_rfl) 4 _ _ (.int .i64) ?_
  clear hfns
  generalize hEE : envL (fun _ => [0,3,5]) [(10, .spec (mkSpec real [.int .i64, .int .i64, .word] (s_cExact ropsEx)))] = EE
  intro l r hl hr
  simp only [Forms, Form] at hl
  obtain ⟨_, _, rfl, ⟨x1, rfl, x1lo, x1hi⟩, _, _, rfl, ⟨x2, rfl⟩, rfl⟩ := hl
  subst hEE
  generalize hK : kR (.int .i64) r = K
  generalize hO : real = O
  generalize hS0 : rops = S0
  generalize hS1 : ropsB = S1
  generalize hS2 : ropsC = S2
  generalize hS3 : ropsD = S3
  generalize hS4 : ropsE = S4
  generalize hS5 : ropsF = S5
  generalize hS6 : ropsG = S6
  generalize hS7 : ropsH = S7
  generalize hS8 : ropsI = S8
  generalize hS9 : ropsJ = S9
  generalize hS10 : ropsK = S10
  generalize hS11 : ropsL = S11
  generalize hS12 : ropsM = S12
  generalize hS13 : ropsN = S13
  generalize hS14 : ropsP = S14
  generalize hS15 : ropsQ = S15
  generalize hS16 : ropsT = S16
  generalize hS17 : ropsU = S17
  generalize hS18 : ropsV = S18
  generalize hS19 : ropsW = S19
  generalize hS20 : ropsEx = S20
  set_option maxRecDepth 100000 in cbv
  have hr : r = _ := hr.symm
  subst hO hK hS0 hS1 hS2 hS3 hS4 hS5 hS6 hS7 hS8 hS9 hS10 hS11 hS12 hS13 hS14 hS15 hS16 hS17 hS18 hS19 hS20
  subst hr

  refine loop_rule (α := Int) (fun p => ⟨[.int .i64 x1, .undef, .undef, .ptr 0 0, .undef, .int .i64 p, .undef, .undef, .undef, .undef, .undef, .undef, .undef, .undef, .undef], ofL [some (wordT, .word x2), none, none], 3⟩)
    (fun m p => 1 ≤ p ∧ p ≤ 5 ∧ narI x1 x2 = narF x1 x2 p ∧ 5 - p ≤ ((m : Nat) : Int)) ?_ 4 1 ⟨by decide, by decide, rfl, by decide⟩
  rintro m p X ⟨h1, h2, h3, h4⟩ hX
  (generalize hK : kR _ _ = K; generalize hO : real = O; generalize hS0 : rops = S0; generalize hS1 : ropsB = S1; generalize hS2 : ropsC = S2; generalize hS3 : ropsD = S3; generalize hS4 : ropsE = S4; generalize hS5 : ropsF = S5; generalize hS6 : ropsG = S6; generalize hS7 : ropsH = S7; generalize hS8 : ropsI = S8; generalize hS9 : ropsJ = S9; generalize hS10 : ropsK = S10; generalize hS11 : ropsL = S11; generalize hS12 : ropsM = S12; generalize hS13 : ropsN = S13; generalize hS14 : ropsP = S14; generalize hS15 : ropsQ = S15; generalize hS16 : ropsT = S16; generalize hS17 : ropsU = S17; generalize hS18 : ropsV = S18; generalize hS19 : ropsW = S19; generalize hS20 : ropsEx = S20; set_option maxRecDepth 100000 in cbv; subst hO hK hS0 hS1 hS2 hS3 hS4 hS5 hS6 hS7 hS8 hS9 hS10 hS11 hS12 hS13 hS14 hS15 hS16 hS17 hS18 hS19 hS20; dsimp only [real, rops, ropsB, ropsC, ropsD, ropsE, ropsF, ropsG, ropsH, ropsI, ropsJ, ropsK, ropsL, ropsM, ropsN, ropsP, ropsQ, ropsT, ropsU, ropsV, ropsW, ropsEx])
  have h5 : narI x1 x2 = narF x1 x2 p := h3
  have h6 : 5 - p ≤ ((m : Nat) : Int) := h4
  clear h3 h4
  replace h1 : 1 ≤ p := h1
  replace h2 : p ≤ 5 := h2
  refine ⟨imp_f fun h => ⟨imp_f fun g => ?_, imp_t fun g => ?_⟩, imp_t fun h => ?_⟩
  · rw [c_leq_t] at h
    rw [h5, nar_hit h1 h g]
    simp only [kR, canon, canons, getW, getWord, allInts8, asInt, isK, kindEq, isArgB, strOf, cBig, cInts, cWords, allInts, allWords, r_ofLimbs, r_mkWord, Option.some.injEq, LV.wide.injEq, LV.word.injEq, LV.int.injEq, LV.bool.injEq, LV.str.injEq, LV.big.injEq, LV.tup.injEq, LV.agg.injEq, List.cons.injEq, and_true, true_and]
  · rw [c_leq_t] at h
    have e1 : arithR .add .i64 p 1 = p + 1 := add_i64 (by omega) (by omega)
    rw [e1]
    have hm : m = (m - 1) + 1 := by omega
    have hc : 5 - (p + 1) ≤ ((m - 1 : Nat) : Int) := by omega
    exact hX (m - 1) (p + 1) hm ⟨by omega, by omega, by rw [h5, nar_miss h1 h g], hc⟩
  · rw [c_leq_f] at h
    rw [h5, show p = 5 by omega, nar_end]
    simp only [kR, canon, canons, getW, getWord, allInts8, asInt, isK, kindEq, isArgB, strOf, cBig, cInts, cWords, allInts, allWords, r_ofLimbs, r_mkWord, Option.some.injEq, LV.wide.injEq, LV.word.injEq, LV.int.injEq, LV.bool.injEq, LV.str.injEq, LV.big.injEq, LV.tup.injEq, LV.agg.injEq, List.cons.injEq, and_true, true_and]
theorem p_ConvertExact : SpecOk Tryz.prog globs 3 (mkSpec real [.int .i64, .int .i64, .word] (s_ConvertExact ropsEx)) := by
  have hfns : FnsOk Tryz.prog globs [(9, .spec (mkSpec real [.int .i64, .word] (s_class06 ropsC))), (10, .spec (mkSpec real [.int .i64, .int .i64, .word] (s_cExact ropsEx))), (11, .spec (mkSpec real [.int .i64, .word] (s_narrow ropsEx))), (13, .spec (mkSpec real [.int .i64, .word] (s_value07 ropsM))), (14, .spec (mkSpec real [.int .i64, .st [.bool, .int .i64, .wide]] (s_exact29 ropsEx))), (15, .spec (mkSpec real [.int .i64] (s_is rops))), (12, .spec (mkSpec real [] (s_awake29 ropsW)))] := (fnsCons (fnSpec (p_class06)) (fnsCons (fnSpec (p_cExact)) (fnsCons (fnSpec (p_narrow)) (fnsCons (fnSpec (p_value07)) (fnsCons (fnSpec (p_exact29)) (fnsCons (fnSpec (p_is)) (fnsCons (fnSpec (p_awake29)) fnsNil)))))))
  refine specL (fun _ => [0,1,5,7,8,9]) hfns (by kernel_rfl) Tryz.func3 (by kernel_rfl) (by kernel_rfl) (by kernel_rfl) 4 _ _ (.bool) ?_
  clear hfns
  generalize hEE : envL (fun _ => [0,1,5,7,8,9]) [(9, .spec (mkSpec real [.int .i64, .word] (s_class06 ropsC))), (10, .spec (mkSpec real [.int .i64, .int .i64, .word] (s_cExact ropsEx))), (11, .spec (mkSpec real [.int .i64, .word] (s_narrow ropsEx))), (13, .spec (mkSpec real [.int .i64, .word] (s_value07 ropsM))), (14, .spec (mkSpec real [.int .i64, .st [.bool, .int .i64, .wide]] (s_exact29 ropsEx))), (15, .spec (mkSpec real [.int .i64] (s_is rops))), (12, .spec (mkSpec real [] (s_awake29 ropsW)))] = EE
  intro l r hl hr
  simp only [Forms, Form] at hl
  obtain ⟨_, _, rfl, ⟨x1, rfl, x1lo, x1hi⟩, _, _, rfl, ⟨x2, rfl, x2lo, x2hi⟩, _, _, rfl, ⟨x3, rfl⟩, rfl⟩ := hl
  subst hEE
  generalize hK : kR (.bool) r = K
  generalize hO : real = O
  generalize hS0 : rops = S0
  generalize hS1 : ropsB = S1
  generalize hS2 : ropsC = S2
  generalize hS3 : ropsD = S3
  generalize hS4 : ropsE = S4
  generalize hS5 : ropsF = S5
  generalize hS6 : ropsG = S6
  generalize hS7 : ropsH = S7
  generalize hS8 : ropsI = S8
  generalize hS9 : ropsJ = S9
  generalize hS10 : ropsK = S10
  generalize hS11 : ropsL = S11
  generalize hS12 : ropsM = S12
  generalize hS13 : ropsN = S13
  generalize hS14 : ropsP = S14
  generalize hS15 : ropsQ = S15
  generalize hS16 : ropsT = S16
  generalize hS17 : ropsU = S17
  generalize hS18 : ropsV = S18
  generalize hS19 : ropsW = S19
  generalize hS20 : ropsEx = S20
  set_option maxRecDepth 100000 in cbv
  have hr : r = _ := hr.symm
  subst hO hK hS0 hS1 hS2 hS3 hS4 hS5 hS6 hS7 hS8 hS9 hS10 hS11 hS12 hS13 hS14 hS15 hS16 hS17 hS18 hS19 hS20
  subst hr
  refine ⟨imp_f fun h => ?_, imp_t fun h => ?_⟩
  · replace h : cmpR .lss (cls x1 x3) 4 = true := h
    rw [c_lss_t] at h
    have hfin : wFin x1 x3 = false := by
      cases hh : wFin x1 x3 with
      | false => rfl
      | true => have := (fin_iff x1 x3).1 hh; omega
    obtain ⟨n1, n2⟩ := nar_no hfin
    (dsimp only [real, rops, ropsB, ropsC, ropsD, ropsE, ropsF, ropsG, ropsH, ropsI, ropsJ, ropsK, ropsL, ropsM, ropsN, ropsP, ropsQ, ropsT, ropsU, ropsV, ropsW, ropsEx])
    rw [n1, n2]
    have kt : kR AT.bool (LV.bool true) (LV.bool true) := rfl
    simp [kt, show cmpR .eql 0 0 = true from rfl]
  · replace h : cmpR .lss (cls x1 x3) 4 = false := h
    rw [c_lss_f] at h
    have hfin : wFin x1 x3 = true := (fin_iff _ _).2 h
    have hrg := vExp_rng hfin
    refine ⟨hfin, ?_⟩
    · skip
      refine loop_rule (α := Int × Int) (fun p => ⟨[.int .i64 x1, .int .i64 x2, .undef, .undef, .undef, .ptr 0 0, .undef, .ptr 9 0, .int .i64 p.1, .int .i64 p.2, .undef, .undef, .undef, .undef, .undef, .undef, .undef, .undef, .undef, .undef, .undef, .undef, .undef, .undef, .undef, .undef, .undef, .undef, .undef, .undef, .undef, .undef, .undef, .undef, .undef, .undef, .undef, .undef, .undef, .undef, .undef, .undef, .undef, .undef, .undef, .undef, .undef, .undef, .undef, .undef, .undef, .undef, .undef, .undef, .undef, .undef, .undef, .undef, .undef, .undef, .undef], ofL [some (wordT, .word x3), none, none, none, none, none, none, none, none, some (numT, .agg [.bool (ropsM.vNeg x1 x3), .int .i64 (ropsM.vExp x1 x3), .wide (ropsM.vSig x1 x3)]), none, none, none], 13⟩)
        (fun m p => 0 ≤ p.2 ∧ p.2 ≤ 4 ∧ p.1 = narF x1 x3 (p.2 + 1) ∧ p.2 ≤ ((m : Nat) : Int)) ?_ 4 (0, 4) ⟨by decide, by decide, nar_end.symm, by decide⟩
      rintro m ⟨l, p⟩ X ⟨h1, h2, h3, h4⟩ hX
      (generalize hK : kR _ _ = K; generalize hO : real = O; generalize hS0 : rops = S0; generalize hS1 : ropsB = S1; generalize hS2 : ropsC = S2; generalize hS3 : ropsD = S3; generalize hS4 : ropsE = S4; generalize hS5 : ropsF = S5; generalize hS6 : ropsG = S6; generalize hS7 : ropsH = S7; generalize hS8 : ropsI = S8; generalize hS9 : ropsJ = S9; generalize hS10 : ropsK = S10; generalize hS11 : ropsL = S11; generalize hS12 : ropsM = S12; generalize hS13 : ropsN = S13; generalize hS14 : ropsP = S14; generalize hS15 : ropsQ = S15; generalize hS16 : ropsT = S16; generalize hS17 : ropsU = S17; generalize hS18 : ropsV = S18; generalize hS19 : ropsW = S19; generalize hS20 : ropsEx = S20; set_option maxRecDepth 100000 in cbv; subst hO hK hS0 hS1 hS2 hS3 hS4 hS5 hS6 hS7 hS8 hS9 hS10 hS11 hS12 hS13 hS14 hS15 hS16 hS17 hS18 hS19 hS20; dsimp only [real, rops, ropsB, ropsC, ropsD, ropsE, ropsF, ropsG, ropsH, ropsI, ropsJ, ropsK, ropsL, ropsM, ropsN, ropsP, ropsQ, ropsT, ropsU, ropsV, ropsW, ropsEx])
      have h5 : l = narF x1 x3 (p + 1) := h3
      have h6 : p ≤ ((m : Nat) : Int) := h4
      have h7 : 0 ≤ p := h1
      have h8 : p ≤ 4 := h2
      clear h1 h2 h3 h4
      have hcx : ∀ t, cexB x1 t x3 = exOk t (vExp x1 x3) (vSig x1 x3) := fun t => by unfold cexB; rw [hfin]; rfl
      have hgt : rgtE (vExp x1 x3) = true := decide_eq_true (by omega)
      refine ⟨imp_f fun g => ⟨⟨?_, h8⟩, hgt, imp_f fun k => ?_, imp_t fun k => ?_⟩, imp_t fun g => ?_⟩
      · rw [c_geq_t] at g
        exact g
      · rw [c_geq_t] at g
        have e1 : arithR .sub .i64 p 1 = p - 1 := sub_i64 (by omega) (by omega)
        rw [e1]
        have hm : m = (m - 1) + 1 := by omega
        have hc : p - 1 ≤ ((m - 1 : Nat) : Int) := by omega
        exact hX (m - 1) (p, p - 1) hm ⟨by show 0 ≤ p - 1; omega, by show p - 1 ≤ 4; omega, by show p = narF x1 x3 (p - 1 + 1); rw [show p - 1 + 1 = p by omega, nar_hit g h8 (by rw [hcx]; exact k)], hc⟩
      · rw [c_geq_t] at g
        have e1 : arithR .sub .i64 p 1 = p - 1 := sub_i64 (by omega) (by omega)
        rw [e1]
        have hm : m = (m - 1) + 1 := by omega
        have hc : p - 1 ≤ ((m - 1 : Nat) : Int) := by omega
        exact hX (m - 1) (l, p - 1) hm ⟨by show 0 ≤ p - 1; omega, by show p - 1 ≤ 4; omega, by show l = narF x1 x3 (p - 1 + 1); rw [show p - 1 + 1 = p by omega, nar_miss g h8 (by rw [hcx]; exact k)]; exact h5, hc⟩
      · rw [c_geq_f] at g
        have hl : l = narI x1 x3 := by rw [h5, show p + 1 = 1 by omega]; unfold narF; rw [if_pos (by decide)]
        have kt : kR AT.bool (LV.bool true) (LV.bool true) := rfl
        rw [hl, hcx]
        cases hk : fOk x2 with
        | true =>
          have hf : 1 ≤ x2 ∧ x2 ≤ 4 := of_decide_eq_true hk
          simp [hf, hgt, eql_self, kt]
        | false =>
          have hx : exOk x2 (vExp x1 x3) (vSig x1 x3) = false := by unfold exOk; rw [hk]; rfl
          simp [hx, eql_self, kt]
end Go.LE