import Derived.Test.YtcmicmbpcgminaaGreatDoorW46
import Derived.Test.YtcmicmbpcgminaaGreatDoorLeX
set_option linter.unusedVariables false
set_option linter.unusedSimpArgs false
namespace Go.LE
open Go Go.Proofs
theorem sp_fin {f : Int} {a b : BitVec 128} (ha : wFin f a = true) (hb : uOk f b = true) : spB f a b = false := by
  have hbf : wFin f b = true := by
    unfold uOk at hb
    rw [Bool.and_eq_true] at hb
    exact hb.1
  have h1 := (fin_iff f a).1 ha
  have h2 := (fin_iff f b).1 hbf
  have hn : nanIs f [a, b] = false := by
    unfold nanIs wNaN
    simp
    omega
  unfold spB
  rw [Bool.not_eq_false', (fin_fits ha).1, (fin_fits hbf).1, hn]
  unfold rtIs
  rw [ha, hb]
  rfl
theorem md_word {f : Int} {a b : BitVec 128} (ha : wFin f a = true) (hb : wFin f b = true) (hz : (vSig f b).toNat ≠ 0) : wFin f (mdWord f a b) = true ∧ wNeg f (mdWord f a b) = wNeg f a ∧
    sizeN (vSig f (mdWord f a b)).toNat (vExp f (mdWord f a b)) (rmR f a b) (rmE f a b) = 0 ∧ sizeN (vSig f (mdWord f a b)).toNat (vExp f (mdWord f a b)) (vSig f b).toNat (vExp f b) < 0 := by
  obtain ⟨_, hf⟩ := fin_fits ha
  obtain ⟨f1, f2⟩ := lf_word ha hb hz (Nat.le_refl _)
  obtain ⟨o1, o2, o3, o4⟩ := of_fin hf f1 (wNeg f a)
  have hs : sizeN (vSig f (mdWord f a b)).toNat (vExp f (mdWord f a b)) (rmR f a b) (rmE f a b) = 0 := size_sgn hf f1 f2 (wNeg f a)
  exact ⟨o1, o2, hs, (rm_size hs).1 (rm_below hz)⟩
theorem rr_word {f : Int} {a b : BitVec 128} (ha : wFin f a = true) (hb : wFin f b = true) (hz : (vSig f b).toNat ≠ 0) : wFin f (rrWord f a b) = true ∧
    sizeN (vSig f (rrWord f a b)).toNat (vExp f (rrWord f a b) + 1) (vSig f b).toNat (vExp f b) ≤ 0 := by
  obtain ⟨_, hf⟩ := fin_fits ha
  obtain ⟨n1, n2⟩ := nr_le (odd := rmO f a b) (rm_below (a := a) hz)
  obtain ⟨f1, f2⟩ := lf_word ha hb hz n1
  obtain ⟨o1, o2, o3, o4⟩ := of_fin hf f1 (wNeg f a != (rrT f a b && !decide (rrR f a b = 0)))
  have hs : sizeN (vSig f (rrWord f a b)).toNat (vExp f (rrWord f a b)) (rrR f a b) (rmE f a b) = 0 := size_sgn hf f1 f2 _
  exact ⟨o1, (rm_size hs).2 n2⟩
theorem md_again {f : Int} {a b : BitVec 128} (ha : wFin f a = true) (hb : wFin f b = true) (hz : (vSig f b).toNat ≠ 0) : mdWord f (mdWord f a b) b = mdWord f a b := by
  obtain ⟨_, hf⟩ := fin_fits ha
  obtain ⟨f1, f2⟩ := lf_word ha hb hz (Nat.le_refl _)
  obtain ⟨m1, m2, m3, m4⟩ := md_word ha hb hz
  have e := rm_again (m := mdWord f a b) hf f1 rfl m4
  show fWordOf f (wNeg f (mdWord f a b)) (findM f (rmR f (mdWord f a b) b) (rmE f (mdWord f a b) b)) = _
  rw [e, m2]
  rfl
theorem md_sgn {f : Int} {a b : BitVec 128} (hb : fFits f b = true) (s : Bool) : mdWord f a (sgn f b s) = mdWord f a b := by
  obtain ⟨e1, e2, e3, e4⟩ := rm_sgn (a := a) hb s
  unfold mdWord
  rw [e1, e4]
theorem rm_near {f : Int} {a b : BitVec 128} (ha : wFin f a = true) (hb : wFin f b = true) (h : farB f a b = false) : bitN (rmD f a b) ≤ 100000 ∧ -16495 ≤ rmE f a b ∧ rmE f a b ≤ 16384 := by
  have ra := vExp_rng ha
  have rb := vExp_rng hb
  obtain ⟨_, hf⟩ := fin_fits hb
  have hp := p_rng f hf
  have hlt := vSig_lt hb
  unfold farB at h
  rw [Bool.or_eq_false_iff, decide_eq_false_iff_not, decide_eq_false_iff_not] at h
  have hE : (vExp f b - rmE f a b).toNat ≤ 2300 := by unfold rmE lfE; omega
  have h3 : bitN (rmD f a b) ≤ (fPrec f).toNat + (vExp f b - rmE f a b).toNat := bitN_le.2 (by
    rw [Nat.pow_add]
    exact Nat.mul_lt_mul_of_pos_right hlt (Nat.two_pow_pos _))
  exact ⟨by omega, by unfold rmE lfE; omega, by unfold rmE lfE; omega⟩
theorem bitN_mono {a b : Nat} (h : a ≤ b) : bitN a ≤ bitN b := bitN_le.2 (Nat.lt_of_le_of_lt h (bitN_le.1 (Nat.le_refl _)))
def s_RemRems (_ : OpsRl) : List LV → R LV := fun _ => .ok (.bool true)
def s_RemAgain (_ : OpsRl) : List LV → R LV := fun _ => .ok (.bool true)
def s_RemBounds (_ : OpsRl) : List LV → R LV := fun _ => .ok (.bool true)
theorem p_RemRems : SpecOk Tryz.prog globs 5 (mkSpec real [.int .i64, .word, .word] (s_RemRems ropsRl)) := by
  have hfns : FnsOk Tryz.prog globs [(26, .spec (mkSpec real [.int .i64, .word, .word] (s_rRem ropsRt))), (27, .spec (mkSpec real [.int .i64, .word, .word] (s_special31 ropsRl))), (29, .spec (mkSpec real [.int .i64, .word, .word] (s_far31 ropsRf))), (31, .spec (mkSpec real [.int .i64, .word, .word] (s_mod31 ropsRf))), (30, .spec (mkSpec real [.st [.big, .big, .int .i64, .bool]] (s_rem31 ropsRf))), (33, .spec (mkSpec real [.int .i64, .big, .int .i64, .bool] (s_word31 ropsRf))), (32, .spec (mkSpec real [.int .i64, .word] (s_neg06 ropsC))), (28, .spec (mkSpec real [] (s_awake31 ropsRl)))] := (fnsCons (fnSpec (p_rRem)) (fnsCons (fnSpec (p_special31)) (fnsCons (fnSpec (p_far31)) (fnsCons (fnSpec (p_mod31)) (fnsCons (fnSpec (p_rem31)) (fnsCons (fnSpec (p_word31)) (fnsCons (fnSpec (p_neg06)) (fnsCons (fnSpec (p_awake31)) fnsNil))))))))
  refine spec0 hfns (by kernel_rfl) Tryz.func5 (by kernel_rfl) (by kernel_rfl) (by kernel_rfl) 4 _ _ (.bool) ?_
  clear hfns
  generalize hEE : env0 [(26, .spec (mkSpec real [.int .i64, .word, .word] (s_rRem ropsRt))), (27, .spec (mkSpec real [.int .i64, .word, .word] (s_special31 ropsRl))), (29, .spec (mkSpec real [.int .i64, .word, .word] (s_far31 ropsRf))), (31, .spec (mkSpec real [.int .i64, .word, .word] (s_mod31 ropsRf))), (30, .spec (mkSpec real [.st [.big, .big, .int .i64, .bool]] (s_rem31 ropsRf))), (33, .spec (mkSpec real [.int .i64, .big, .int .i64, .bool] (s_word31 ropsRf))), (32, .spec (mkSpec real [.int .i64, .word] (s_neg06 ropsC))), (28, .spec (mkSpec real [] (s_awake31 ropsRl)))] = EE
  intro l r hl hr
  simp only [Forms, Form] at hl
  obtain ⟨_, _, rfl, ⟨x1, rfl, x1lo, x1hi⟩, _, _, rfl, ⟨x2, rfl⟩, _, _, rfl, ⟨x3, rfl⟩, rfl⟩ := hl
  subst hEE
  generalize hK : kR (.bool) r = K
  generalize hO : real = O
  generalize hS0 : rops = S0
  generalize hS1 : ropsB = S1
  generalize hS2 : ropsC = S2
  generalize hS3 : ropsD = S3
  generalize hS4 : ropsE = S4
  generalize hS5 : ropsF = S5
  generalize hS6 : ropsG = S6
  generalize hS7 : ropsH = S7
  generalize hS8 : ropsI = S8
  generalize hS9 : ropsJ = S9
  generalize hS10 : ropsK = S10
  generalize hS11 : ropsL = S11
  generalize hS12 : ropsM = S12
  generalize hS13 : ropsN = S13
  generalize hS14 : ropsP = S14
  generalize hS15 : ropsQ = S15
  generalize hS16 : ropsDv = S16
  generalize hS17 : ropsRm = S17
  generalize hS18 : ropsRs = S18
  generalize hS19 : ropsT = S19
  generalize hS20 : ropsU = S20
  generalize hS21 : ropsV = S21
  generalize hS22 : ropsRt = S22
  generalize hS23 : ropsQs = S23
  generalize hS24 : ropsRf = S24
  generalize hS25 : ropsRl = S25
  set_option maxRecDepth 100000 in cbv
  subst hO hK hS0 hS1 hS2 hS3 hS4 hS5 hS6 hS7 hS8 hS9 hS10 hS11 hS12 hS13 hS14 hS15 hS16 hS17 hS18 hS19 hS20 hS21 hS22 hS23 hS24 hS25
  simp only [s_RemRems, R.Y] at hr
  subst hr
  try dsimp only [real, rops, ropsB, ropsC, ropsD, ropsE, ropsF, ropsG, ropsH, ropsI, ropsJ, ropsK, ropsL, ropsM, ropsN, ropsP, ropsQ, ropsDv, ropsRm, ropsRs, ropsT, ropsU, ropsV, ropsRt, ropsQs, ropsRf, ropsRl]
  have kt : kR AT.bool (LV.bool true) (LV.bool true) := rfl
  have z0 : cmpR .eql 0 0 = true := rfl
  cases hB : spB x1 x2 x3 with
  | true =>
    obtain ⟨e1, e2, e3⟩ := sp_yes hB (rrWord x1 x2 x3)
    rw [e1, e2, e3]
    simp [eql_self, kt]
  | false =>
    obtain ⟨ha, hb, hu, hne, e1, e2, e3, hf⟩ := sp_no hB (rrWord x1 x2 x3)
    rw [e1, e2, e3]
    have hlt := rm_below (a := x2) hne
    obtain ⟨n1, n2⟩ := nr_le (odd := rmO x1 x2 x3) hlt
    obtain ⟨f1, f2⟩ := lf_word ha hb hne n1
    cases hF : farB x1 x2 x3 with
    | true => simp [ha, hb, kt, z0]
    | false =>
      obtain ⟨b1, b2, b3⟩ := rm_near ha hb hF
      have hok : okN (nrR (rmR x1 x2 x3) (rmD x1 x2 x3) (rmO x1 x2 x3)) (rmE x1 x2 x3) := ⟨Nat.le_trans (bitN_mono (show _ ≤ rmD x1 x2 x3 by omega)) (by omega), by omega, by omega⟩
      have hq : cmpR .gtr (((dig (nrR (rmR x1 x2 x3) (rmD x1 x2 x3) (rmO x1 x2 x3))).length : Nat) : Int) 0 = !decide (nrR (rmR x1 x2 x3) (rmD x1 x2 x3) (rmO x1 x2 x3) = 0) := by
        have := dig_pos (nrR (rmR x1 x2 x3) (rmD x1 x2 x3) (rmO x1 x2 x3))
        by_cases h0 : nrR (rmR x1 x2 x3) (rmD x1 x2 x3) (rmO x1 x2 x3) = 0
        · rw [decide_eq_true h0, Bool.not_true, c_gtr_f]; omega
        · rw [decide_eq_false h0, Bool.not_false, c_gtr_t]; omega
      have hW : rrWord x1 x2 x3 = fWordOf x1 (wNeg x1 x2 != (nrT (rmR x1 x2 x3) (rmD x1 x2 x3) (rmO x1 x2 x3) && !decide (nrR (rmR x1 x2 x3) (rmD x1 x2 x3) (rmO x1 x2 x3) = 0))) (findM x1 (nrR (rmR x1 x2 x3) (rmD x1 x2 x3) (rmO x1 x2 x3)) (rmE x1 x2 x3)) := rfl
      rw [hq, hW]
      refine ⟨.inl rfl, .inr ⟨ha, hb, .inl rfl, .inr ⟨ha, hb, hne, rfl, ⟨hlt, b1⟩, ?_⟩⟩⟩
      · generalize nrR (rmR x1 x2 x3) (rmD x1 x2 x3) (rmO x1 x2 x3) = q at *
        cases nrT (rmR x1 x2 x3) (rmD x1 x2 x3) (rmO x1 x2 x3) with
        | false => exact ⟨.inl rfl, .inr ⟨ha, hb, hne, rfl, hf, hok, ⟨f1, f2⟩, by simp [kt, z0]⟩⟩
        | true =>
          refine ⟨.inr ?_, .inl rfl⟩
          cases hd : decide (q = 0) with
          | false => exact ⟨.inr ⟨ha, hb, hne, rfl, hf, hok, ⟨f1, f2⟩, by simp [kt, z0]⟩, .inl rfl⟩
          | true => exact ⟨.inl rfl, .inr ⟨ha, hb, hne, rfl, hf, hok, ⟨f1, f2⟩, by simp [kt, z0]⟩⟩
theorem p_RemAgain : SpecOk Tryz.prog globs 7 (mkSpec real [.int .i64, .word, .word] (s_RemAgain ropsRl)) := by
  have hfns : FnsOk Tryz.prog globs [(34, .spec (mkSpec real [.int .i64, .word, .word] (s_rMod ropsRt))), (27, .spec (mkSpec real [.int .i64, .word, .word] (s_special31 ropsRl))), (37, .spec (mkSpec real [.int .i64, .word, .bool] (s_signed06 ropsC))), (32, .spec (mkSpec real [.int .i64, .word] (s_neg06 ropsC))), (28, .spec (mkSpec real [] (s_awake31 ropsRl)))] := (fnsCons (fnSpec (p_rMod)) (fnsCons (fnSpec (p_special31)) (fnsCons (fnSpec (p_signed06)) (fnsCons (fnSpec (p_neg06)) (fnsCons (fnSpec (p_awake31)) fnsNil)))))
  refine spec0 hfns (by kernel_rfl) Tryz.func7 (by kernel_rfl) (by kernel_rfl) (by kernel_rfl) 4 _ _ (.bool) ?_
  clear hfns
  generalize hEE : env0 [(34, .spec (mkSpec real [.int .i64, .word, .word] (s_rMod ropsRt))), (27, .spec (mkSpec real [.int .i64, .word, .word] (s_special31 ropsRl))), (37, .spec (mkSpec real [.int .i64, .word, .bool] (s_signed06 ropsC))), (32, .spec (mkSpec real [.int .i64, .word] (s_neg06 ropsC))), (28, .spec (mkSpec real [] (s_awake31 ropsRl)))] = EE
  intro l r hl hr
  simp only [Forms, Form] at hl
  obtain ⟨_, _, rfl, ⟨x1, rfl, x1lo, x1hi⟩, _, _, rfl, ⟨x2, rfl⟩, _, _, rfl, ⟨x3, rfl⟩, rfl⟩ := hl
  subst hEE
  generalize hK : kR (.bool) r = K
  generalize hO : real = O
  generalize hS0 : rops = S0
  generalize hS1 : ropsB = S1
  generalize hS2 : ropsC = S2
  generalize hS3 : ropsD = S3
  generalize hS4 : ropsE = S4
  generalize hS5 : ropsF = S5
  generalize hS6 : ropsG = S6
  generalize hS7 : ropsH = S7
  generalize hS8 : ropsI = S8
  generalize hS9 : ropsJ = S9
  generalize hS10 : ropsK = S10
  generalize hS11 : ropsL = S11
  generalize hS12 : ropsM = S12
  generalize hS13 : ropsN = S13
  generalize hS14 : ropsP = S14
  generalize hS15 : ropsQ = S15
  generalize hS16 : ropsDv = S16
  generalize hS17 : ropsRm = S17
  generalize hS18 : ropsRs = S18
  generalize hS19 : ropsT = S19
  generalize hS20 : ropsU = S20
  generalize hS21 : ropsV = S21
  generalize hS22 : ropsRt = S22
  generalize hS23 : ropsQs = S23
  generalize hS24 : ropsRf = S24
  generalize hS25 : ropsRl = S25
  set_option maxRecDepth 100000 in cbv
  subst hO hK hS0 hS1 hS2 hS3 hS4 hS5 hS6 hS7 hS8 hS9 hS10 hS11 hS12 hS13 hS14 hS15 hS16 hS17 hS18 hS19 hS20 hS21 hS22 hS23 hS24 hS25
  simp only [s_RemAgain, R.Y] at hr
  subst hr
  try dsimp only [real, rops, ropsB, ropsC, ropsD, ropsE, ropsF, ropsG, ropsH, ropsI, ropsJ, ropsK, ropsL, ropsM, ropsN, ropsP, ropsQ, ropsDv, ropsRm, ropsRs, ropsT, ropsU, ropsV, ropsRt, ropsQs, ropsRf, ropsRl]
  have kt : kR AT.bool (LV.bool true) (LV.bool true) := rfl
  have z0 : cmpR .eql 0 0 = true := rfl
  cases hB : spB x1 x2 x3 with
  | true => exact ⟨.inr kt, .inl rfl⟩
  | false =>
    obtain ⟨ha, hb, hu, hne, e1, e2, e3, hf⟩ := sp_no hB (mdWord x1 x2 x3)
    obtain ⟨m1, m2, m3, m4⟩ := md_word ha hb hne
    obtain ⟨_, _, _, _, f1, f2, f3, _⟩ := sp_no (sp_fin m1 hu) (mdWord x1 (mdWord x1 x2 x3) x3)
    obtain ⟨hfb, _⟩ := fin_fits hb
    obtain ⟨_, _, _, s4⟩ := sgn_v hfb (!wNeg x1 x3)
    obtain ⟨_, _, _, _, g1, g2, g3, _⟩ := sp_no (sp_fin ha (s4.trans hu)) (mdWord x1 x2 (sgn x1 x3 !wNeg x1 x3))
    rw [e1, e3, f1, f3, g1, g3, md_again ha hb hne, md_sgn hfb]
    refine ⟨.inl rfl, .inr ⟨hf, ?_⟩⟩
    simp [kt, z0]
theorem p_RemBounds : SpecOk Tryz.prog globs 6 (mkSpec real [.int .i64, .word, .word] (s_RemBounds ropsRl)) := by
  have hfns : FnsOk Tryz.prog globs [(34, .spec (mkSpec real [.int .i64, .word, .word] (s_rMod ropsRt))), (26, .spec (mkSpec real [.int .i64, .word, .word] (s_rRem ropsRt))), (27, .spec (mkSpec real [.int .i64, .word, .word] (s_special31 ropsRl))), (9, .spec (mkSpec real [.int .i64, .word] (s_class06 ropsC))), (32, .spec (mkSpec real [.int .i64, .word] (s_neg06 ropsC))), (35, .spec (mkSpec real [.st [.bool, .int .i64, .wide]] (s_of07 ropsK))), (13, .spec (mkSpec real [.int .i64, .word] (s_value07 ropsM))), (36, .spec (mkSpec real [.st [.bool, .big, .int .i64], .st [.bool, .big, .int .i64]] (s_size07 ropsL))), (28, .spec (mkSpec real [] (s_awake31 ropsRl)))] := (fnsCons (fnSpec (p_rMod)) (fnsCons (fnSpec (p_rRem)) (fnsCons (fnSpec (p_special31)) (fnsCons (fnSpec (p_class06)) (fnsCons (fnSpec (p_neg06)) (fnsCons (fnSpec (p_of07)) (fnsCons (fnSpec (p_value07)) (fnsCons (fnSpec (p_size07)) (fnsCons (fnSpec (p_awake31)) fnsNil)))))))))
  refine spec0 hfns (by kernel_rfl) Tryz.func6 (by kernel_rfl) (by kernel_rfl) (by kernel_rfl) 4 _ _ (.bool) ?_
  clear hfns
  generalize hEE : env0 [(34, .spec (mkSpec real [.int .i64, .word, .word] (s_rMod ropsRt))), (26, .spec (mkSpec real [.int .i64, .word, .word] (s_rRem ropsRt))), (27, .spec (mkSpec real [.int .i64, .word, .word] (s_special31 ropsRl))), (9, .spec (mkSpec real [.int .i64, .word] (s_class06 ropsC))), (32, .spec (mkSpec real [.int .i64, .word] (s_neg06 ropsC))), (35, .spec (mkSpec real [.st [.bool, .int .i64, .wide]] (s_of07 ropsK))), (13, .spec (mkSpec real [.int .i64, .word] (s_value07 ropsM))), (36, .spec (mkSpec real [.st [.bool, .big, .int .i64], .st [.bool, .big, .int .i64]] (s_size07 ropsL))), (28, .spec (mkSpec real [] (s_awake31 ropsRl)))] = EE
  intro l r hl hr
  simp only [Forms, Form] at hl
  obtain ⟨_, _, rfl, ⟨x1, rfl, x1lo, x1hi⟩, _, _, rfl, ⟨x2, rfl⟩, _, _, rfl, ⟨x3, rfl⟩, rfl⟩ := hl
  subst hEE
  generalize hK : kR (.bool) r = K
  generalize hO : real = O
  generalize hS0 : rops = S0
  generalize hS1 : ropsB = S1
  generalize hS2 : ropsC = S2
  generalize hS3 : ropsD = S3
  generalize hS4 : ropsE = S4
  generalize hS5 : ropsF = S5
  generalize hS6 : ropsG = S6
  generalize hS7 : ropsH = S7
  generalize hS8 : ropsI = S8
  generalize hS9 : ropsJ = S9
  generalize hS10 : ropsK = S10
  generalize hS11 : ropsL = S11
  generalize hS12 : ropsM = S12
  generalize hS13 : ropsN = S13
  generalize hS14 : ropsP = S14
  generalize hS15 : ropsQ = S15
  generalize hS16 : ropsDv = S16
  generalize hS17 : ropsRm = S17
  generalize hS18 : ropsRs = S18
  generalize hS19 : ropsT = S19
  generalize hS20 : ropsU = S20
  generalize hS21 : ropsV = S21
  generalize hS22 : ropsRt = S22
  generalize hS23 : ropsQs = S23
  generalize hS24 : ropsRf = S24
  generalize hS25 : ropsRl = S25
  set_option maxRecDepth 100000 in cbv
  subst hO hK hS0 hS1 hS2 hS3 hS4 hS5 hS6 hS7 hS8 hS9 hS10 hS11 hS12 hS13 hS14 hS15 hS16 hS17 hS18 hS19 hS20 hS21 hS22 hS23 hS24 hS25
  simp only [s_RemBounds, R.Y] at hr
  subst hr
  try dsimp only [real, rops, ropsB, ropsC, ropsD, ropsE, ropsF, ropsG, ropsH, ropsI, ropsJ, ropsK, ropsL, ropsM, ropsN, ropsP, ropsQ, ropsDv, ropsRm, ropsRs, ropsT, ropsU, ropsV, ropsRt, ropsQs, ropsRf, ropsRl]
  have kt : kR AT.bool (LV.bool true) (LV.bool true) := rfl
  have z0 : cmpR .neq 0 0 = false := rfl
  cases hB : spB x1 x2 x3 with
  | true => exact ⟨.inr kt, .inl rfl⟩
  | false =>
    obtain ⟨ha, hb, hu, hne, e1, e2, e3, hf⟩ := sp_no hB (mdWord x1 x2 x3)
    obtain ⟨_, _, _, _, f1, _, _, _⟩ := sp_no hB (rrWord x1 x2 x3)
    obtain ⟨m1, m2, m3, m4⟩ := md_word ha hb hne
    obtain ⟨r1, r2⟩ := rr_word ha hb hne
    have v1 := vExp_rng m1
    have v2 := vExp_rng r1
    have v3 := vExp_rng hb
    have a1 : arithR .add .i64 (vExp x1 (rrWord x1 x2 x3)) 1 = vExp x1 (rrWord x1 x2 x3) + 1 := add_i64 (by omega) (by omega)
    rw [e1, e3, f1, z0, a1, m2]
    have c1 : cmpR .lss (cls x1 (mdWord x1 x2 x3)) 4 = false := by rw [c_lss_f]; exact (fin_iff _ _).1 m1
    have c2 : cmpR .lss (cls x1 (rrWord x1 x2 x3)) 4 = false := by rw [c_lss_f]; exact (fin_iff _ _).1 r1
    rw [c1, c2]
    have c3 : cmpR .lss (sizeN (vSig x1 (mdWord x1 x2 x3)).toNat (vExp x1 (mdWord x1 x2 x3)) (vSig x1 x3).toNat (vExp x1 x3)) 0 = true := by rw [c_lss_t]; exact m4
    have c4 : cmpR .leq (sizeN (vSig x1 (rrWord x1 x2 x3)).toNat (vExp x1 (rrWord x1 x2 x3) + 1) (vSig x1 x3).toNat (vExp x1 x3)) 0 = true := by rw [c_leq_t]; exact r2
    rw [c3, c4]
    have c5 : (!wNeg x1 x2 == wNeg x1 x2) = false := by cases wNeg x1 x2 <;> rfl
    rw [c5]
    have o1 := okN_wide (vSig x1 (mdWord x1 x2 x3)) (e := vExp x1 (mdWord x1 x2 x3)) (by omega)
    have o2 := okN_wide (vSig x1 (rrWord x1 x2 x3)) (e := vExp x1 (rrWord x1 x2 x3) + 1) (by omega)
    have o3 := okN_wide (vSig x1 x3) (e := vExp x1 x3) (by omega)
    exact ⟨.inl rfl, .inr ⟨.inl rfl, .inr ⟨.inl rfl, .inr ⟨.inl rfl, .inr ⟨.inl rfl, .inr ⟨.inl rfl, .inr ⟨hb, m1, r1, o1, o3, .inr ⟨o2, o3, .inr kt, .inl rfl⟩, .inl rfl⟩⟩⟩⟩⟩⟩⟩
end Go.LE