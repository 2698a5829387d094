import Derived.Test.YtcmicmbpcgminaaGreatDoorW45
import Derived.Test.YtcmicmbpcgminaaGreatDoorW14
set_option linter.unusedVariables false
set_option linter.unusedSimpArgs false
namespace Go.LE
open Go Go.Proofs
def spW (f : Int) (a b : BitVec 128) : BitVec 128 := bif fFits f a && fFits f b then (bif nanIs f [a, b] then nanV f [a, b] else bif decide (cls f a = 3) || decide (cls f b = 6) then fNaN f else bif decide (cls f b = 3) then a else 0) else 0
def spX (f : Int) (a b : BitVec 128) : Int := bif fFits f a && fFits f b then (bif nanIs f [a, b] then nanX f [a, b] else bif decide (cls f a = 3) || decide (cls f b = 6) then 1 else 0) else 0
def spC (f : Int) (a b : BitVec 128) : Int := bif fFits f a && fFits f b then 0 else 1
def spB (f : Int) (a b : BitVec 128) : Bool := !(fFits f a && fFits f b && !nanIs f [a, b] && rtIs f a b)
theorem sp_no {f : Int} {a b : BitVec 128} (h : spB f a b = false) (w : BitVec 128) : wFin f a = true ∧ wFin f b = true ∧ uOk f b = true ∧ (vSig f b).toNat ≠ 0 ∧ rtW f a b w = w ∧ rtX f a b = 0 ∧ rtE f a b = 0 ∧ (1 ≤ f ∧ f ≤ 4) := by
  unfold spB at h
  rw [Bool.not_eq_false'] at h
  simp only [Bool.and_eq_true, Bool.not_eq_true'] at h
  obtain ⟨⟨⟨h1, h2⟩, h3⟩, h4⟩ := h
  have h5 := h4
  unfold rtIs at h5
  rw [Bool.and_eq_true] at h5
  obtain ⟨ha, hb⟩ := h5
  obtain ⟨k, _, _, hfin, hne, _⟩ := u_scale hb
  have ho : rtOk f a b = true := by unfold rtOk; rw [h1, h2]; rfl
  have hc := (fin_iff f b).1 hfin
  have hi : rtInf f a b = false := by unfold rtInf; rw [decide_eq_false (by omega)]; rfl
  refine ⟨ha, hfin, hb, hne, ?_, ?_, ?_, (fits_lt h1).1⟩
  · unfold rtW; rw [ho, h3, hi, h4]; rfl
  · unfold rtX; rw [ho, h3, hi, h4]; rfl
  · unfold rtE; rw [ho]; rfl
theorem sp_yes {f : Int} {a b : BitVec 128} (h : spB f a b = true) (w : BitVec 128) : rtW f a b w = spW f a b ∧ rtX f a b = spX f a b ∧ rtE f a b = spC f a b := by
  unfold spB at h
  have hE : rtE f a b = spC f a b := rfl
  refine ⟨?_, ?_, hE⟩
  all_goals simp only [rtW, rtX, spW, spX, rtOk]
  all_goals cases hF : (fFits f a && fFits f b) with
    | false => rfl
    | true =>
      cases hn : nanIs f [a, b] with
      | true => rfl
      | false =>
        rw [hF, hn, Bool.not_false, Bool.and_true, Bool.true_and, Bool.not_eq_true'] at h
        rw [Bool.and_eq_true] at hF
        have ra := cls_rng f a
        have rb := cls_rng f b
        have za : cls f a ≠ 0 := fun hh => by rw [cls_pos] at hh; rw [hh] at hF; cases hF.1
        have zb : cls f b ≠ 0 := fun hh => by rw [cls_pos] at hh; rw [hh] at hF; cases hF.2
        have hnn : ¬ (cls f a = 1 ∨ cls f a = 2) ∧ ¬ (cls f b = 1 ∨ cls f b = 2) := by
          have c' := hn
          unfold nanIs wNaN at c'
          simp at c'
          omega
        have h2 : uOk f b = decide (cls f b = 4 ∨ cls f b = 5) := some_cls (f := f) (w := b)
        rw [h]
        unfold rtIs at h
        rw [h2] at h
        unfold rtInf
        cases hw : wFin f a with
        | true =>
          have h4 := (fin_iff f a).1 hw
          rw [hw, Bool.true_and, decide_eq_false_iff_not] at h
          rw [decide_eq_false (show ¬ cls f a = 3 by omega)]
          by_cases h6 : cls f b = 6
          · rw [decide_eq_true h6, decide_eq_false (show ¬ cls f b = 3 by omega)]; rfl
          · rw [decide_eq_false h6, decide_eq_true (show cls f b = 3 by omega)]; rfl
        | false =>
          have h4 : ¬ 4 ≤ cls f a := fun hc => by rw [(fin_iff f a).2 hc] at hw; cases hw
          rw [decide_eq_true (show cls f a = 3 by omega), Bool.and_false]
          rfl
structure OpsRl where
  spW : Int → BitVec 128 → BitVec 128 → BitVec 128
  spX : Int → BitVec 128 → BitVec 128 → Int
  spC : Int → BitVec 128 → BitVec 128 → Int
  spB : Int → BitVec 128 → BitVec 128 → Bool
noncomputable def ropsRl : OpsRl where
  spW := spW
  spX := spX
  spC := spC
  spB := spB
def s_special31 (S : OpsRl) : List LV → R LV
  | [.int _ f, .word a, .word b] => .ok (.tup [.word (S.spW f a b), .int .i64 (S.spX f a b), .int .i64 (S.spC f a b), .bool (S.spB f a b)])
  | _ => .fail
def s_awake31 (_ : OpsRl) : List LV → R LV := fun _ => .ok (.bool true)
theorem p_special31 : SpecOk Tryz.prog globs 27 (mkSpec real [.int .i64, .word, .word] (s_special31 ropsRl)) := by
  have hfns : FnsOk Tryz.prog globs [(9, .spec (mkSpec real [.int .i64, .word] (s_class06 ropsC))), (60, .spec (mkSpec real [.int .i64, .words] (s_of10 ropsG))), (65, .spec (mkSpec real [.int .i64] (s_refNaN rops)))] := (fnsCons (fnSpec (p_class06)) (fnsCons (fnSpec (p_of10)) (fnsCons (fnSpec (p_refNaN)) fnsNil)))
  refine spec0 hfns (by kernel_rfl) Tryz.func27 (by kernel_rfl) (by kernel_rfl) (by kernel_rfl) 4 _ _ (.tup [.word, .int .i64, .int .i64, .bool]) ?_
  clear hfns
  generalize hEE : env0 [(9, .spec (mkSpec real [.int .i64, .word] (s_class06 ropsC))), (60, .spec (mkSpec real [.int .i64, .words] (s_of10 ropsG))), (65, .spec (mkSpec real [.int .i64] (s_refNaN rops)))] = EE
  intro l r hl hr
  simp only [Forms, Form] at hl
  obtain ⟨_, _, rfl, ⟨x1, rfl, x1lo, x1hi⟩, _, _, rfl, ⟨x2, rfl⟩, _, _, rfl, ⟨x3, rfl⟩, rfl⟩ := hl
  subst hEE
  generalize hK : kR (.tup [.word, .int .i64, .int .i64, .bool]) r = K
  generalize hO : real = O
  generalize hS0 : rops = S0
  generalize hS1 : ropsB = S1
  generalize hS2 : ropsC = S2
  generalize hS3 : ropsD = S3
  generalize hS4 : ropsE = S4
  generalize hS5 : ropsF = S5
  generalize hS6 : ropsG = S6
  generalize hS7 : ropsH = S7
  generalize hS8 : ropsI = S8
  generalize hS9 : ropsJ = S9
  generalize hS10 : ropsK = S10
  generalize hS11 : ropsL = S11
  generalize hS12 : ropsM = S12
  generalize hS13 : ropsN = S13
  generalize hS14 : ropsP = S14
  generalize hS15 : ropsQ = S15
  generalize hS16 : ropsDv = S16
  generalize hS17 : ropsRm = S17
  generalize hS18 : ropsRs = S18
  generalize hS19 : ropsT = S19
  generalize hS20 : ropsU = S20
  generalize hS21 : ropsV = S21
  generalize hS22 : ropsRt = S22
  generalize hS23 : ropsQs = S23
  generalize hS24 : ropsRf = S24
  generalize hS25 : ropsRl = S25
  set_option maxRecDepth 100000 in cbv
  subst hO hK hS0 hS1 hS2 hS3 hS4 hS5 hS6 hS7 hS8 hS9 hS10 hS11 hS12 hS13 hS14 hS15 hS16 hS17 hS18 hS19 hS20 hS21 hS22 hS23 hS24 hS25
  simp only [s_special31, R.Y] at hr
  subst hr
  try dsimp only [real, rops, ropsB, ropsC, ropsD, ropsE, ropsF, ropsG, ropsH, ropsI, ropsJ, ropsK, ropsL, ropsM, ropsN, ropsP, ropsQ, ropsDv, ropsRm, ropsRs, ropsT, ropsU, ropsV, ropsRt, ropsQs, ropsRf, ropsRl]
  have leaf0 : (fFits x1 x2 && fFits x1 x3) = false → kR (AT.tup [AT.word, AT.int IntKind.i64, AT.int IntKind.i64, AT.bool]) (LV.tup [LV.word (spW x1 x2 x3), LV.int IntKind.i64 (spX x1 x2 x3), LV.int IntKind.i64 (spC x1 x2 x3), LV.bool (spB x1 x2 x3)])
      (LV.tup [LV.agg [LV.lit IntKind.u64 0, LV.lit IntKind.u64 0], LV.lit IntKind.i64 0, LV.lit IntKind.i64 1, LV.blit true]) := fun h => by
    unfold spW spX spC spB
    rw [h]
    simp only [kR, canon, canons, getW, getWord, allInts8, asInt, isK, kindEq, isArgB, strOf, cBig, cInts, cWords, allInts, allWords, r_ofLimbs, r_mkWord, Option.some.injEq, LV.wide.injEq, LV.word.injEq, LV.int.injEq, LV.bool.injEq, LV.str.injEq, LV.big.injEq, LV.tup.injEq, LV.agg.injEq, List.cons.injEq, and_true, true_and]
    exact ⟨mkWord_0, rfl, rfl, rfl⟩
  have hz : ∀ w, cls x1 w = 0 → fFits x1 w = false := fun w h => by rw [cls_pos] at h; exact h
  have hnz : ∀ w, cls x1 w ≠ 0 → fFits x1 w = true := fun w h => by
    cases hh : fFits x1 w with
    | true => rfl
    | false => exact absurd (show cls x1 w = 0 by rw [cls_pos]; exact hh) h
  refine ⟨imp_f fun a => ?_, imp_t fun a => ⟨imp_f fun b => ?_, imp_t fun b => ⟨imp_f fun c => ?_, imp_t fun c => ?_⟩⟩⟩
  · rw [c_eql_t] at a
    exact leaf0 (by rw [hz _ a]; rfl)
  · rw [c_eql_t] at b
    exact leaf0 (by rw [hz _ b, Bool.and_false])
  · rw [c_eql_f] at a b
    have hF : (fFits x1 x2 && fFits x1 x3) = true := by rw [hnz _ a, hnz _ b]; rfl
    have hW : spW x1 x2 x3 = nanV x1 [x2, x3] := by unfold spW; rw [hF, c]; rfl
    have hX : spX x1 x2 x3 = nanX x1 [x2, x3] := by unfold spX; rw [hF, c]; rfl
    have hC : spC x1 x2 x3 = 0 := by unfold spC; rw [hF]; rfl
    have hB : spB x1 x2 x3 = true := by unfold spB; rw [hF, c]; rfl
    rw [hW, hX, hC, hB]
    rfl
  · rw [c_eql_f] at a b
    have hF : (fFits x1 x2 && fFits x1 x3) = true := by rw [hnz _ a, hnz _ b]; rfl
    have hf := (fits_lt (hnz _ a)).1
    have hC : spC x1 x2 x3 = 0 := by unfold spC; rw [hF]; rfl
    have ra := cls_rng x1 x2
    have rb := cls_rng x1 x3
    have hnn : ¬ (cls x1 x2 = 1 ∨ cls x1 x2 = 2) ∧ ¬ (cls x1 x3 = 1 ∨ cls x1 x3 = 2) := by
      have c' := c
      unfold nanIs wNaN at c'
      simp at c'
      omega
    have hI : rtIs x1 x2 x3 = (decide (4 ≤ cls x1 x2) && decide (cls x1 x3 = 4 ∨ cls x1 x3 = 5)) := by
      have h1 : wFin x1 x2 = decide (4 ≤ cls x1 x2) := by
        cases hh : wFin x1 x2 with
        | true => exact (decide_eq_true ((fin_iff _ _).1 hh)).symm
        | false =>
          refine (decide_eq_false fun hc => ?_).symm
          rw [(fin_iff x1 x2).2 hc] at hh
          cases hh
      have h2 : uOk x1 x3 = decide (cls x1 x3 = 4 ∨ cls x1 x3 = 5) := some_cls (f := x1) (w := x3)
      unfold rtIs
      rw [h1, h2]
    have hB : spB x1 x2 x3 = !(decide (4 ≤ cls x1 x2) && decide (cls x1 x3 = 4 ∨ cls x1 x3 = 5)) := by unfold spB; rw [hF, c, hI]; rfl
    refine ⟨imp_f fun d => ⟨hf, ?_⟩, imp_t fun d => ⟨imp_f fun e => ⟨hf, ?_⟩, imp_t fun e => ⟨imp_f fun g => ?_, imp_t fun g => ?_⟩⟩⟩
    · rw [c_eql_t] at d
      have hW : spW x1 x2 x3 = fNaN x1 := by unfold spW; rw [hF, c, decide_eq_true d]; rfl
      have hX : spX x1 x2 x3 = 1 := by unfold spX; rw [hF, c, decide_eq_true d]; rfl
      rw [hW, hX, hC, hB, decide_eq_false (show ¬ 4 ≤ cls x1 x2 by omega)]
      rfl
    · rw [c_eql_f] at d
      rw [c_eql_t] at e
      have hW : spW x1 x2 x3 = fNaN x1 := by unfold spW; rw [hF, c, decide_eq_false d, decide_eq_true e]; rfl
      have hX : spX x1 x2 x3 = 1 := by unfold spX; rw [hF, c, decide_eq_false d, decide_eq_true e]; rfl
      rw [hW, hX, hC, hB, decide_eq_false (show ¬ (cls x1 x3 = 4 ∨ cls x1 x3 = 5) by omega), Bool.and_false]
      rfl
    · rw [c_eql_f] at d e
      rw [c_eql_t] at g
      have hW : spW x1 x2 x3 = x2 := by unfold spW; rw [hF, c, decide_eq_false d, decide_eq_false e, decide_eq_true g]; rfl
      have hX : spX x1 x2 x3 = 0 := by unfold spX; rw [hF, c, decide_eq_false d, decide_eq_false e]; rfl
      rw [hW, hX, hC, hB, decide_eq_false (show ¬ (cls x1 x3 = 4 ∨ cls x1 x3 = 5) by omega), Bool.and_false]
      rfl
    · rw [c_eql_f] at d e g
      have hW : spW x1 x2 x3 = mkWordR 0 0 := by unfold spW; rw [hF, c, decide_eq_false d, decide_eq_false e, decide_eq_false g, mkWord_0]; rfl
      have hX : spX x1 x2 x3 = 0 := by unfold spX; rw [hF, c, decide_eq_false d, decide_eq_false e]; rfl
      rw [hW, hX, hC, hB, decide_eq_true (show 4 ≤ cls x1 x2 by omega), decide_eq_true (show cls x1 x3 = 4 ∨ cls x1 x3 = 5 by omega)]
      rfl
theorem p_awake31 : SpecOk Tryz.prog globs 28 (mkSpec real [] (s_awake31 ropsRl)) := by
  have hfns : FnsOk Tryz.prog globs [(34, .spec (mkSpec real [.int .i64, .word, .word] (s_rMod ropsRt))), (26, .spec (mkSpec real [.int .i64, .word, .word] (s_rRem ropsRt)))] := (fnsCons (fnSpec (p_rMod)) (fnsCons (fnSpec (p_rRem)) fnsNil))
  refine spec0 hfns (by kernel_rfl) Tryz.func28 (by kernel_rfl) (by kernel_rfl) (by kernel_rfl) 4 _ _ (.bool) ?_
  clear hfns
  generalize hEE : env0 [(34, .spec (mkSpec real [.int .i64, .word, .word] (s_rMod ropsRt))), (26, .spec (mkSpec real [.int .i64, .word, .word] (s_rRem ropsRt)))] = EE
  intro l r hl hr
  simp only [Forms, Form] at hl
  obtain rfl := hl
  subst hEE
  generalize hK : kR (.bool) r = K
  generalize hO : real = O
  generalize hS0 : rops = S0
  generalize hS1 : ropsB = S1
  generalize hS2 : ropsC = S2
  generalize hS3 : ropsD = S3
  generalize hS4 : ropsE = S4
  generalize hS5 : ropsF = S5
  generalize hS6 : ropsG = S6
  generalize hS7 : ropsH = S7
  generalize hS8 : ropsI = S8
  generalize hS9 : ropsJ = S9
  generalize hS10 : ropsK = S10
  generalize hS11 : ropsL = S11
  generalize hS12 : ropsM = S12
  generalize hS13 : ropsN = S13
  generalize hS14 : ropsP = S14
  generalize hS15 : ropsQ = S15
  generalize hS16 : ropsDv = S16
  generalize hS17 : ropsRm = S17
  generalize hS18 : ropsRs = S18
  generalize hS19 : ropsT = S19
  generalize hS20 : ropsU = S20
  generalize hS21 : ropsV = S21
  generalize hS22 : ropsRt = S22
  generalize hS23 : ropsQs = S23
  generalize hS24 : ropsRf = S24
  generalize hS25 : ropsRl = S25
  set_option maxRecDepth 100000 in cbv
  subst hO hK hS0 hS1 hS2 hS3 hS4 hS5 hS6 hS7 hS8 hS9 hS10 hS11 hS12 hS13 hS14 hS15 hS16 hS17 hS18 hS19 hS20 hS21 hS22 hS23 hS24 hS25
  simp only [s_awake31, R.Y] at hr
  subst hr
  try dsimp only [real, rops, ropsB, ropsC, ropsD, ropsE, ropsF, ropsG, ropsH, ropsI, ropsJ, ropsK, ropsL, ropsM, ropsN, ropsP, ropsQ, ropsDv, ropsRm, ropsRs, ropsT, ropsU, ropsV, ropsRt, ropsQs, ropsRf, ropsRl]
  simp only [kb_t, kb_lt, kb_lf]; decide +kernel
end Go.LE