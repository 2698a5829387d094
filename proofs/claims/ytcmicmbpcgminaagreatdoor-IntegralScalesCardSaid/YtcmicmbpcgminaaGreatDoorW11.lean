import Derived.Test.YtcmicmbpcgminaaGreatDoorW10
import Derived.Test.YtcmicmbpcgminaaGreatDoorLeN
import Derived.Test.YtcmicmbpcgminaaGreatDoorLeO
set_option linter.unusedVariables false
set_option linter.unusedSimpArgs false
namespace Go.LE
open Go Go.Proofs
structure OpsE where
  fin : Int → BitVec 128 → Bool
  nan : Int → BitVec 128 → Bool
  isC : Int → BitVec 128 → Int → Prop
  isN : Int → BitVec 128 → Bool → Prop
noncomputable def ropsE : OpsE where
  fin := wFin
  nan := wNaN
  isC := fun f w c => cls f w = c
  isN := fun f w b => wNeg f w = b
def s_awake06 (_ : OpsB) : List LV → R LV := fun _ => .ok (.bool true)
def s_ClassOf (_ : OpsB) : List LV → R LV := fun _ => .ok (.bool true)
def s_ClassSigns (_ : OpsB) : List LV → R LV := fun _ => .ok (.bool true)
def s_cFinite (S : OpsE) : List LV → R LV
  | [.int _ f, .word w] => .ok (.bool (S.fin f w))
  | _ => .fail
def s_cIsNaN (S : OpsE) : List LV → R LV
  | [.int _ f, .word w] => .ok (.bool (S.nan f w))
  | _ => .fail
def s_cOfL (c : Int) (S : OpsE) : List LV → R LV
  | [.int _ f, .word w] => .req (S.isC f w c) (.ok (.lit .i64 c))
  | _ => .fail
def s_class06L (c : Int) (S : OpsE) : List LV → R LV
  | [.int _ f, .word w] => .req (S.isC f w c) (.ok (.lit .i64 c))
  | _ => .fail
def s_cNegL (b : Bool) (S : OpsE) : List LV → R LV
  | [.int _ f, .word w] => .req (S.isN f w b) (.ok (.blit b))
  | _ => .fail
def s_neg06L (b : Bool) (S : OpsE) : List LV → R LV
  | [.int _ f, .word w] => .req (S.isN f w b) (.ok (.blit b))
  | _ => .fail
def s_cFiniteL (c : Int) (S : OpsE) : List LV → R LV
  | [.int _ f, .word w] => .req (S.isC f w c) (.ok (.blit (decide (c ≥ 4))))
  | _ => .fail
def s_cIsNaNL (c : Int) (S : OpsE) : List LV → R LV
  | [.int _ f, .word w] => .req (S.isC f w c) (.ok (.blit (decide (c = 1 ∨ c = 2))))
  | _ => .fail
def s_ClassOfAt (c : Int) (b : Bool) (S : OpsE) : List LV → R LV
  | [.int _ f, .word w] => .req (S.isC f w c ∧ S.isN f w b) (.ok (.bool true))
  | _ => .fail
theorem p_cFinite : SpecOk Tryz.prog globs 52 (mkSpec real [.int .i64, .word] (s_cFinite ropsE)) := by
  have hfns : FnsOk Tryz.prog globs [(95, .spec (mkSpec real [.int .i64, .word] (s_cOf ropsC)))] := (fnsCons (fnSpec (p_cOf)) fnsNil)
  refine spec0 hfns (by kernel_rfl) Tryz.func52 (by kernel_rfl) (by kernel_rfl) (by kernel_rfl) 4 _ _ (.bool) ?_
  clear hfns
  generalize hEE : env0 [(95, .spec (mkSpec real [.int .i64, .word] (s_cOf ropsC)))] = EE
  intro l r hl hr
  simp only [Forms, Form] at hl
  obtain ⟨_, _, rfl, ⟨x1, rfl, x1lo, x1hi⟩, _, _, rfl, ⟨x2, rfl⟩, rfl⟩ := hl
  subst hEE
  generalize hK : kR (.bool) r = K
  generalize hO : real = O
  generalize hS0 : rops = S0
  generalize hS1 : ropsB = S1
  generalize hS2 : ropsC = S2
  generalize hS3 : ropsD = S3
  generalize hS4 : ropsE = S4
  set_option maxRecDepth 100000 in cbv
  subst hO hK hS0 hS1 hS2 hS3 hS4
  simp only [s_cFinite, R.Y] at hr
  subst hr
  try dsimp only [real, rops, ropsB, ropsC, ropsD, ropsE]
  simp only [kR, canon, canons, ekEq, numE, getW, getWord, allInts8, asInt, isK, kindEq, isArgB, strOf, cBig, cInts, cWords, allInts, allWords, r_ofLimbs, r_mkWord, Option.some.injEq, LV.wide.injEq, LV.word.injEq, LV.int.injEq, LV.bool.injEq, LV.str.injEq, LV.big.injEq, LV.tup.injEq, LV.agg.injEq, List.cons.injEq, and_true, true_and]
  rfl
theorem p_cIsNaN : SpecOk Tryz.prog globs 148 (mkSpec real [.int .i64, .word] (s_cIsNaN ropsE)) := by
  have hfns : FnsOk Tryz.prog globs [(95, .spec (mkSpec real [.int .i64, .word] (s_cOf ropsC)))] := (fnsCons (fnSpec (p_cOf)) fnsNil)
  refine spec0 hfns (by kernel_rfl) Tryz.func148 (by kernel_rfl) (by kernel_rfl) (by kernel_rfl) 4 _ _ (.bool) ?_
  clear hfns
  generalize hEE : env0 [(95, .spec (mkSpec real [.int .i64, .word] (s_cOf ropsC)))] = EE
  intro l r hl hr
  simp only [Forms, Form] at hl
  obtain ⟨_, _, rfl, ⟨x1, rfl, x1lo, x1hi⟩, _, _, rfl, ⟨x2, rfl⟩, rfl⟩ := hl
  subst hEE
  generalize hK : kR (.bool) r = K
  generalize hO : real = O
  generalize hS0 : rops = S0
  generalize hS1 : ropsB = S1
  generalize hS2 : ropsC = S2
  generalize hS3 : ropsD = S3
  generalize hS4 : ropsE = S4
  set_option maxRecDepth 100000 in cbv
  subst hO hK hS0 hS1 hS2 hS3 hS4
  simp only [s_cIsNaN, R.Y] at hr
  subst hr
  try dsimp only [real, rops, ropsB, ropsC, ropsD, ropsE]
  repeat' (first | apply And.intro | (refine imp_f fun _ => ?_) | (refine imp_t fun _ => ?_))
  all_goals (try simp only [c_eql_t, c_eql_f, c_neq_t, c_neq_f, c_lss_t, c_lss_f, c_leq_t, c_leq_f, c_gtr_t, c_gtr_f, c_geq_t, c_geq_f] at *)
  all_goals (simp only [kR, canon, canons, ekEq, numE, getW, getWord, allInts8, asInt, isK, kindEq, isArgB, strOf, cBig, cInts, cWords, allInts, allWords, r_ofLimbs, r_mkWord, Option.some.injEq, LV.wide.injEq, LV.word.injEq, LV.int.injEq, LV.bool.injEq, LV.str.injEq, LV.big.injEq, LV.tup.injEq, LV.agg.injEq, List.cons.injEq, and_true, true_and]; unfold wNaN)
  · rw [decide_eq_true (Or.inl (by assumption))]
  · rename_i h
    by_cases h2 : cls x1 x2 = 2
    · rw [decide_eq_true (Or.inr h2), c_eql_t]; exact h2
    · rw [decide_eq_false (by omega), c_eql_f]; exact h2
theorem p_cOfL (c : Int) : SpecOk Tryz.prog globs 95 (mkSpec real [.int .i64, .word] (s_cOfL c ropsE)) := by
  refine spec_as p_cOf ?_
  intro l r h
  unfold s_cOfL at h
  split at h
  · obtain ⟨h1, rfl⟩ := h
    refine ⟨_, rfl, ?_⟩
    have h1 : cls _ _ = c := h1; rw [← h1]; exact same_lit _ _
  · exact h.elim
theorem p_class06L (c : Int) : SpecOk Tryz.prog globs 9 (mkSpec real [.int .i64, .word] (s_class06L c ropsE)) := by
  refine spec_as p_class06 ?_
  intro l r h
  unfold s_class06L at h
  split at h
  · obtain ⟨h1, rfl⟩ := h
    refine ⟨_, rfl, ?_⟩
    have h1 : cls _ _ = c := h1; rw [← h1]; exact same_lit _ _
  · exact h.elim
theorem p_cNegL (b : Bool) : SpecOk Tryz.prog globs 94 (mkSpec real [.int .i64, .word] (s_cNegL b ropsE)) := by
  refine spec_as p_cNeg ?_
  intro l r h
  unfold s_cNegL at h
  split at h
  · obtain ⟨h1, rfl⟩ := h
    refine ⟨_, rfl, ?_⟩
    have h1 : wNeg _ _ = b := h1; rw [← h1]; exact same_blit _
  · exact h.elim
theorem p_neg06L (b : Bool) : SpecOk Tryz.prog globs 32 (mkSpec real [.int .i64, .word] (s_neg06L b ropsE)) := by
  refine spec_as p_neg06 ?_
  intro l r h
  unfold s_neg06L at h
  split at h
  · obtain ⟨h1, rfl⟩ := h
    refine ⟨_, rfl, ?_⟩
    have h1 : wNeg _ _ = b := h1; rw [← h1]; exact same_blit _
  · exact h.elim
theorem p_cFiniteL (c : Int) : SpecOk Tryz.prog globs 52 (mkSpec real [.int .i64, .word] (s_cFiniteL c ropsE)) := by
  refine spec_as p_cFinite ?_
  intro l r h
  unfold s_cFiniteL at h
  split at h
  · obtain ⟨h1, rfl⟩ := h
    refine ⟨_, rfl, ?_⟩
    have h1 : cls _ _ = c := h1; rw [← h1]; exact same_blit _
  · exact h.elim
theorem p_cIsNaNL (c : Int) : SpecOk Tryz.prog globs 148 (mkSpec real [.int .i64, .word] (s_cIsNaNL c ropsE)) := by
  refine spec_as p_cIsNaN ?_
  intro l r h
  unfold s_cIsNaNL at h
  split at h
  · obtain ⟨h1, rfl⟩ := h
    refine ⟨_, rfl, ?_⟩
    have h1 : cls _ _ = c := h1; rw [← h1]; exact same_blit _
  · exact h.elim
end Go.LE
namespace Go.LE
open Go Go.Proofs
structure OpsF where
  high : Int → Int
  q : Int → BitVec 128 → BitVec 128
  pay : Int → BitVec 128 → W
  nan : Int → BitVec 128 → Bool
noncomputable def ropsF : OpsF where
  high := fun f => arithR .sub .i64 (fPrec f) 2
  q := qW
  pay := payW
  nan := wNaN
def s_high (S : OpsF) : List LV → R LV
  | [.int _ f] => .ok (.int .i64 (S.high f))
  | _ => .fail
def s_quieted (S : OpsF) : List LV → R LV
  | [.int _ f, .word w] => .ok (.word (S.q f w))
  | _ => .fail
def s_quieted10 (S : OpsF) : List LV → R LV
  | [.int _ f, .word w] => .ok (.word (S.q f w))
  | _ => .fail
def s_payload (S : OpsF) : List LV → R LV
  | [.int _ f, .word w] => .ok (.tup [.wide (S.pay f w), .bool (S.nan f w)])
  | _ => .fail
theorem p_high : SpecOk Tryz.prog globs 175 (mkSpec real [.int .i64] (s_high ropsF)) := by
  have hfns : FnsOk Tryz.prog globs [(79, .spec (mkSpec real [.int .i64] (s_fmtOf rops)))] := (fnsCons (fnSpec (p_fmtOf)) fnsNil)
  refine spec0 hfns (by kernel_rfl) Tryz.func175 (by kernel_rfl) (by kernel_rfl) (by kernel_rfl) 4 _ _ (.int .i64) ?_
  clear hfns
  generalize hEE : env0 [(79, .spec (mkSpec real [.int .i64] (s_fmtOf rops)))] = EE
  intro l r hl hr
  simp only [Forms, Form] at hl
  obtain ⟨_, _, rfl, ⟨x1, rfl, x1lo, x1hi⟩, rfl⟩ := hl
  subst hEE
  generalize hK : kR (.int .i64) r = K
  generalize hO : real = O
  generalize hS0 : rops = S0
  generalize hS1 : ropsB = S1
  generalize hS2 : ropsC = S2
  generalize hS3 : ropsD = S3
  generalize hS4 : ropsE = S4
  generalize hS5 : ropsF = S5
  set_option maxRecDepth 100000 in cbv
  subst hO hK hS0 hS1 hS2 hS3 hS4 hS5
  simp only [s_high, R.Y] at hr
  subst hr
  try dsimp only [real, rops, ropsB, ropsC, ropsD, ropsE, ropsF]
  simp only [kR, canon, canons, ekEq, numE, getW, getWord, allInts8, asInt, isK, kindEq, isArgB, strOf, cBig, cInts, cWords, allInts, allWords, r_ofLimbs, r_mkWord, Option.some.injEq, LV.wide.injEq, LV.word.injEq, LV.int.injEq, LV.bool.injEq, LV.str.injEq, LV.big.injEq, LV.tup.injEq, LV.agg.injEq, List.cons.injEq, and_true, true_and]
theorem p_quieted : SpecOk Tryz.prog globs 151 (mkSpec real [.int .i64, .word] (s_quieted ropsF)) := by
  have hfns : FnsOk Tryz.prog globs [(95, .spec (mkSpec real [.int .i64, .word] (s_cOf ropsC))), (136, .spec (mkSpec real [.word] (s_from rops))), (175, .spec (mkSpec real [.int .i64] (s_high ropsF))), (86, .spec (mkSpec real [.int .i64] (s_power rops))), (124, .spec (mkSpec real [.wide, .wide] (s_wAdd rops))), (133, .spec (mkSpec real [.wide] (s_low rops)))] := (fnsCons (fnSpec (p_cOf)) (fnsCons (fnSpec (p_from)) (fnsCons (fnSpec (p_high)) (fnsCons (fnSpec (p_power)) (fnsCons (fnSpec (p_wAdd)) (fnsCons (fnSpec (p_low)) fnsNil))))))
  refine spec0 hfns (by kernel_rfl) Tryz.func151 (by kernel_rfl) (by kernel_rfl) (by kernel_rfl) 4 _ _ (.word) ?_
  clear hfns
  generalize hEE : env0 [(95, .spec (mkSpec real [.int .i64, .word] (s_cOf ropsC))), (136, .spec (mkSpec real [.word] (s_from rops))), (175, .spec (mkSpec real [.int .i64] (s_high ropsF))), (86, .spec (mkSpec real [.int .i64] (s_power rops))), (124, .spec (mkSpec real [.wide, .wide] (s_wAdd rops))), (133, .spec (mkSpec real [.wide] (s_low rops)))] = EE
  intro l r hl hr
  simp only [Forms, Form] at hl
  obtain ⟨_, _, rfl, ⟨x1, rfl, x1lo, x1hi⟩, _, _, rfl, ⟨x2, rfl⟩, rfl⟩ := hl
  subst hEE
  generalize hK : kR (.word) r = K
  generalize hO : real = O
  generalize hS0 : rops = S0
  generalize hS1 : ropsB = S1
  generalize hS2 : ropsC = S2
  generalize hS3 : ropsD = S3
  generalize hS4 : ropsE = S4
  generalize hS5 : ropsF = S5
  set_option maxRecDepth 100000 in cbv
  subst hO hK hS0 hS1 hS2 hS3 hS4 hS5
  simp only [s_quieted, R.Y] at hr
  subst hr
  try dsimp only [real, rops, ropsB, ropsC, ropsD, ropsE, ropsF]
  refine ⟨imp_f fun h => ?_, imp_t fun h => ?_⟩
  · rw [c_neq_t] at h
    simp only [kR, canon, canons, ekEq, numE, getW, getWord, allInts8, asInt, isK, kindEq, isArgB, strOf, cBig, cInts, cWords, allInts, allWords, r_ofLimbs, r_mkWord, Option.some.injEq, LV.wide.injEq, LV.word.injEq, LV.int.injEq, LV.bool.injEq, LV.str.injEq, LV.big.injEq, LV.tup.injEq, LV.agg.injEq, List.cons.injEq, and_true, true_and]
    exact (q_other h).symm
  · rw [c_neq_f] at h
    simp only [kR, canon, canons, ekEq, numE, getW, getWord, allInts8, asInt, isK, kindEq, isArgB, strOf, cBig, cInts, cWords, allInts, allWords, r_ofLimbs, r_mkWord, Option.some.injEq, LV.wide.injEq, LV.word.injEq, LV.int.injEq, LV.bool.injEq, LV.str.injEq, LV.big.injEq, LV.tup.injEq, LV.agg.injEq, List.cons.injEq, and_true, true_and]
    have e := quiet_leaf h
    obtain ⟨hF, _⟩ := cls1 h
    unfold frW at e
    rw [(sub_prec (fits_lt hF).1).2.1]
    exact e
theorem p_quieted10 : SpecOk Tryz.prog globs 109 (mkSpec real [.int .i64, .word] (s_quieted10 ropsF)) := by
  have hfns : FnsOk Tryz.prog globs [(9, .spec (mkSpec real [.int .i64, .word] (s_class06 ropsC))), (43, .spec (mkSpec real [.int .i64] (s_prec rops)))] := (fnsCons (fnSpec (p_class06)) (fnsCons (fnSpec (p_prec)) fnsNil))
  refine spec0 hfns (by kernel_rfl) Tryz.func109 (by kernel_rfl) (by kernel_rfl) (by kernel_rfl) 4 _ _ (.word) ?_
  clear hfns
  generalize hEE : env0 [(9, .spec (mkSpec real [.int .i64, .word] (s_class06 ropsC))), (43, .spec (mkSpec real [.int .i64] (s_prec rops)))] = EE
  intro l r hl hr
  simp only [Forms, Form] at hl
  obtain ⟨_, _, rfl, ⟨x1, rfl, x1lo, x1hi⟩, _, _, rfl, ⟨x2, rfl⟩, rfl⟩ := hl
  subst hEE
  generalize hK : kR (.word) r = K
  generalize hO : real = O
  generalize hS0 : rops = S0
  generalize hS1 : ropsB = S1
  generalize hS2 : ropsC = S2
  generalize hS3 : ropsD = S3
  generalize hS4 : ropsE = S4
  generalize hS5 : ropsF = S5
  set_option maxRecDepth 100000 in cbv
  subst hO hK hS0 hS1 hS2 hS3 hS4 hS5
  simp only [s_quieted10, R.Y] at hr
  subst hr
  try dsimp only [real, rops, ropsB, ropsC, ropsD, ropsE, ropsF]
  refine ⟨imp_f fun h => ?_, imp_t fun h => ?_⟩
  · rw [c_neq_t] at h
    simp only [kR, canon, canons, ekEq, numE, getW, getWord, allInts8, asInt, isK, kindEq, isArgB, strOf, cBig, cInts, cWords, allInts, allWords, r_ofLimbs, r_mkWord, Option.some.injEq, LV.wide.injEq, LV.word.injEq, LV.int.injEq, LV.bool.injEq, LV.str.injEq, LV.big.injEq, LV.tup.injEq, LV.agg.injEq, List.cons.injEq, and_true, true_and]
    exact (q_other h).symm
  · rw [c_neq_f] at h
    obtain ⟨hF, _⟩ := cls1 h
    obtain ⟨hf, _⟩ := fits_lt hF
    have hp := p_rng x1 hf
    obtain ⟨e1, e2, e3⟩ := q_nat h
    have eq : qW x1 x2 = BitVec.ofNat 128 (x2.toNat + 2 ^ (fPrec x1 - 2).toNat) := by unfold qW; rw [if_pos h]
    rw [(sub_prec hf).2.1, eq]
    refine ⟨imp_f fun h2 => ?_, imp_t fun h2 => ?_⟩
    · rw [c_geq_t] at h2
      have e5 : arithR .sub .i64 (fPrec x1 - 2) 64 = fPrec x1 - 2 - 64 := sub_i64 (by omega) (by omega)
      rw [e5]
      refine ⟨by omega, ?_⟩
      simp only [kR, canon, canons, ekEq, numE, getW, getWord, allInts8, asInt, isK, kindEq, isArgB, strOf, cBig, cInts, cWords, allInts, allWords, r_ofLimbs, r_mkWord, Option.some.injEq, LV.wide.injEq, LV.word.injEq, LV.int.injEq, LV.bool.injEq, LV.str.injEq, LV.big.injEq, LV.tup.injEq, LV.agg.injEq, List.cons.injEq, and_true, true_and]
      have e6 : (64 + (fPrec x1 - 2 - 64)).toNat = (fPrec x1 - 2).toNat := by omega
      have := hi_add x2 (j := fPrec x1 - 2 - 64) ⟨by omega, by omega⟩ (by rw [e6]; exact e3)
      rw [e6] at this
      exact this
    · rw [c_geq_f] at h2
      refine ⟨by omega, ?_⟩
      simp only [kR, canon, canons, ekEq, numE, getW, getWord, allInts8, asInt, isK, kindEq, isArgB, strOf, cBig, cInts, cWords, allInts, allWords, r_ofLimbs, r_mkWord, Option.some.injEq, LV.wide.injEq, LV.word.injEq, LV.int.injEq, LV.bool.injEq, LV.str.injEq, LV.big.injEq, LV.tup.injEq, LV.agg.injEq, List.cons.injEq, and_true, true_and]
      exact lo_add x2 ⟨by omega, h2⟩ e3
theorem p_payload : SpecOk Tryz.prog globs 137 (mkSpec real [.int .i64, .word] (s_payload ropsF)) := by
  have hfns : FnsOk Tryz.prog globs [(148, .spec (mkSpec real [.int .i64, .word] (s_cIsNaN ropsE))), (123, .spec (mkSpec real [.int .i64, .word] (s_cFrac ropsC))), (175, .spec (mkSpec real [.int .i64] (s_high ropsF))), (127, .spec (mkSpec real [.wide, .int .i64] (s_wBit rops))), (86, .spec (mkSpec real [.int .i64] (s_power rops))), (85, .spec (mkSpec real [.wide, .wide] (s_wSub rops)))] := (fnsCons (fnSpec (p_cIsNaN)) (fnsCons (fnSpec (p_cFrac)) (fnsCons (fnSpec (p_high)) (fnsCons (fnSpec (p_wBit)) (fnsCons (fnSpec (p_power)) (fnsCons (fnSpec (p_wSub)) fnsNil))))))
  refine spec0 hfns (by kernel_rfl) Tryz.func137 (by kernel_rfl) (by kernel_rfl) (by kernel_rfl) 4 _ _ (.tup [.wide, .bool]) ?_
  clear hfns
  generalize hEE : env0 [(148, .spec (mkSpec real [.int .i64, .word] (s_cIsNaN ropsE))), (123, .spec (mkSpec real [.int .i64, .word] (s_cFrac ropsC))), (175, .spec (mkSpec real [.int .i64] (s_high ropsF))), (127, .spec (mkSpec real [.wide, .int .i64] (s_wBit rops))), (86, .spec (mkSpec real [.int .i64] (s_power rops))), (85, .spec (mkSpec real [.wide, .wide] (s_wSub rops)))] = EE
  intro l r hl hr
  simp only [Forms, Form] at hl
  obtain ⟨_, _, rfl, ⟨x1, rfl, x1lo, x1hi⟩, _, _, rfl, ⟨x2, rfl⟩, rfl⟩ := hl
  subst hEE
  generalize hK : kR (.tup [.wide, .bool]) r = K
  generalize hO : real = O
  generalize hS0 : rops = S0
  generalize hS1 : ropsB = S1
  generalize hS2 : ropsC = S2
  generalize hS3 : ropsD = S3
  generalize hS4 : ropsE = S4
  generalize hS5 : ropsF = S5
  set_option maxRecDepth 100000 in cbv
  subst hO hK hS0 hS1 hS2 hS3 hS4 hS5
  simp only [s_payload, R.Y] at hr
  subst hr
  try dsimp only [real, rops, ropsB, ropsC, ropsD, ropsE, ropsF]
  refine ⟨imp_f fun h => ?_, imp_t fun h => ?_⟩
  · have h : wNaN x1 x2 = false := by simpa using h
    simp only [kR, canon, canons, ekEq, numE, getW, getWord, allInts8, asInt, isK, kindEq, isArgB, strOf, cBig, cInts, cWords, allInts, allWords, r_ofLimbs, r_mkWord, Option.some.injEq, LV.wide.injEq, LV.word.injEq, LV.int.injEq, LV.bool.injEq, LV.str.injEq, LV.big.injEq, LV.tup.injEq, LV.agg.injEq, List.cons.injEq, and_true, true_and]
    exact ⟨by unfold payW; rw [h]; rfl, h.symm⟩
  · have h : wNaN x1 x2 = true := by simpa using h
    obtain ⟨hf, _⟩ := fits_lt (nan_fits h)
    obtain ⟨g1, g2⟩ := pay_leaf h
    rw [(sub_prec hf).2.1, frc_of_nan h]
    refine ⟨imp_f fun h2 => ?_, imp_t fun h2 => ?_⟩
    · simp only [kR, canon, canons, ekEq, numE, getW, getWord, allInts8, asInt, isK, kindEq, isArgB, strOf, cBig, cInts, cWords, allInts, allWords, r_ofLimbs, r_mkWord, Option.some.injEq, LV.wide.injEq, LV.word.injEq, LV.int.injEq, LV.bool.injEq, LV.str.injEq, LV.big.injEq, LV.tup.injEq, LV.agg.injEq, List.cons.injEq, and_true, true_and]
      exact ⟨g1 h2, h.symm⟩
    · simp only [kR, canon, canons, ekEq, numE, getW, getWord, allInts8, asInt, isK, kindEq, isArgB, strOf, cBig, cInts, cWords, allInts, allWords, r_ofLimbs, r_mkWord, Option.some.injEq, LV.wide.injEq, LV.word.injEq, LV.int.injEq, LV.bool.injEq, LV.str.injEq, LV.big.injEq, LV.tup.injEq, LV.agg.injEq, List.cons.injEq, and_true, true_and]
      exact ⟨g2 h2, h.symm⟩
structure OpsG where
  sig : Int → BitVec 128 → Bool
  idxN : Int → List (BitVec 128) → Int
  idxS : Int → List (BitVec 128) → Int
  anyS : Int → List (BitVec 128) → Bool
  nanV : Int → List (BitVec 128) → BitVec 128
  nanX : Int → List (BitVec 128) → Int
  nanIs : Int → List (BitVec 128) → Bool
noncomputable def ropsG : OpsG where
  sig := isSig
  idxN := fun f l => idxP (wNaN f) l
  idxS := fun f l => idxP (isSig f) l
  anyS := fun f l => l.any (isSig f)
  nanV := nanV
  nanX := nanX
  nanIs := nanIs
def s_of1 (S : OpsF) : List LV → R LV
  | [.word w, .cell (.int _ f)] => .ok (.bool (S.nan f w))
  | _ => .fail
def s_of2 (S : OpsG) : List LV → R LV
  | [.word w, .cell (.int _ f)] => .ok (.bool (S.sig f w))
  | _ => .fail
def s_idxN (S : OpsG) : List LV → R LV
  | [.words l, .fn _ [.cell (.int _ f)]] => .ok (.int .i64 (S.idxN f l))
  | _ => .fail
def s_idxS (S : OpsG) : List LV → R LV
  | [.words l, .fn _ [.cell (.int _ f)]] => .ok (.int .i64 (S.idxS f l))
  | _ => .fail
def s_anyS (S : OpsG) : List LV → R LV
  | [.words l, .fn _ [.cell (.int _ f)]] => .ok (.bool (S.anyS f l))
  | _ => .fail
def s_nanOf (S : OpsG) : List LV → R LV
  | [.int _ f, .words l] => .ok (.tup [.word (S.nanV f l), .int .i64 (S.nanX f l), .bool (S.nanIs f l)])
  | _ => .fail
theorem p_of1 : SpecOk Tryz.prog globs 147 (mkSpec real [.word, .cell (.int .i64)] (s_of1 ropsF)) := by
  have hfns : FnsOk Tryz.prog globs [(148, .spec (mkSpec real [.int .i64, .word] (s_cIsNaN ropsE)))] := (fnsCons (fnSpec (p_cIsNaN)) fnsNil)
  refine spec0 hfns (by kernel_rfl) Tryz.func147 (by kernel_rfl) (by kernel_rfl) (by kernel_rfl) 4 _ _ (.bool) ?_
  clear hfns
  generalize hEE : env0 [(148, .spec (mkSpec real [.int .i64, .word] (s_cIsNaN ropsE)))] = EE
  intro l r hl hr
  simp only [Forms, Form] at hl
  obtain ⟨_, _, rfl, ⟨x1, rfl⟩, _, _, rfl, ⟨_, rfl, ⟨x2, rfl, x2lo, x2hi⟩⟩, rfl⟩ := hl
  subst hEE
  generalize hK : kR (.bool) r = K
  generalize hO : real = O
  generalize hS0 : rops = S0
  generalize hS1 : ropsB = S1
  generalize hS2 : ropsC = S2
  generalize hS3 : ropsD = S3
  generalize hS4 : ropsE = S4
  generalize hS5 : ropsF = S5
  generalize hS6 : ropsG = S6
  set_option maxRecDepth 100000 in cbv
  subst hO hK hS0 hS1 hS2 hS3 hS4 hS5 hS6
  simp only [s_of1, R.Y] at hr
  subst hr
  try dsimp only [real, rops, ropsB, ropsC, ropsD, ropsE, ropsF, ropsG]
  simp only [kR, canon, canons, ekEq, numE, getW, getWord, allInts8, asInt, isK, kindEq, isArgB, strOf, cBig, cInts, cWords, allInts, allWords, r_ofLimbs, r_mkWord, Option.some.injEq, LV.wide.injEq, LV.word.injEq, LV.int.injEq, LV.bool.injEq, LV.str.injEq, LV.big.injEq, LV.tup.injEq, LV.agg.injEq, List.cons.injEq, and_true, true_and]
theorem sig_eq (f : Int) (w : BitVec 128) : cmpR .eql (cls f w) 1 = isSig f w := by
  unfold isSig
  by_cases h : cls f w = 1
  · rw [decide_eq_true h, c_eql_t]; exact h
  · rw [decide_eq_false h, c_eql_f]; exact h
theorem sig_nan {f : Int} {w : BitVec 128} (h : isSig f w = true) : wNaN f w = true := by
  have h1 : cls f w = 1 := by unfold isSig at h; exact of_decide_eq_true h
  unfold wNaN
  exact decide_eq_true (.inl h1)
theorem p_of2 : SpecOk Tryz.prog globs 150 (mkSpec real [.word, .cell (.int .i64)] (s_of2 ropsG)) := by
  have hfns : FnsOk Tryz.prog globs [(95, .spec (mkSpec real [.int .i64, .word] (s_cOf ropsC)))] := (fnsCons (fnSpec (p_cOf)) fnsNil)
  refine spec0 hfns (by kernel_rfl) Tryz.func150 (by kernel_rfl) (by kernel_rfl) (by kernel_rfl) 4 _ _ (.bool) ?_
  clear hfns
  generalize hEE : env0 [(95, .spec (mkSpec real [.int .i64, .word] (s_cOf ropsC)))] = EE
  intro l r hl hr
  simp only [Forms, Form] at hl
  obtain ⟨_, _, rfl, ⟨x1, rfl⟩, _, _, rfl, ⟨_, rfl, ⟨x2, rfl, x2lo, x2hi⟩⟩, rfl⟩ := hl
  subst hEE
  generalize hK : kR (.bool) r = K
  generalize hO : real = O
  generalize hS0 : rops = S0
  generalize hS1 : ropsB = S1
  generalize hS2 : ropsC = S2
  generalize hS3 : ropsD = S3
  generalize hS4 : ropsE = S4
  generalize hS5 : ropsF = S5
  generalize hS6 : ropsG = S6
  set_option maxRecDepth 100000 in cbv
  subst hO hK hS0 hS1 hS2 hS3 hS4 hS5 hS6
  simp only [s_of2, R.Y] at hr
  subst hr
  try dsimp only [real, rops, ropsB, ropsC, ropsD, ropsE, ropsF, ropsG]
  simp only [kR, canon, canons, ekEq, numE, getW, getWord, allInts8, asInt, isK, kindEq, isArgB, strOf, cBig, cInts, cWords, allInts, allWords, r_ofLimbs, r_mkWord, Option.some.injEq, LV.wide.injEq, LV.word.injEq, LV.int.injEq, LV.bool.injEq, LV.str.injEq, LV.big.injEq, LV.tup.injEq, LV.agg.injEq, List.cons.injEq, and_true, true_and]
  exact sig_eq _ _
theorem p_idxN : SpecOk Tryz.prog globs 146 (mkSpec real [.words, .fnc 147 [.cell (.int .i64)]] (s_idxN ropsG)) := by
  have hfns : FnsOk Tryz.prog globs [(147, .spec (mkSpec real [.word, .cell (.int .i64)] (s_of1 ropsF)))] := (fnsCons (fnSpec (p_of1)) fnsNil)
  refine specL (fun _ => [0,1,7,8]) hfns (by kernel_rfl) Tryz.func146 (by kernel_rfl) (by kernel_rfl) (by kernel_rfl) 4 _ _ (.int .i64) ?_
  clear hfns
  generalize hEE : envL (fun _ => [0,1,7,8]) [(147, .spec (mkSpec real [.word, .cell (.int .i64)] (s_of1 ropsF)))] = EE
  intro l r hl hr
  simp only [Forms, Form] at hl
  obtain ⟨_, _, rfl, ⟨x1, rfl, x1len⟩, _, _, rfl, ⟨_, rfl, ⟨_, _, rfl, ⟨_, rfl, ⟨x2_1, rfl, x2_1lo, x2_1hi⟩⟩, rfl⟩⟩, rfl⟩ := hl
  subst hEE
  generalize hK : kR (.int .i64) r = K
  generalize hO : real = O
  generalize hS0 : rops = S0
  generalize hS1 : ropsB = S1
  generalize hS2 : ropsC = S2
  generalize hS3 : ropsD = S3
  generalize hS4 : ropsE = S4
  generalize hS5 : ropsF = S5
  generalize hS6 : ropsG = S6
  set_option maxRecDepth 100000 in cbv
  have hr : r = _ := hr.symm
  subst hO hK hS0 hS1 hS2 hS3 hS4 hS5 hS6
  subst hr
  refine loop_rule (α := Int × Int) (fun p => ⟨[.words x1, .fn 147 [.cell (.int .i64 x2_1)], .undef, .undef, .undef, .undef, .undef, .int .i64 p.1, .int .i64 p.2, .undef, .undef, .undef, .undef, .undef, .undef, .undef, .undef, .undef, .undef], ofL [none, none, none, none], 4⟩)
    (fun m p => p.1 = ((x1.length : Nat) : Int) ∧ 0 ≤ p.2 ∧ p.2 ≤ p.1 ∧ (∀ j : Nat, (j : Int) < p.2 → wNaN x2_1 (x1.getD j 0#128) = false) ∧ p.1 - p.2 ≤ (m : Int)) ?_ x1.length (real.lenW x1, 0) ⟨rfl, Int.le_refl _, Int.natCast_nonneg _, fun j h => by simp only at h; omega, by show ((x1.length : Nat) : Int) - 0 ≤ _; omega⟩
  rintro m ⟨n, i⟩ X ⟨h0, h1, h2, h3, h4⟩ hX
  simp only at h0 h1 h2 h3 h4
  (generalize hK : kR _ _ = K; generalize hO : real = O; generalize hS0 : rops = S0; generalize hS1 : ropsB = S1; generalize hS2 : ropsC = S2; generalize hS3 : ropsD = S3; generalize hS4 : ropsE = S4; generalize hS5 : ropsF = S5; generalize hS6 : ropsG = S6; set_option maxRecDepth 100000 in cbv; subst hO hK hS0 hS1 hS2 hS3 hS4 hS5 hS6; dsimp only [real, rops, ropsB, ropsC, ropsD, ropsE, ropsF, ropsG])
  have h5 : n - i ≤ ((m : Nat) : Int) := h4
  have h10 : n = ((x1.length : Nat) : Int) := h0
  clear h0
  have h7 : ((x1.length : Nat) : Int) < 4611686018427387904 := x1len
  have h9 : ∀ j : Nat, ((j : Nat) : Int) < i → wNaN x2_1 (x1.getD j 0#128) = false := h3
  clear h4 x1len h3
  refine ⟨imp_f fun h => ?_, imp_t fun h => ?_⟩
  · rw [c_lss_t] at h
    have h8 : i < ((x1.length : Nat) : Int) := by omega
    refine ⟨⟨h1, h8⟩, imp_f fun hb => ?_, imp_t fun hb => ?_⟩
    · simp only [kR, canon, isK, asInt, kindEq, Option.some.injEq, LV.int.injEq, true_and]
      exact (idxP_at h1 h8 h9 hb).symm
    · have g3 : arithR .add .i64 i 1 = i + 1 := add_i64 (by omega) (by omega)
      have hm : m = (m - 1) + 1 := by omega
      have hc : n - (i + 1) ≤ ((m - 1 : Nat) : Int) := by omega
      have hz : ∀ j : Nat, ((j : Nat) : Int) < i + 1 → wNaN x2_1 (x1.getD j 0#128) = false := fun j hj => by
        by_cases hji : ((j : Nat) : Int) = i
        · have e : j = i.toNat := by omega
          rw [e]; exact hb
        · exact h9 j (by omega)
      have := hX (m - 1) (n, i + 1) hm ⟨h10, by show 0 ≤ i + 1; omega, by show i + 1 ≤ n; omega, hz, hc⟩
      rw [g3]
      exact this
  · rw [c_lss_f] at h
    simp only [kR, canon, isK, asInt, kindEq, Option.some.injEq, LV.int.injEq, true_and]
    exact (idxP_none fun j hj => h9 j (by omega)).2.symm
theorem p_idxS : SpecOk Tryz.prog globs 146 (mkSpec real [.words, .fnc 150 [.cell (.int .i64)]] (s_idxS ropsG)) := by
  have hfns : FnsOk Tryz.prog globs [(150, .spec (mkSpec real [.word, .cell (.int .i64)] (s_of2 ropsG)))] := (fnsCons (fnSpec (p_of2)) fnsNil)
  refine specL (fun _ => [0,1,7,8]) hfns (by kernel_rfl) Tryz.func146 (by kernel_rfl) (by kernel_rfl) (by kernel_rfl) 4 _ _ (.int .i64) ?_
  clear hfns
  generalize hEE : envL (fun _ => [0,1,7,8]) [(150, .spec (mkSpec real [.word, .cell (.int .i64)] (s_of2 ropsG)))] = EE
  intro l r hl hr
  simp only [Forms, Form] at hl
  obtain ⟨_, _, rfl, ⟨x1, rfl, x1len⟩, _, _, rfl, ⟨_, rfl, ⟨_, _, rfl, ⟨_, rfl, ⟨x2_1, rfl, x2_1lo, x2_1hi⟩⟩, rfl⟩⟩, rfl⟩ := hl
  subst hEE
  generalize hK : kR (.int .i64) r = K
  generalize hO : real = O
  generalize hS0 : rops = S0
  generalize hS1 : ropsB = S1
  generalize hS2 : ropsC = S2
  generalize hS3 : ropsD = S3
  generalize hS4 : ropsE = S4
  generalize hS5 : ropsF = S5
  generalize hS6 : ropsG = S6
  set_option maxRecDepth 100000 in cbv
  have hr : r = _ := hr.symm
  subst hO hK hS0 hS1 hS2 hS3 hS4 hS5 hS6
  subst hr
  refine loop_rule (α := Int × Int) (fun p => ⟨[.words x1, .fn 150 [.cell (.int .i64 x2_1)], .undef, .undef, .undef, .undef, .undef, .int .i64 p.1, .int .i64 p.2, .undef, .undef, .undef, .undef, .undef, .undef, .undef, .undef, .undef, .undef], ofL [none, none, none, none], 4⟩)
    (fun m p => p.1 = ((x1.length : Nat) : Int) ∧ 0 ≤ p.2 ∧ p.2 ≤ p.1 ∧ (∀ j : Nat, (j : Int) < p.2 → isSig x2_1 (x1.getD j 0#128) = false) ∧ p.1 - p.2 ≤ (m : Int)) ?_ x1.length (real.lenW x1, 0) ⟨rfl, Int.le_refl _, Int.natCast_nonneg _, fun j h => by simp only at h; omega, by show ((x1.length : Nat) : Int) - 0 ≤ _; omega⟩
  rintro m ⟨n, i⟩ X ⟨h0, h1, h2, h3, h4⟩ hX
  simp only at h0 h1 h2 h3 h4
  (generalize hK : kR _ _ = K; generalize hO : real = O; generalize hS0 : rops = S0; generalize hS1 : ropsB = S1; generalize hS2 : ropsC = S2; generalize hS3 : ropsD = S3; generalize hS4 : ropsE = S4; generalize hS5 : ropsF = S5; generalize hS6 : ropsG = S6; set_option maxRecDepth 100000 in cbv; subst hO hK hS0 hS1 hS2 hS3 hS4 hS5 hS6; dsimp only [real, rops, ropsB, ropsC, ropsD, ropsE, ropsF, ropsG])
  have h5 : n - i ≤ ((m : Nat) : Int) := h4
  have h10 : n = ((x1.length : Nat) : Int) := h0
  clear h0
  have h7 : ((x1.length : Nat) : Int) < 4611686018427387904 := x1len
  have h9 : ∀ j : Nat, ((j : Nat) : Int) < i → isSig x2_1 (x1.getD j 0#128) = false := h3
  clear h4 x1len h3
  refine ⟨imp_f fun h => ?_, imp_t fun h => ?_⟩
  · rw [c_lss_t] at h
    have h8 : i < ((x1.length : Nat) : Int) := by omega
    refine ⟨⟨h1, h8⟩, imp_f fun hb => ?_, imp_t fun hb => ?_⟩
    · simp only [kR, canon, isK, asInt, kindEq, Option.some.injEq, LV.int.injEq, true_and]
      exact (idxP_at h1 h8 h9 hb).symm
    · have g3 : arithR .add .i64 i 1 = i + 1 := add_i64 (by omega) (by omega)
      have hm : m = (m - 1) + 1 := by omega
      have hc : n - (i + 1) ≤ ((m - 1 : Nat) : Int) := by omega
      have hz : ∀ j : Nat, ((j : Nat) : Int) < i + 1 → isSig x2_1 (x1.getD j 0#128) = false := fun j hj => by
        by_cases hji : ((j : Nat) : Int) = i
        · have e : j = i.toNat := by omega
          rw [e]; exact hb
        · exact h9 j (by omega)
      have := hX (m - 1) (n, i + 1) hm ⟨h10, by show 0 ≤ i + 1; omega, by show i + 1 ≤ n; omega, hz, hc⟩
      rw [g3]
      exact this
  · rw [c_lss_f] at h
    simp only [kR, canon, isK, asInt, kindEq, Option.some.injEq, LV.int.injEq, true_and]
    exact (idxP_none fun j hj => h9 j (by omega)).2.symm
theorem p_anyS : SpecOk Tryz.prog globs 149 (mkSpec real [.words, .fnc 150 [.cell (.int .i64)]] (s_anyS ropsG)) := by
  have hfns : FnsOk Tryz.prog globs [(146, .spec (mkSpec real [.words, .fnc 150 [.cell (.int .i64)]] (s_idxS ropsG)))] := (fnsCons (fnSpec (p_idxS)) fnsNil)
  refine spec0 hfns (by kernel_rfl) Tryz.func149 (by kernel_rfl) (by kernel_rfl) (by kernel_rfl) 4 _ _ (.bool) ?_
  clear hfns
  generalize hEE : env0 [(146, .spec (mkSpec real [.words, .fnc 150 [.cell (.int .i64)]] (s_idxS ropsG)))] = EE
  intro l r hl hr
  simp only [Forms, Form] at hl
  obtain ⟨_, _, rfl, ⟨x1, rfl, x1len⟩, _, _, rfl, ⟨_, rfl, ⟨_, _, rfl, ⟨_, rfl, ⟨x2_1, rfl, x2_1lo, x2_1hi⟩⟩, rfl⟩⟩, rfl⟩ := hl
  subst hEE
  generalize hK : kR (.bool) r = K
  generalize hO : real = O
  generalize hS0 : rops = S0
  generalize hS1 : ropsB = S1
  generalize hS2 : ropsC = S2
  generalize hS3 : ropsD = S3
  generalize hS4 : ropsE = S4
  generalize hS5 : ropsF = S5
  generalize hS6 : ropsG = S6
  set_option maxRecDepth 100000 in cbv
  subst hO hK hS0 hS1 hS2 hS3 hS4 hS5 hS6
  simp only [s_anyS, R.Y] at hr
  subst hr
  try dsimp only [real, rops, ropsB, ropsC, ropsD, ropsE, ropsF, ropsG]
  simp only [kR, canon, canons, ekEq, numE, getW, getWord, allInts8, asInt, isK, kindEq, isArgB, strOf, cBig, cInts, cWords, allInts, allWords, r_ofLimbs, r_mkWord, Option.some.injEq, LV.wide.injEq, LV.word.injEq, LV.int.injEq, LV.bool.injEq, LV.str.injEq, LV.big.injEq, LV.tup.injEq, LV.agg.injEq, List.cons.injEq, and_true, true_and]
  rcases idxP_rng (isSig x2_1) x1 with ⟨h1, h2, _⟩ | ⟨h1, h2⟩
  · rw [h1, c_geq_t]; exact h2
  · rw [h1, h2]; rfl
theorem p_nanOf : SpecOk Tryz.prog globs 96 (mkSpec real [.int .i64, .words] (s_nanOf ropsG)) := by
  have hfns : FnsOk Tryz.prog globs [(146, .spec (mkSpec real [.words, .fnc 147 [.cell (.int .i64)]] (s_idxN ropsG))), (149, .spec (mkSpec real [.words, .fnc 150 [.cell (.int .i64)]] (s_anyS ropsG))), (151, .spec (mkSpec real [.int .i64, .word] (s_quieted ropsF)))] := (fnsCons (fnSpec (p_idxN)) (fnsCons (fnSpec (p_anyS)) (fnsCons (fnSpec (p_quieted)) fnsNil)))
  refine spec0 hfns (by kernel_rfl) Tryz.func96 (by kernel_rfl) (by kernel_rfl) (by kernel_rfl) 4 _ _ (.tup [.word, .int .i64, .bool]) ?_
  clear hfns
  generalize hEE : env0 [(146, .spec (mkSpec real [.words, .fnc 147 [.cell (.int .i64)]] (s_idxN ropsG))), (149, .spec (mkSpec real [.words, .fnc 150 [.cell (.int .i64)]] (s_anyS ropsG))), (151, .spec (mkSpec real [.int .i64, .word] (s_quieted ropsF)))] = EE
  intro l r hl hr
  simp only [Forms, Form] at hl
  obtain ⟨_, _, rfl, ⟨x1, rfl, x1lo, x1hi⟩, _, _, rfl, ⟨x2, rfl, x2len⟩, rfl⟩ := hl
  subst hEE
  generalize hK : kR (.tup [.word, .int .i64, .bool]) r = K
  generalize hO : real = O
  generalize hS0 : rops = S0
  generalize hS1 : ropsB = S1
  generalize hS2 : ropsC = S2
  generalize hS3 : ropsD = S3
  generalize hS4 : ropsE = S4
  generalize hS5 : ropsF = S5
  generalize hS6 : ropsG = S6
  set_option maxRecDepth 100000 in cbv
  subst hO hK hS0 hS1 hS2 hS3 hS4 hS5 hS6
  simp only [s_nanOf, R.Y] at hr
  subst hr
  try dsimp only [real, rops, ropsB, ropsC, ropsD, ropsE, ropsF, ropsG]
  refine ⟨imp_f fun h => ?_, imp_t fun h => ?_⟩
  · rw [c_lss_t] at h
    simp only [kR, canon, canons, ekEq, numE, getW, getWord, allInts8, asInt, isK, kindEq, isArgB, strOf, cBig, cInts, cWords, allInts, allWords, r_ofLimbs, r_mkWord, Option.some.injEq, LV.wide.injEq, LV.word.injEq, LV.int.injEq, LV.bool.injEq, LV.str.injEq, LV.big.injEq, LV.tup.injEq, LV.agg.injEq, List.cons.injEq, and_true, true_and]
    rcases idxP_rng (wNaN x1) x2 with ⟨_, h2, _⟩ | ⟨h1, _⟩
    · omega
    · have hs : x2.any (isSig x1) = false := by
        rw [List.any_eq_false] at h1 ⊢
        intro w hw hg
        exact h1 w hw (sig_nan hg)
      unfold nanV nanX nanIs
      rw [h1, hs]
      exact ⟨rfl, rfl, rfl⟩
  · rw [c_lss_f] at h
    rcases idxP_rng (wNaN x1) x2 with ⟨h1, h2, h3, _⟩ | ⟨_, h2⟩
    · refine ⟨imp_f fun hs => ?_, imp_t fun hs => ?_⟩
      · refine ⟨⟨h2, h3⟩, ?_⟩
        simp only [kR, canon, canons, ekEq, numE, getW, getWord, allInts8, asInt, isK, kindEq, isArgB, strOf, cBig, cInts, cWords, allInts, allWords, r_ofLimbs, r_mkWord, Option.some.injEq, LV.wide.injEq, LV.word.injEq, LV.int.injEq, LV.bool.injEq, LV.str.injEq, LV.big.injEq, LV.tup.injEq, LV.agg.injEq, List.cons.injEq, and_true, true_and]
        unfold nanV nanX nanIs
        rw [h1, hs]
        exact ⟨rfl, rfl, rfl⟩
      · refine ⟨⟨h2, h3⟩, ?_⟩
        simp only [kR, canon, canons, ekEq, numE, getW, getWord, allInts8, asInt, isK, kindEq, isArgB, strOf, cBig, cInts, cWords, allInts, allWords, r_ofLimbs, r_mkWord, Option.some.injEq, LV.wide.injEq, LV.word.injEq, LV.int.injEq, LV.bool.injEq, LV.str.injEq, LV.big.injEq, LV.tup.injEq, LV.agg.injEq, List.cons.injEq, and_true, true_and]
        unfold nanV nanX nanIs
        rw [h1, hs]
        exact ⟨rfl, rfl, rfl⟩
    · omega
end Go.LE