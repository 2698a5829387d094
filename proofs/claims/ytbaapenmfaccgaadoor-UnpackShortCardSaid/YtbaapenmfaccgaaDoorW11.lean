import Derived.Test.YtbaapenmfaccgaaDoorW10
import Derived.Test.YtbaapenmfaccgaaDoorLeN
set_option linter.unusedVariables false
set_option linter.unusedSimpArgs false
namespace Go.LE
open Go Go.Proofs
structure OpsE where
  fin : Int → BitVec 128 → Bool
  nan : Int → BitVec 128 → Bool
  isC : Int → BitVec 128 → Int → Prop
  isN : Int → BitVec 128 → Bool → Prop
noncomputable def ropsE : OpsE where
  fin := wFin
  nan := wNaN
  isC := fun f w c => cls f w = c
  isN := fun f w b => wNeg f w = b
def s_awake06 (_ : OpsB) : List LV → R LV := fun _ => .ok (.bool true)
def s_ClassOf (_ : OpsB) : List LV → R LV := fun _ => .ok (.bool true)
def s_ClassSigns (_ : OpsB) : List LV → R LV := fun _ => .ok (.bool true)
def s_cFinite (S : OpsE) : List LV → R LV
  | [.int _ f, .word w] => .ok (.bool (S.fin f w))
  | _ => .fail
def s_cIsNaN (S : OpsE) : List LV → R LV
  | [.int _ f, .word w] => .ok (.bool (S.nan f w))
  | _ => .fail
def s_cOfL (c : Int) (S : OpsE) : List LV → R LV
  | [.int _ f, .word w] => .req (S.isC f w c) (.ok (.lit .i64 c))
  | _ => .fail
def s_class06L (c : Int) (S : OpsE) : List LV → R LV
  | [.int _ f, .word w] => .req (S.isC f w c) (.ok (.lit .i64 c))
  | _ => .fail
def s_cNegL (b : Bool) (S : OpsE) : List LV → R LV
  | [.int _ f, .word w] => .req (S.isN f w b) (.ok (.blit b))
  | _ => .fail
def s_neg06L (b : Bool) (S : OpsE) : List LV → R LV
  | [.int _ f, .word w] => .req (S.isN f w b) (.ok (.blit b))
  | _ => .fail
def s_cFiniteL (c : Int) (S : OpsE) : List LV → R LV
  | [.int _ f, .word w] => .req (S.isC f w c) (.ok (.blit (decide (c ≥ 4))))
  | _ => .fail
def s_cIsNaNL (c : Int) (S : OpsE) : List LV → R LV
  | [.int _ f, .word w] => .req (S.isC f w c) (.ok (.blit (decide (c = 1 ∨ c = 2))))
  | _ => .fail
def s_ClassOfAt (c : Int) (b : Bool) (S : OpsE) : List LV → R LV
  | [.int _ f, .word w] => .req (S.isC f w c ∧ S.isN f w b) (.ok (.bool true))
  | _ => .fail
theorem p_awake06 : SpecOk Tryd.prog globs 38 (mkSpec real [] (s_awake06 ropsB)) := by
  have hfns : FnsOk Tryd.prog globs [(50, .spec (mkSpec real [.int .i64, .word] (s_cOf ropsC)))] := (fnsCons (fnSpec (p_cOf)) fnsNil)
  refine spec0 hfns (by kernel_rfl) Tryd.func38 (by kernel_rfl) (by kernel_rfl) (by kernel_rfl) 4 _ _ (.bool) ?_
  clear hfns
  generalize hEE : env0 [(50, .spec (mkSpec real [.int .i64, .word] (s_cOf ropsC)))] = EE
  intro l r hl hr
  simp only [Forms, Form] at hl
  obtain rfl := hl
  subst hEE
  generalize hK : kR (.bool) r = K
  generalize hO : real = O
  generalize hS0 : rops = S0
  generalize hS1 : ropsB = S1
  generalize hS2 : ropsC = S2
  generalize hS3 : ropsD = S3
  generalize hS4 : ropsE = S4
  set_option maxRecDepth 100000 in cbv
  subst hO hK hS0 hS1 hS2 hS3 hS4
  simp only [s_awake06, R.Y] at hr
  subst hr
  try dsimp only [real, rops, ropsB, ropsC, ropsD, ropsE]
  simp only [kb_t, kb_lt, kb_lf]; decide +kernel
theorem p_cFinite : SpecOk Tryd.prog globs 53 (mkSpec real [.int .i64, .word] (s_cFinite ropsE)) := by
  have hfns : FnsOk Tryd.prog globs [(50, .spec (mkSpec real [.int .i64, .word] (s_cOf ropsC)))] := (fnsCons (fnSpec (p_cOf)) fnsNil)
  refine spec0 hfns (by kernel_rfl) Tryd.func53 (by kernel_rfl) (by kernel_rfl) (by kernel_rfl) 4 _ _ (.bool) ?_
  clear hfns
  generalize hEE : env0 [(50, .spec (mkSpec real [.int .i64, .word] (s_cOf ropsC)))] = EE
  intro l r hl hr
  simp only [Forms, Form] at hl
  obtain ⟨_, _, rfl, ⟨x1, rfl, x1lo, x1hi⟩, _, _, rfl, ⟨x2, rfl⟩, rfl⟩ := hl
  subst hEE
  generalize hK : kR (.bool) r = K
  generalize hO : real = O
  generalize hS0 : rops = S0
  generalize hS1 : ropsB = S1
  generalize hS2 : ropsC = S2
  generalize hS3 : ropsD = S3
  generalize hS4 : ropsE = S4
  set_option maxRecDepth 100000 in cbv
  subst hO hK hS0 hS1 hS2 hS3 hS4
  simp only [s_cFinite, R.Y] at hr
  subst hr
  try dsimp only [real, rops, ropsB, ropsC, ropsD, ropsE]
  simp only [kR, canon, canons, getW, getWord, allInts8, asInt, isK, kindEq, isArgB, strOf, cBig, cInts, cWords, allInts, allWords, r_ofLimbs, r_mkWord, Option.some.injEq, LV.wide.injEq, LV.word.injEq, LV.int.injEq, LV.bool.injEq, LV.str.injEq, LV.big.injEq, LV.tup.injEq, LV.agg.injEq, List.cons.injEq, and_true, true_and]
  rfl
theorem p_cIsNaN : SpecOk Tryd.prog globs 54 (mkSpec real [.int .i64, .word] (s_cIsNaN ropsE)) := by
  have hfns : FnsOk Tryd.prog globs [(50, .spec (mkSpec real [.int .i64, .word] (s_cOf ropsC)))] := (fnsCons (fnSpec (p_cOf)) fnsNil)
  refine spec0 hfns (by kernel_rfl) Tryd.func54 (by kernel_rfl) (by kernel_rfl) (by kernel_rfl) 4 _ _ (.bool) ?_
  clear hfns
  generalize hEE : env0 [(50, .spec (mkSpec real [.int .i64, .word] (s_cOf ropsC)))] = EE
  intro l r hl hr
  simp only [Forms, Form] at hl
  obtain ⟨_, _, rfl, ⟨x1, rfl, x1lo, x1hi⟩, _, _, rfl, ⟨x2, rfl⟩, rfl⟩ := hl
  subst hEE
  generalize hK : kR (.bool) r = K
  generalize hO : real = O
  generalize hS0 : rops = S0
  generalize hS1 : ropsB = S1
  generalize hS2 : ropsC = S2
  generalize hS3 : ropsD = S3
  generalize hS4 : ropsE = S4
  set_option maxRecDepth 100000 in cbv
  subst hO hK hS0 hS1 hS2 hS3 hS4
  simp only [s_cIsNaN, R.Y] at hr
  subst hr
  try dsimp only [real, rops, ropsB, ropsC, ropsD, ropsE]
  repeat' (first | apply And.intro | (refine imp_f fun _ => ?_) | (refine imp_t fun _ => ?_))
  all_goals (try simp only [c_eql_t, c_eql_f, c_neq_t, c_neq_f, c_lss_t, c_lss_f, c_leq_t, c_leq_f, c_gtr_t, c_gtr_f, c_geq_t, c_geq_f] at *)
  all_goals (simp only [kR, canon, canons, getW, getWord, allInts8, asInt, isK, kindEq, isArgB, strOf, cBig, cInts, cWords, allInts, allWords, r_ofLimbs, r_mkWord, Option.some.injEq, LV.wide.injEq, LV.word.injEq, LV.int.injEq, LV.bool.injEq, LV.str.injEq, LV.big.injEq, LV.tup.injEq, LV.agg.injEq, List.cons.injEq, and_true, true_and]; unfold wNaN)
  · rw [decide_eq_true (Or.inl (by assumption))]
  · rename_i h
    by_cases h2 : cls x1 x2 = 2
    · rw [decide_eq_true (Or.inr h2), c_eql_t]; exact h2
    · rw [decide_eq_false (by omega), c_eql_f]; exact h2
theorem p_cOfL (c : Int) : SpecOk Tryd.prog globs 50 (mkSpec real [.int .i64, .word] (s_cOfL c ropsE)) := by
  refine spec_as p_cOf ?_
  intro l r h
  unfold s_cOfL at h
  split at h
  · obtain ⟨h1, rfl⟩ := h
    refine ⟨_, rfl, ?_⟩
    have h1 : cls _ _ = c := h1; rw [← h1]; exact same_lit _ _
  · exact h.elim
theorem p_class06L (c : Int) : SpecOk Tryd.prog globs 39 (mkSpec real [.int .i64, .word] (s_class06L c ropsE)) := by
  refine spec_as p_class06 ?_
  intro l r h
  unfold s_class06L at h
  split at h
  · obtain ⟨h1, rfl⟩ := h
    refine ⟨_, rfl, ?_⟩
    have h1 : cls _ _ = c := h1; rw [← h1]; exact same_lit _ _
  · exact h.elim
theorem p_cNegL (b : Bool) : SpecOk Tryd.prog globs 47 (mkSpec real [.int .i64, .word] (s_cNegL b ropsE)) := by
  refine spec_as p_cNeg ?_
  intro l r h
  unfold s_cNegL at h
  split at h
  · obtain ⟨h1, rfl⟩ := h
    refine ⟨_, rfl, ?_⟩
    have h1 : wNeg _ _ = b := h1; rw [← h1]; exact same_blit _
  · exact h.elim
theorem p_neg06L (b : Bool) : SpecOk Tryd.prog globs 44 (mkSpec real [.int .i64, .word] (s_neg06L b ropsE)) := by
  refine spec_as p_neg06 ?_
  intro l r h
  unfold s_neg06L at h
  split at h
  · obtain ⟨h1, rfl⟩ := h
    refine ⟨_, rfl, ?_⟩
    have h1 : wNeg _ _ = b := h1; rw [← h1]; exact same_blit _
  · exact h.elim
theorem p_cFiniteL (c : Int) : SpecOk Tryd.prog globs 53 (mkSpec real [.int .i64, .word] (s_cFiniteL c ropsE)) := by
  refine spec_as p_cFinite ?_
  intro l r h
  unfold s_cFiniteL at h
  split at h
  · obtain ⟨h1, rfl⟩ := h
    refine ⟨_, rfl, ?_⟩
    have h1 : cls _ _ = c := h1; rw [← h1]; exact same_blit _
  · exact h.elim
theorem p_cIsNaNL (c : Int) : SpecOk Tryd.prog globs 54 (mkSpec real [.int .i64, .word] (s_cIsNaNL c ropsE)) := by
  refine spec_as p_cIsNaN ?_
  intro l r h
  unfold s_cIsNaNL at h
  split at h
  · obtain ⟨h1, rfl⟩ := h
    refine ⟨_, rfl, ?_⟩
    have h1 : cls _ _ = c := h1; rw [← h1]; exact same_blit _
  · exact h.elim
theorem p_ClassSigns : SpecOk Tryd.prog globs 8 (mkSpec real [.int .i64, .word] (s_ClassSigns ropsB)) := by
  have hfns : FnsOk Tryd.prog globs [(50, .spec (mkSpec real [.int .i64, .word] (s_cOf ropsC))), (51, .spec (mkSpec real [.int .i64, .word] (s_cAbs ropsD))), (52, .spec (mkSpec real [.int .i64, .word] (s_cFlip ropsD))), (47, .spec (mkSpec real [.int .i64, .word] (s_cNeg ropsC))), (38, .spec (mkSpec real [] (s_awake06 ropsB)))] := (fnsCons (fnSpec (p_cOf)) (fnsCons (fnSpec (p_cAbs)) (fnsCons (fnSpec (p_cFlip)) (fnsCons (fnSpec (p_cNeg)) (fnsCons (fnSpec (p_awake06)) fnsNil)))))
  refine spec0 hfns (by kernel_rfl) Tryd.func8 (by kernel_rfl) (by kernel_rfl) (by kernel_rfl) 4 _ _ (.bool) ?_
  clear hfns
  generalize hEE : env0 [(50, .spec (mkSpec real [.int .i64, .word] (s_cOf ropsC))), (51, .spec (mkSpec real [.int .i64, .word] (s_cAbs ropsD))), (52, .spec (mkSpec real [.int .i64, .word] (s_cFlip ropsD))), (47, .spec (mkSpec real [.int .i64, .word] (s_cNeg ropsC))), (38, .spec (mkSpec real [] (s_awake06 ropsB)))] = EE
  intro l r hl hr
  simp only [Forms, Form] at hl
  obtain ⟨_, _, rfl, ⟨x1, rfl, x1lo, x1hi⟩, _, _, rfl, ⟨x2, rfl⟩, rfl⟩ := hl
  subst hEE
  generalize hK : kR (.bool) r = K
  generalize hO : real = O
  generalize hS0 : rops = S0
  generalize hS1 : ropsB = S1
  generalize hS2 : ropsC = S2
  generalize hS3 : ropsD = S3
  generalize hS4 : ropsE = S4
  set_option maxRecDepth 100000 in cbv
  subst hO hK hS0 hS1 hS2 hS3 hS4
  simp only [s_ClassSigns, R.Y] at hr
  subst hr
  try dsimp only [real, rops, ropsB, ropsC, ropsD, ropsE]
  cases h : fFits x1 x2 with
  | false =>
    have hc := cls_none h
    rw [hc]
    refine ⟨imp_f fun _ => ?_, imp_t fun h' => absurd h' (by decide)⟩
    rw [kb_t]
  | true =>
    have hc : cls x1 x2 ≠ 0 := fun e => by rw [cls_pos, h] at e; cases e
    refine ⟨imp_f fun h' => absurd ((c_eql_t _ _).mp h') hc, imp_t fun _ => ?_⟩
    obtain ⟨hf, _⟩ := fits_lt h
    have a1 : wAbs x1 x2 = sgn x1 x2 false := by unfold wAbs; rw [h]; rfl
    have a2 : wFlip x1 x2 = sgn x1 x2 (!bNeg x1 x2) := by unfold wFlip; rw [h]; rfl
    have a3 : ∀ b, wFlip x1 (sgn x1 x2 b) = sgn x1 x2 (!b) := fun b => by unfold wFlip; rw [sgn_fits hf, cond_true, sgn_sgn hf, sgn_neg hf]
    have a4 : ∀ b, wNeg x1 (sgn x1 x2 b) = b := fun b => by rw [wneg_fits (sgn_fits hf _ _), sgn_neg hf]
    have a5 : ∀ b, wAbs x1 (sgn x1 x2 b) = sgn x1 x2 false := fun b => by unfold wAbs; rw [sgn_fits hf, cond_true, sgn_sgn hf]
    have a6 : wNeg x1 x2 = bNeg x1 x2 := wneg_fits h
    have a7 : cmpR .eql (cls x1 x2) (cls x1 x2) = true := by rw [c_eql_t]
    simp only [a1, a2, a3, a4, a5, a6, a7, sgn_cls h, Bool.not_not, sgn_own h, kb_t, kb_lt, kb_lf, decide_true]
    cases bNeg x1 x2 <;> decide
set_option maxHeartbeats 4000000 in
theorem p_ClassOfAt (c : Int) (b : Bool) (hc : 0 ≤ c ∧ c ≤ 6) : SpecOk Tryd.prog globs 9 (mkSpec real [.int .i64, .word] (s_ClassOfAt c b ropsE)) := by
  have hfns : FnsOk Tryd.prog globs [(50, .spec (mkSpec real [.int .i64, .word] (s_cOfL c ropsE))), (51, .spec (mkSpec real [.int .i64, .word] (s_cAbs ropsD))), (52, .spec (mkSpec real [.int .i64, .word] (s_cFlip ropsD))), (47, .spec (mkSpec real [.int .i64, .word] (s_cNegL b ropsE))), (48, .spec (mkSpec real [.int .i64, .word] (s_cField ropsC))), (49, .spec (mkSpec real [.int .i64, .word] (s_cFrac ropsC))), (53, .spec (mkSpec real [.int .i64, .word] (s_cFiniteL c ropsE))), (54, .spec (mkSpec real [.int .i64, .word] (s_cIsNaNL c ropsE))), (39, .spec (mkSpec real [.int .i64, .word] (s_class06L c ropsE))), (44, .spec (mkSpec real [.int .i64, .word] (s_neg06L b ropsE))), (45, .spec (mkSpec real [.int .i64, .word] (s_field06 ropsC))), (46, .spec (mkSpec real [.int .i64, .word] (s_frac06 ropsC))), (55, .spec (mkSpec real [.int .i64, .word, .bool] (s_signed06 ropsC))), (38, .spec (mkSpec real [] (s_awake06 ropsB)))] := (fnsCons (fnSpec (p_cOfL c)) (fnsCons (fnSpec (p_cAbs)) (fnsCons (fnSpec (p_cFlip)) (fnsCons (fnSpec (p_cNegL b)) (fnsCons (fnSpec (p_cField)) (fnsCons (fnSpec (p_cFrac)) (fnsCons (fnSpec (p_cFiniteL c)) (fnsCons (fnSpec (p_cIsNaNL c)) (fnsCons (fnSpec (p_class06L c)) (fnsCons (fnSpec (p_neg06L b)) (fnsCons (fnSpec (p_field06)) (fnsCons (fnSpec (p_frac06)) (fnsCons (fnSpec (p_signed06)) (fnsCons (fnSpec (p_awake06)) fnsNil))))))))))))))
  refine spec0' hfns (by kernel_rfl) Tryd.func9 (by kernel_rfl) (by kernel_rfl) (by kernel_rfl) 4 _ _ (.bool) ?_
  clear hfns
  generalize hEE : env0 [(50, .spec (mkSpec real [.int .i64, .word] (s_cOfL c ropsE))), (51, .spec (mkSpec real [.int .i64, .word] (s_cAbs ropsD))), (52, .spec (mkSpec real [.int .i64, .word] (s_cFlip ropsD))), (47, .spec (mkSpec real [.int .i64, .word] (s_cNegL b ropsE))), (48, .spec (mkSpec real [.int .i64, .word] (s_cField ropsC))), (49, .spec (mkSpec real [.int .i64, .word] (s_cFrac ropsC))), (53, .spec (mkSpec real [.int .i64, .word] (s_cFiniteL c ropsE))), (54, .spec (mkSpec real [.int .i64, .word] (s_cIsNaNL c ropsE))), (39, .spec (mkSpec real [.int .i64, .word] (s_class06L c ropsE))), (44, .spec (mkSpec real [.int .i64, .word] (s_neg06L b ropsE))), (45, .spec (mkSpec real [.int .i64, .word] (s_field06 ropsC))), (46, .spec (mkSpec real [.int .i64, .word] (s_frac06 ropsC))), (55, .spec (mkSpec real [.int .i64, .word, .bool] (s_signed06 ropsC))), (38, .spec (mkSpec real [] (s_awake06 ropsB)))] = EE
  intro l r hl hr
  simp only [Forms, Form] at hl
  obtain ⟨_, _, rfl, ⟨x1, rfl, x1lo, x1hi⟩, _, _, rfl, ⟨x2, rfl⟩, rfl⟩ := hl
  subst hEE
  obtain ⟨⟨hq, hn⟩, hr⟩ := hr
  have hr : r = _ := hr.symm
  subst hr
  have hc' : c = 0 ∨ c = 1 ∨ c = 2 ∨ c = 3 ∨ c = 4 ∨ c = 5 ∨ c = 6 := by omega
  refine ⟨[.int .i64 x1, .word x2], ⟨same_refl _, same_refl _, trivial⟩, ?_⟩
  rcases hc' with rfl | rfl | rfl | rfl | rfl | rfl | rfl <;> cases b
  all_goals (generalize hK : kR _ _ = K; generalize hO : real = O; generalize hS0 : rops = S0; generalize hS1 : ropsB = S1; generalize hS2 : ropsC = S2; generalize hS3 : ropsD = S3; generalize hS4 : ropsE = S4; set_option maxRecDepth 100000 in cbv; subst hO hK hS0 hS1 hS2 hS3 hS4; dsimp only [real, rops, ropsB, ropsC, ropsD, ropsE])
  all_goals (replace hq : cls x1 x2 = _ := hq)
  all_goals (replace hn : wNeg x1 x2 = _ := hn)
  all_goals first
    | (obtain ⟨f1, f2, f3, f4⟩ := parts_none hq
       simp only [hq, hn, f1, f2, f3, f4, ofLimbs_0, mkWord_0, decide_true, eql_self, kb_t, kb_lt, kb_lf]
       decide)
    | (obtain ⟨f0, f1, f2, f3, f4⟩ := parts_some (f := x1) (w := x2) (by rw [hq]; decide)
       rw [hn] at f4
       simp only [hq, hn, f0, f1, f2, f3, f4, decide_true, eql_self, kb_t, kb_lt, kb_lf, and_self, true_and, Bool.not_false, Bool.not_true]
       decide)
theorem p_ClassOf : SpecOk Tryd.prog globs 9 (mkSpec real [.int .i64, .word] (s_ClassOf ropsB)) := by
  refine spec_fam (ι := Int × Bool) (g := fun i => s_ClassOfAt i.1 i.2 ropsE) (0, false) (fun i => 0 ≤ i.1 ∧ i.1 ≤ 6) (by decide) (fun i hi => p_ClassOfAt i.1 i.2 hi) ?_
  intro l r hl hr
  simp only [Forms, Form] at hl
  obtain ⟨_, _, rfl, ⟨x1, rfl, _⟩, _, _, rfl, ⟨x2, rfl⟩, rfl⟩ := hl
  exact ⟨(cls x1 x2, wNeg x1 x2), cls_rng x1 x2, ⟨rfl, rfl⟩, hr⟩
end Go.LE