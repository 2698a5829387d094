import Derived.Test.YtcmicmbpcgminaaGreatDoorW2
set_option linter.unusedVariables false
set_option linter.unusedSimpArgs false
namespace Go.LE
open Go Go.Proofs
def s_prec (S : Ops) : List LV → R LV
  | [.int _ f] => .ok (.int .i64 (S.prec f))
  | _ => .fail
def s_bits (S : Ops) : List LV → R LV
  | [.int _ f] => .req (S.isF f) (.ok (.int .i64 (S.bits f)))
  | _ => .fail
def s_field (S : Ops) : List LV → R LV
  | [.int _ f] => .req (S.isF f) (.ok (.int .i64 (S.field f)))
  | _ => .fail
def s_emax (S : Ops) : List LV → R LV
  | [.int _ f] => .req (S.isF f) (.ok (.int .i64 (S.emax f)))
  | _ => .fail
def s_emin (S : Ops) : List LV → R LV
  | [.int _ f] => .req (S.isF f) (.ok (.int .i64 (S.emin f)))
  | _ => .fail
def s_is (S : Ops) : List LV → R LV
  | [.int _ f] => .ok (.bool (S.fOk f))
  | _ => .fail
def s_fmtOf (S : Ops) : List LV → R LV
  | [.int _ f] => .ok (.tup [.agg [.int .i64 (S.bits f), .int .i64 (S.prec f), .int .i64 (S.emax f), .int .i64 (bif S.fOk f then S.emin f else 0), .int .i64 (S.field f)], .bool (S.fOk f)])
  | _ => .fail
def s_times (S : Ops) : List LV → R LV
  | [.str s, .int _ n] => .req (S.strOk s n) (.ok (.str (S.times s n)))
  | _ => .fail
theorem p_prec : SpecOk Tryz.prog globs 43 (mkSpec real [.int .i64] (s_prec rops)) := by
  have hfns : FnsOk Tryz.prog globs [] := fnsNil
  refine spec0 hfns (by kernel_rfl) Tryz.func43 (by kernel_rfl) (by kernel_rfl) (by kernel_rfl) 4 _ _ (.int .i64) ?_
  clear hfns
  generalize hEE : env0 [] = EE
  intro l r hl hr
  simp only [Forms, Form] at hl
  obtain ⟨_, _, rfl, ⟨x1, rfl, x1lo, x1hi⟩, rfl⟩ := hl
  subst hEE
  generalize hK : kR (.int .i64) r = K
  generalize hO : real = O
  set_option maxRecDepth 100000 in cbv
  subst hO hK 
  simp only [s_prec, R.Y] at hr
  subst hr
  try dsimp only [real, rops]
  repeat' (first | apply And.intro | (refine imp_f fun _ => ?_) | (refine imp_t fun _ => ?_))
  all_goals simp only [c_eql_t, c_eql_f, c_neq_t, c_neq_f, c_lss_t, c_lss_f, c_leq_t, c_leq_f, c_gtr_t, c_gtr_f, c_geq_t, c_geq_f] at *
  all_goals simp only [kR, canon, canons, ekEq, numE, getW, getWord, allInts8, asInt, isK, kindEq, isArgB, strOf, cBig, cInts, cWords, allInts, allWords, r_ofLimbs, r_mkWord, Option.some.injEq, LV.wide.injEq, LV.word.injEq, LV.int.injEq, LV.bool.injEq, LV.str.injEq, LV.big.injEq, LV.tup.injEq, LV.agg.injEq, List.cons.injEq, and_true, true_and]
  all_goals (unfold fPrec; simp [*])
theorem p_bits : SpecOk Tryz.prog globs 58 (mkSpec real [.int .i64] (s_bits rops)) := by
  have hfns : FnsOk Tryz.prog globs [] := fnsNil
  refine spec0' hfns (by kernel_rfl) Tryz.func58 (by kernel_rfl) (by kernel_rfl) (by kernel_rfl) 4 _ _ (.int .i64) ?_
  clear hfns
  generalize hEE : env0 [] = EE
  intro l r hl hr
  simp only [Forms, Form] at hl
  obtain ⟨_, _, rfl, ⟨x1, rfl, x1lo, x1hi⟩, rfl⟩ := hl
  subst hEE
  obtain ⟨hq, hr⟩ := hr
  have hr : r = _ := hr.symm
  subst hr
  rcases f_cases hq with rfl | rfl | rfl | rfl
  · refine ⟨[.lit .i64 1], ⟨same_lit _ _, trivial⟩, ?_⟩
    set_option maxRecDepth 100000 in cbv
  · refine ⟨[.lit .i64 2], ⟨same_lit _ _, trivial⟩, ?_⟩
    set_option maxRecDepth 100000 in cbv
  · refine ⟨[.lit .i64 3], ⟨same_lit _ _, trivial⟩, ?_⟩
    set_option maxRecDepth 100000 in cbv
  · refine ⟨[.lit .i64 4], ⟨same_lit _ _, trivial⟩, ?_⟩
    set_option maxRecDepth 100000 in cbv
theorem p_field : SpecOk Tryz.prog globs 76 (mkSpec real [.int .i64] (s_field rops)) := by
  have hfns : FnsOk Tryz.prog globs [(58, inlF Tryz.f58), (43, inlF Tryz.f43)] := (fnsCons (inl_ok Tryz.func58 (by kernel_rfl) (by kernel_rfl)) (fnsCons (inl_ok Tryz.func43 (by kernel_rfl) (by kernel_rfl)) fnsNil))
  refine spec0' hfns (by kernel_rfl) Tryz.func76 (by kernel_rfl) (by kernel_rfl) (by kernel_rfl) 4 _ _ (.int .i64) ?_
  clear hfns
  generalize hEE : env0 [(58, inlF Tryz.f58), (43, inlF Tryz.f43)] = EE
  intro l r hl hr
  simp only [Forms, Form] at hl
  obtain ⟨_, _, rfl, ⟨x1, rfl, x1lo, x1hi⟩, rfl⟩ := hl
  subst hEE
  obtain ⟨hq, hr⟩ := hr
  have hr : r = _ := hr.symm
  subst hr
  rcases f_cases hq with rfl | rfl | rfl | rfl
  · refine ⟨[.lit .i64 1], ⟨same_lit _ _, trivial⟩, ?_⟩
    set_option maxRecDepth 100000 in cbv
  · refine ⟨[.lit .i64 2], ⟨same_lit _ _, trivial⟩, ?_⟩
    set_option maxRecDepth 100000 in cbv
  · refine ⟨[.lit .i64 3], ⟨same_lit _ _, trivial⟩, ?_⟩
    set_option maxRecDepth 100000 in cbv
  · refine ⟨[.lit .i64 4], ⟨same_lit _ _, trivial⟩, ?_⟩
    set_option maxRecDepth 100000 in cbv
set_option maxRecDepth 100000 in
theorem p_emax : SpecOk Tryz.prog globs 41 (mkSpec real [.int .i64] (s_emax rops)) := by
  have hfns : FnsOk Tryz.prog globs [(58, inlF Tryz.f58), (43, inlF Tryz.f43), (76, inlF Tryz.f76)] := (fnsCons (inl_ok Tryz.func58 (by kernel_rfl) (by kernel_rfl)) (fnsCons (inl_ok Tryz.func43 (by kernel_rfl) (by kernel_rfl)) (fnsCons (inl_ok Tryz.func76 (by kernel_rfl) (by kernel_rfl)) fnsNil)))
  refine spec0' hfns (by kernel_rfl) Tryz.func41 (by kernel_rfl) (by kernel_rfl) (by kernel_rfl) 4 _ _ (.int .i64) ?_
  clear hfns
  generalize hEE : env0 [(58, inlF Tryz.f58), (43, inlF Tryz.f43), (76, inlF Tryz.f76)] = EE
  intro l r hl hr
  simp only [Forms, Form] at hl
  obtain ⟨_, _, rfl, ⟨x1, rfl, x1lo, x1hi⟩, rfl⟩ := hl
  subst hEE
  obtain ⟨hq, hr⟩ := hr
  have hr : r = _ := hr.symm
  subst hr
  rcases f_cases hq with rfl | rfl | rfl | rfl
  · refine ⟨[.lit .i64 1], ⟨same_lit _ _, trivial⟩, ?_⟩
    set_option maxRecDepth 100000 in cbv
  · refine ⟨[.lit .i64 2], ⟨same_lit _ _, trivial⟩, ?_⟩
    set_option maxRecDepth 100000 in cbv
  · refine ⟨[.lit .i64 3], ⟨same_lit _ _, trivial⟩, ?_⟩
    set_option maxRecDepth 100000 in cbv
  · refine ⟨[.lit .i64 4], ⟨same_lit _ _, trivial⟩, ?_⟩
    set_option maxRecDepth 100000 in cbv
set_option maxRecDepth 100000 in
theorem p_emin : SpecOk Tryz.prog globs 47 (mkSpec real [.int .i64] (s_emin rops)) := by
  have hfns : FnsOk Tryz.prog globs [(58, inlF Tryz.f58), (43, inlF Tryz.f43), (76, inlF Tryz.f76), (41, inlF Tryz.f41)] := (fnsCons (inl_ok Tryz.func58 (by kernel_rfl) (by kernel_rfl)) (fnsCons (inl_ok Tryz.func43 (by kernel_rfl) (by kernel_rfl)) (fnsCons (inl_ok Tryz.func76 (by kernel_rfl) (by kernel_rfl)) (fnsCons (inl_ok Tryz.func41 (by kernel_rfl) (by kernel_rfl)) fnsNil))))
  refine spec0' hfns (by kernel_rfl) Tryz.func47 (by kernel_rfl) (by kernel_rfl) (by kernel_rfl) 4 _ _ (.int .i64) ?_
  clear hfns
  generalize hEE : env0 [(58, inlF Tryz.f58), (43, inlF Tryz.f43), (76, inlF Tryz.f76), (41, inlF Tryz.f41)] = EE
  intro l r hl hr
  simp only [Forms, Form] at hl
  obtain ⟨_, _, rfl, ⟨x1, rfl, x1lo, x1hi⟩, rfl⟩ := hl
  subst hEE
  obtain ⟨hq, hr⟩ := hr
  have hr : r = _ := hr.symm
  subst hr
  rcases f_cases hq with rfl | rfl | rfl | rfl
  · refine ⟨[.lit .i64 1], ⟨same_lit _ _, trivial⟩, ?_⟩
    set_option maxRecDepth 100000 in cbv
  · refine ⟨[.lit .i64 2], ⟨same_lit _ _, trivial⟩, ?_⟩
    set_option maxRecDepth 100000 in cbv
  · refine ⟨[.lit .i64 3], ⟨same_lit _ _, trivial⟩, ?_⟩
    set_option maxRecDepth 100000 in cbv
  · refine ⟨[.lit .i64 4], ⟨same_lit _ _, trivial⟩, ?_⟩
    set_option maxRecDepth 100000 in cbv
theorem p_is : SpecOk Tryz.prog globs 15 (mkSpec real [.int .i64] (s_is rops)) := by
  have hfns : FnsOk Tryz.prog globs [(43, .spec (mkSpec real [.int .i64] (s_prec rops)))] := (fnsCons (fnSpec (p_prec)) fnsNil)
  refine spec0 hfns (by kernel_rfl) Tryz.func15 (by kernel_rfl) (by kernel_rfl) (by kernel_rfl) 4 _ _ (.bool) ?_
  clear hfns
  generalize hEE : env0 [(43, .spec (mkSpec real [.int .i64] (s_prec rops)))] = EE
  intro l r hl hr
  simp only [Forms, Form] at hl
  obtain ⟨_, _, rfl, ⟨x1, rfl, x1lo, x1hi⟩, rfl⟩ := hl
  subst hEE
  generalize hK : kR (.bool) r = K
  generalize hO : real = O
  generalize hS0 : rops = S0
  set_option maxRecDepth 100000 in cbv
  subst hO hK hS0
  simp only [s_is, R.Y] at hr
  subst hr
  try dsimp only [real, rops]
  simp only [kR, canon, isArgB, Option.some.injEq, LV.bool.injEq]
  exact is_leaf x1
theorem p_fmtOf : SpecOk Tryz.prog globs 79 (mkSpec real [.int .i64] (s_fmtOf rops)) := by
  have hfns : FnsOk Tryz.prog globs [] := fnsNil
  refine spec0' hfns (by kernel_rfl) Tryz.func79 (by kernel_rfl) (by kernel_rfl) (by kernel_rfl) 4 _ _ (.tup [.st [.int .i64, .int .i64, .int .i64, .int .i64, .int .i64], .bool]) ?_
  clear hfns
  generalize hEE : env0 [] = EE
  intro l r hl hr
  simp only [Forms, Form] at hl
  obtain ⟨_, _, rfl, ⟨x1, rfl, x1lo, x1hi⟩, rfl⟩ := hl
  subst hEE
  have hr : r = _ := hr.symm
  subst hr
  by_cases hq : 1 ≤ x1 ∧ x1 ≤ 4
  · rcases f_cases hq with rfl | rfl | rfl | rfl
    · refine ⟨[.lit .i64 1], ⟨same_lit _ _, trivial⟩, ?_⟩
      set_option maxRecDepth 100000 in cbv
    · refine ⟨[.lit .i64 2], ⟨same_lit _ _, trivial⟩, ?_⟩
      set_option maxRecDepth 100000 in cbv
    · refine ⟨[.lit .i64 3], ⟨same_lit _ _, trivial⟩, ?_⟩
      set_option maxRecDepth 100000 in cbv
    · refine ⟨[.lit .i64 4], ⟨same_lit _ _, trivial⟩, ?_⟩
      set_option maxRecDepth 100000 in cbv
  · refine ⟨[.int .i64 x1], ⟨same_refl _, trivial⟩, ?_⟩
    generalize hK : kR _ _ = K
    generalize hO : real = O
    set_option maxRecDepth 100000 in cbv
    subst hO hK
    dsimp only [real]
    obtain ⟨g1, g2, g3, g4, g5⟩ := f_none hq
    repeat' (first | apply And.intro | (refine imp_f fun _ => ?_) | (refine imp_t fun _ => ?_))
    all_goals simp only [c_eql_t, c_eql_f, c_neq_t, c_neq_f, c_lss_t, c_lss_f, c_leq_t, c_leq_f, c_gtr_t, c_gtr_f, c_geq_t, c_geq_f] at *
    all_goals first
      | (exfalso; omega)
      | (dsimp only [rops]; rw [g1, g2, g3, g4, g5]; simp only [kR, canon, canons, isK, asInt, kindEq, isArgB, cond_false])
end Go.LE