import Derived.Test.YtcmicmbpcgminaaGreatDoorW3
set_option linter.unusedVariables false
set_option linter.unusedSimpArgs false
namespace Go.LE
open Go Go.Proofs
def s_infW (S : Ops) : List LV → R LV
  | [.int _ f, .bool b] => .ok (.word (S.inf f b))
  | _ => .fail
def s_nanW (S : Ops) : List LV → R LV
  | [.int _ f] => .ok (.word (S.nanw f))
  | _ => .fail
def s_maxW (S : Ops) : List LV → R LV
  | [.int _ f, .bool b] => .ok (.word (S.maxw f b))
  | _ => .fail
def s_leastW (S : Ops) : List LV → R LV
  | [.int _ f] => .ok (.word (S.least f))
  | _ => .fail
def s_oneW (S : Ops) : List LV → R LV
  | [.int _ f] => .ok (.word (S.onew f))
  | _ => .fail
def s_noughtW (S : Ops) : List LV → R LV
  | [.int _ f, .bool b] => .ok (.word (S.nought f b))
  | _ => .fail
def s_ones (S : Ops) : List LV → R LV
  | [.agg [_, _, .int _ e, _, _]] => .ok (.int .i64 (S.ones e))
  | _ => .fail
theorem p_ones : SpecOk Tryz.prog globs 141 (mkSpec real [.st [.int .i64, .int .i64, .int .i64, .int .i64, .int .i64]] (s_ones rops)) := by
  have hfns : FnsOk Tryz.prog globs [] := fnsNil
  refine spec0 hfns (by kernel_rfl) Tryz.func141 (by kernel_rfl) (by kernel_rfl) (by kernel_rfl) 4 _ _ (.int .i64) ?_
  clear hfns
  generalize hEE : env0 [] = EE
  intro l r hl hr
  simp only [Forms, Form] at hl
  obtain ⟨_, _, rfl, ⟨_, rfl, ⟨_, _, rfl, ⟨x1_1, rfl, x1_1lo, x1_1hi⟩, _, _, rfl, ⟨x1_2, rfl, x1_2lo, x1_2hi⟩, _, _, rfl, ⟨x1_3, rfl, x1_3lo, x1_3hi⟩, _, _, rfl, ⟨x1_4, rfl, x1_4lo, x1_4hi⟩, _, _, rfl, ⟨x1_5, rfl, x1_5lo, x1_5hi⟩, rfl⟩⟩, rfl⟩ := hl
  subst hEE
  generalize hK : kR (.int .i64) r = K
  generalize hO : real = O
  set_option maxRecDepth 100000 in cbv
  subst hO hK 
  simp only [s_ones, R.Y] at hr
  subst hr
  try dsimp only [real, rops]
  simp only [kR, canon, canons, ekEq, numE, getW, getWord, allInts8, asInt, isK, kindEq, isArgB, strOf, cBig, cInts, cWords, allInts, allWords, r_ofLimbs, r_mkWord, Option.some.injEq, LV.wide.injEq, LV.word.injEq, LV.int.injEq, LV.bool.injEq, LV.str.injEq, LV.big.injEq, LV.tup.injEq, LV.agg.injEq, List.cons.injEq, and_true, true_and]
theorem p_infW : SpecOk Tryz.prog globs 93 (mkSpec real [.int .i64, .bool] (s_infW rops)) := by
  have hfns : FnsOk Tryz.prog globs [(125, inlF Tryz.f125), (140, inlF Tryz.f140), (141, .spec (mkSpec real [.st [.int .i64, .int .i64, .int .i64, .int .i64, .int .i64]] (s_ones rops))), (79, .spec (mkSpec real [.int .i64] (s_fmtOf rops))), (124, .spec (mkSpec real [.wide, .wide] (s_wAdd rops))), (83, .spec (mkSpec real [.wide, .int .i64] (s_shl rops))), (132, .spec (mkSpec real [.ints .u64] (s_of rops))), (86, .spec (mkSpec real [.int .i64] (s_power rops))), (133, .spec (mkSpec real [.wide] (s_low rops)))] := (fnsCons (inl_ok Tryz.func125 (by kernel_rfl) (by kernel_rfl)) (fnsCons (inl_ok Tryz.func140 (by kernel_rfl) (by kernel_rfl)) (fnsCons (fnSpec (p_ones)) (fnsCons (fnSpec (p_fmtOf)) (fnsCons (fnSpec (p_wAdd)) (fnsCons (fnSpec (p_shl)) (fnsCons (fnSpec (p_of)) (fnsCons (fnSpec (p_power)) (fnsCons (fnSpec (p_low)) fnsNil)))))))))
  refine spec0 hfns (by kernel_rfl) Tryz.func93 (by kernel_rfl) (by kernel_rfl) (by kernel_rfl) 5 _ _ (.word) ?_
  clear hfns
  generalize hEE : env0 [(125, inlF Tryz.f125), (140, inlF Tryz.f140), (141, .spec (mkSpec real [.st [.int .i64, .int .i64, .int .i64, .int .i64, .int .i64]] (s_ones rops))), (79, .spec (mkSpec real [.int .i64] (s_fmtOf rops))), (124, .spec (mkSpec real [.wide, .wide] (s_wAdd rops))), (83, .spec (mkSpec real [.wide, .int .i64] (s_shl rops))), (132, .spec (mkSpec real [.ints .u64] (s_of rops))), (86, .spec (mkSpec real [.int .i64] (s_power rops))), (133, .spec (mkSpec real [.wide] (s_low rops)))] = EE
  intro l r hl hr
  simp only [Forms, Form] at hl
  obtain ⟨_, _, rfl, ⟨x1, rfl, x1lo, x1hi⟩, _, _, rfl, ⟨x2, rfl⟩, rfl⟩ := hl
  subst hEE
  generalize hK : kR (.word) r = K
  generalize hO : real = O
  generalize hS0 : rops = S0
  set_option maxRecDepth 100000 in cbv
  subst hO hK hS0
  simp only [s_infW, R.Y] at hr
  subst hr
  try dsimp only [real, rops]
  refine ⟨imp_f fun h => ?_, imp_t fun h => ?_⟩
  · simp only [kR, canon, getWord, asInt, r_mkWord, Option.some.injEq, LV.word.injEq]
    rw [mkWord_0]; exact (fWordOf_none (fOk_f h) _ _).symm
  · rcases f_cases (fOk_t h) with rfl | rfl | rfl | rfl <;> cases x2 <;> refine ⟨imp_f fun hh => ?_, imp_t fun hh => ?_⟩ <;> first | (cases hh; done) | (simp only [kR, canon, getWord, asInt, r_mkWord, Option.some.injEq, LV.word.injEq]; decide +kernel)
theorem p_nanW : SpecOk Tryz.prog globs 161 (mkSpec real [.int .i64] (s_nanW rops)) := by
  have hfns : FnsOk Tryz.prog globs [(125, inlF Tryz.f125), (189, inlF Tryz.f189), (141, .spec (mkSpec real [.st [.int .i64, .int .i64, .int .i64, .int .i64, .int .i64]] (s_ones rops))), (79, .spec (mkSpec real [.int .i64] (s_fmtOf rops))), (124, .spec (mkSpec real [.wide, .wide] (s_wAdd rops))), (83, .spec (mkSpec real [.wide, .int .i64] (s_shl rops))), (132, .spec (mkSpec real [.ints .u64] (s_of rops))), (86, .spec (mkSpec real [.int .i64] (s_power rops))), (133, .spec (mkSpec real [.wide] (s_low rops)))] := (fnsCons (inl_ok Tryz.func125 (by kernel_rfl) (by kernel_rfl)) (fnsCons (inl_ok Tryz.func189 (by kernel_rfl) (by kernel_rfl)) (fnsCons (fnSpec (p_ones)) (fnsCons (fnSpec (p_fmtOf)) (fnsCons (fnSpec (p_wAdd)) (fnsCons (fnSpec (p_shl)) (fnsCons (fnSpec (p_of)) (fnsCons (fnSpec (p_power)) (fnsCons (fnSpec (p_low)) fnsNil)))))))))
  refine spec0 hfns (by kernel_rfl) Tryz.func161 (by kernel_rfl) (by kernel_rfl) (by kernel_rfl) 5 _ _ (.word) ?_
  clear hfns
  generalize hEE : env0 [(125, inlF Tryz.f125), (189, inlF Tryz.f189), (141, .spec (mkSpec real [.st [.int .i64, .int .i64, .int .i64, .int .i64, .int .i64]] (s_ones rops))), (79, .spec (mkSpec real [.int .i64] (s_fmtOf rops))), (124, .spec (mkSpec real [.wide, .wide] (s_wAdd rops))), (83, .spec (mkSpec real [.wide, .int .i64] (s_shl rops))), (132, .spec (mkSpec real [.ints .u64] (s_of rops))), (86, .spec (mkSpec real [.int .i64] (s_power rops))), (133, .spec (mkSpec real [.wide] (s_low rops)))] = EE
  intro l r hl hr
  simp only [Forms, Form] at hl
  obtain ⟨_, _, rfl, ⟨x1, rfl, x1lo, x1hi⟩, rfl⟩ := hl
  subst hEE
  generalize hK : kR (.word) r = K
  generalize hO : real = O
  generalize hS0 : rops = S0
  set_option maxRecDepth 100000 in cbv
  subst hO hK hS0
  simp only [s_nanW, R.Y] at hr
  subst hr
  try dsimp only [real, rops]
  refine ⟨imp_f fun h => ?_, imp_t fun h => ?_⟩
  · simp only [kR, canon, getWord, asInt, r_mkWord, Option.some.injEq, LV.word.injEq]
    rw [mkWord_0]; exact (fWordOf_none (fOk_f h) _ _).symm
  · rcases f_cases (fOk_t h) with rfl | rfl | rfl | rfl <;> (simp only [kR, canon, getWord, asInt, r_mkWord, Option.some.injEq, LV.word.injEq]; decide +kernel)
theorem p_maxW : SpecOk Tryz.prog globs 154 (mkSpec real [.int .i64, .bool] (s_maxW rops)) := by
  have hfns : FnsOk Tryz.prog globs [(125, inlF Tryz.f125), (183, inlF Tryz.f183), (141, .spec (mkSpec real [.st [.int .i64, .int .i64, .int .i64, .int .i64, .int .i64]] (s_ones rops))), (184, .spec (mkSpec real [.int .i64] (s_mask rops))), (79, .spec (mkSpec real [.int .i64] (s_fmtOf rops))), (124, .spec (mkSpec real [.wide, .wide] (s_wAdd rops))), (83, .spec (mkSpec real [.wide, .int .i64] (s_shl rops))), (132, .spec (mkSpec real [.ints .u64] (s_of rops))), (86, .spec (mkSpec real [.int .i64] (s_power rops))), (133, .spec (mkSpec real [.wide] (s_low rops)))] := (fnsCons (inl_ok Tryz.func125 (by kernel_rfl) (by kernel_rfl)) (fnsCons (inl_ok Tryz.func183 (by kernel_rfl) (by kernel_rfl)) (fnsCons (fnSpec (p_ones)) (fnsCons (fnSpec (p_mask)) (fnsCons (fnSpec (p_fmtOf)) (fnsCons (fnSpec (p_wAdd)) (fnsCons (fnSpec (p_shl)) (fnsCons (fnSpec (p_of)) (fnsCons (fnSpec (p_power)) (fnsCons (fnSpec (p_low)) fnsNil))))))))))
  refine spec0 hfns (by kernel_rfl) Tryz.func154 (by kernel_rfl) (by kernel_rfl) (by kernel_rfl) 5 _ _ (.word) ?_
  clear hfns
  generalize hEE : env0 [(125, inlF Tryz.f125), (183, inlF Tryz.f183), (141, .spec (mkSpec real [.st [.int .i64, .int .i64, .int .i64, .int .i64, .int .i64]] (s_ones rops))), (184, .spec (mkSpec real [.int .i64] (s_mask rops))), (79, .spec (mkSpec real [.int .i64] (s_fmtOf rops))), (124, .spec (mkSpec real [.wide, .wide] (s_wAdd rops))), (83, .spec (mkSpec real [.wide, .int .i64] (s_shl rops))), (132, .spec (mkSpec real [.ints .u64] (s_of rops))), (86, .spec (mkSpec real [.int .i64] (s_power rops))), (133, .spec (mkSpec real [.wide] (s_low rops)))] = EE
  intro l r hl hr
  simp only [Forms, Form] at hl
  obtain ⟨_, _, rfl, ⟨x1, rfl, x1lo, x1hi⟩, _, _, rfl, ⟨x2, rfl⟩, rfl⟩ := hl
  subst hEE
  generalize hK : kR (.word) r = K
  generalize hO : real = O
  generalize hS0 : rops = S0
  set_option maxRecDepth 100000 in cbv
  subst hO hK hS0
  simp only [s_maxW, R.Y] at hr
  subst hr
  try dsimp only [real, rops]
  refine ⟨imp_f fun h => ?_, imp_t fun h => ?_⟩
  · simp only [kR, canon, getWord, asInt, r_mkWord, Option.some.injEq, LV.word.injEq]
    rw [mkWord_0]; exact (fWordOf_none (fOk_f h) _ _).symm
  · rcases f_cases (fOk_t h) with rfl | rfl | rfl | rfl <;> cases x2 <;> refine ⟨imp_f fun hh => ?_, imp_t fun hh => ?_⟩ <;> first | (cases hh; done) | (simp only [kR, canon, getWord, asInt, r_mkWord, Option.some.injEq, LV.word.injEq]; decide +kernel)
theorem p_noughtW : SpecOk Tryz.prog globs 81 (mkSpec real [.int .i64, .bool] (s_noughtW rops)) := by
  have hfns : FnsOk Tryz.prog globs [(125, inlF Tryz.f125), (126, inlF Tryz.f126), (79, .spec (mkSpec real [.int .i64] (s_fmtOf rops))), (124, .spec (mkSpec real [.wide, .wide] (s_wAdd rops))), (83, .spec (mkSpec real [.wide, .int .i64] (s_shl rops))), (132, .spec (mkSpec real [.ints .u64] (s_of rops))), (86, .spec (mkSpec real [.int .i64] (s_power rops))), (133, .spec (mkSpec real [.wide] (s_low rops)))] := (fnsCons (inl_ok Tryz.func125 (by kernel_rfl) (by kernel_rfl)) (fnsCons (inl_ok Tryz.func126 (by kernel_rfl) (by kernel_rfl)) (fnsCons (fnSpec (p_fmtOf)) (fnsCons (fnSpec (p_wAdd)) (fnsCons (fnSpec (p_shl)) (fnsCons (fnSpec (p_of)) (fnsCons (fnSpec (p_power)) (fnsCons (fnSpec (p_low)) fnsNil))))))))
  refine spec0 hfns (by kernel_rfl) Tryz.func81 (by kernel_rfl) (by kernel_rfl) (by kernel_rfl) 5 _ _ (.word) ?_
  clear hfns
  generalize hEE : env0 [(125, inlF Tryz.f125), (126, inlF Tryz.f126), (79, .spec (mkSpec real [.int .i64] (s_fmtOf rops))), (124, .spec (mkSpec real [.wide, .wide] (s_wAdd rops))), (83, .spec (mkSpec real [.wide, .int .i64] (s_shl rops))), (132, .spec (mkSpec real [.ints .u64] (s_of rops))), (86, .spec (mkSpec real [.int .i64] (s_power rops))), (133, .spec (mkSpec real [.wide] (s_low rops)))] = EE
  intro l r hl hr
  simp only [Forms, Form] at hl
  obtain ⟨_, _, rfl, ⟨x1, rfl, x1lo, x1hi⟩, _, _, rfl, ⟨x2, rfl⟩, rfl⟩ := hl
  subst hEE
  generalize hK : kR (.word) r = K
  generalize hO : real = O
  generalize hS0 : rops = S0
  set_option maxRecDepth 100000 in cbv
  subst hO hK hS0
  simp only [s_noughtW, R.Y] at hr
  subst hr
  try dsimp only [real, rops]
  refine ⟨imp_f fun h => ?_, imp_t fun h => ?_⟩
  · simp only [kR, canon, getWord, asInt, r_mkWord, Option.some.injEq, LV.word.injEq]
    rw [mkWord_0]; exact (fWordOf_none (fOk_f h) _ _).symm
  · rcases f_cases (fOk_t h) with rfl | rfl | rfl | rfl <;> cases x2 <;> refine ⟨imp_f fun hh => ?_, imp_t fun hh => ?_⟩ <;> first | (cases hh; done) | (simp only [kR, canon, getWord, asInt, r_mkWord, Option.some.injEq, LV.word.injEq]; decide +kernel)
end Go.LE