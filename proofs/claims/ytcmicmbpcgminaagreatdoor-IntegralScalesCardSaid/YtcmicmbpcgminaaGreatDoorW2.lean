import Derived.Test.YtcmicmbpcgminaaGreatDoorW1
set_option linter.unusedVariables false
set_option linter.unusedSimpArgs false
namespace Go.LE
open Go Go.Proofs
theorem of_cases {S : Ops} {k : EK} {l : List Int} {r : LV} (h : (s_of S [.ints k l]).Y r) : (∃ a, l = [a]) ∨ ∃ a b, l = [a, b] := by
  match l, h with
  | [], h => exact h.elim
  | [a], _ => exact .inl ⟨a, rfl⟩
  | [a, b], _ => exact .inr ⟨a, b, rfl⟩
  | _ :: _ :: _ :: _, h => exact h.elim
theorem p_of : SpecOk Tryz.prog globs 132 (mkSpec real [.ints .u64] (s_of rops)) := by
  have hfns : FnsOk Tryz.prog globs [] := fnsNil
  refine spec0 hfns (by kernel_rfl) Tryz.func132 (by kernel_rfl) (by kernel_rfl) (by kernel_rfl) 4 _ _ (.wide) ?_
  clear hfns
  generalize hEE : env0 [] = EE
  intro l r hl hr
  simp only [Forms, Form] at hl
  obtain ⟨_, _, rfl, ⟨x1, rfl, x1all, x1len⟩, rfl⟩ := hl
  obtain ⟨a, rfl⟩ | ⟨a, b, rfl⟩ := of_cases hr
  all_goals (
    subst hEE
    generalize hK : kR (.wide) r = K
    generalize hO : real = O
    set_option maxRecDepth 100000 in cbv
    subst hO hK 
    simp only [s_of, R.Y] at hr
    subst hr
    try dsimp only [real, rops]
    simp only [kR, canon, canons, ekEq, numE, getW, getWord, allInts8, asInt, isK, kindEq, isArgB, strOf, cBig, cInts, cWords, allInts, allWords, r_ofLimbs, r_mkWord, Option.some.injEq, LV.wide.injEq, LV.word.injEq, LV.int.injEq, LV.bool.injEq, LV.str.injEq, LV.big.injEq, LV.tup.injEq, LV.agg.injEq, List.cons.injEq, and_true, true_and]
  )
theorem p_from : SpecOk Tryz.prog globs 136 (mkSpec real [.word] (s_from rops)) := by
  have hfns : FnsOk Tryz.prog globs [(132, .spec (mkSpec real [.ints .u64] (s_of rops)))] := (fnsCons (fnSpec (p_of)) fnsNil)
  refine spec0 hfns (by kernel_rfl) Tryz.func136 (by kernel_rfl) (by kernel_rfl) (by kernel_rfl) 4 _ _ (.wide) ?_
  clear hfns
  generalize hEE : env0 [(132, .spec (mkSpec real [.ints .u64] (s_of rops)))] = EE
  intro l r hl hr
  simp only [Forms, Form] at hl
  obtain ⟨_, _, rfl, ⟨x1, rfl⟩, rfl⟩ := hl
  subst hEE
  generalize hK : kR (.wide) r = K
  generalize hO : real = O
  generalize hS0 : rops = S0
  set_option maxRecDepth 100000 in cbv
  subst hO hK hS0
  simp only [s_from, R.Y] at hr
  subst hr
  try dsimp only [real, rops]
  simp only [kR, canon, canons, ekEq, numE, getW, getWord, allInts8, asInt, isK, kindEq, isArgB, strOf, cBig, cInts, cWords, allInts, allWords, r_ofLimbs, r_mkWord, Option.some.injEq, LV.wide.injEq, LV.word.injEq, LV.int.injEq, LV.bool.injEq, LV.str.injEq, LV.big.injEq, LV.tup.injEq, LV.agg.injEq, List.cons.injEq, and_true, true_and]
  all_goals trace_state
theorem p_mask : SpecOk Tryz.prog globs 184 (mkSpec real [.int .i64] (s_mask rops)) := by
  have hfns : FnsOk Tryz.prog globs [(132, .spec (mkSpec real [.ints .u64] (s_of rops))), (86, .spec (mkSpec real [.int .i64] (s_power rops))), (85, .spec (mkSpec real [.wide, .wide] (s_wSub rops)))] := (fnsCons (fnSpec (p_of)) (fnsCons (fnSpec (p_power)) (fnsCons (fnSpec (p_wSub)) fnsNil)))
  refine spec0 hfns (by kernel_rfl) Tryz.func184 (by kernel_rfl) (by kernel_rfl) (by kernel_rfl) 4 _ _ (.wide) ?_
  clear hfns
  generalize hEE : env0 [(132, .spec (mkSpec real [.ints .u64] (s_of rops))), (86, .spec (mkSpec real [.int .i64] (s_power rops))), (85, .spec (mkSpec real [.wide, .wide] (s_wSub rops)))] = EE
  intro l r hl hr
  simp only [Forms, Form] at hl
  obtain ⟨_, _, rfl, ⟨x1, rfl, x1lo, x1hi⟩, rfl⟩ := hl
  subst hEE
  generalize hK : kR (.wide) r = K
  generalize hO : real = O
  generalize hS0 : rops = S0
  set_option maxRecDepth 100000 in cbv
  subst hO hK hS0
  simp only [s_mask, R.Y] at hr
  subst hr
  try dsimp only [real, rops]
  simp only [kR, canon, canons, ekEq, numE, getW, getWord, allInts8, asInt, isK, kindEq, isArgB, strOf, cBig, cInts, cWords, allInts, allWords, r_ofLimbs, r_mkWord, Option.some.injEq, LV.wide.injEq, LV.word.injEq, LV.int.injEq, LV.bool.injEq, LV.str.injEq, LV.big.injEq, LV.tup.injEq, LV.agg.injEq, List.cons.injEq, and_true, true_and]
  congr 2
  omega
theorem p_shl : SpecOk Tryz.prog globs 83 (mkSpec real [.wide, .int .i64] (s_shl rops)) := by
  have hfns : FnsOk Tryz.prog globs [(128, inlF Tryz.f128), (129, inlF Tryz.f129), (130, inlF Tryz.f130), (131, .spec (mkSpec real [.wide, .int .i64, .int .u64] (s_at rops)))] := (fnsCons (inl_ok Tryz.func128 (by kernel_rfl) (by kernel_rfl)) (fnsCons (inl_ok Tryz.func129 (by kernel_rfl) (by kernel_rfl)) (fnsCons (inl_ok Tryz.func130 (by kernel_rfl) (by kernel_rfl)) (fnsCons (fnSpec (p_at)) fnsNil))))
  refine spec0 hfns (by kernel_rfl) Tryz.func83 (by kernel_rfl) (by kernel_rfl) (by kernel_rfl) 5 _ _ (.wide) ?_
  clear hfns
  generalize hEE : env0 [(128, inlF Tryz.f128), (129, inlF Tryz.f129), (130, inlF Tryz.f130), (131, .spec (mkSpec real [.wide, .int .i64, .int .u64] (s_at rops)))] = EE
  intro l r hl hr
  simp only [Forms, Form] at hl
  obtain ⟨_, _, rfl, ⟨x1, rfl⟩, _, _, rfl, ⟨x2, rfl, x2lo, x2hi⟩, rfl⟩ := hl
  subst hEE
  generalize hK : kR (.wide) r = K
  generalize hO : real = O
  generalize hS0 : rops = S0
  set_option maxRecDepth 100000 in cbv
  subst hO hK hS0
  simp only [s_shl, R.Y] at hr
  subst hr
  try dsimp only [real, rops]
  simp only [mx_mn]
  unfold wShl
  have hc := clamp_rng x2
  generalize wClamp x2 = n at *
  simp only [quo64 hc.1 (by omega), rem64 hc.1]
  have hr : 0 ≤ n % 64 ∧ n % 64 < 64 := by omega
  have hk : 0 ≤ n / 64 ∧ n / 64 ≤ 8 := by omega
  have hm : n = 64 * (n / 64) + n % 64 := by omega
  generalize n / 64 = k at *
  generalize n % 64 = r at *
  simp (disch := omega) only [sub_i64]
  repeat' (first | apply And.intro | (refine imp_f fun _ => ?_) | (refine imp_t fun _ => ?_))
  all_goals first | omega | skip
  simp only [kR, canon, canons, ekEq, numE, getW, getWord, allInts8, asInt, isK, kindEq, isArgB, strOf, cBig, cInts, cWords, allInts, allWords, r_ofLimbs, r_mkWord, Option.some.injEq, LV.wide.injEq, LV.word.injEq, LV.int.injEq, LV.bool.injEq, LV.str.injEq, LV.big.injEq, LV.tup.injEq, LV.agg.injEq, List.cons.injEq, and_true, true_and]
  exact ofLimbs_eq (shl_limb x1 hm hr hk 0 (by decide) _ rfl) (shl_limb x1 hm hr hk 1 (by decide) _ rfl) (shl_limb x1 hm hr hk 2 (by decide) _ rfl) (shl_limb x1 hm hr hk 3 (by decide) _ rfl) (shl_limb x1 hm hr hk 4 (by decide) _ rfl) (shl_limb x1 hm hr hk 5 (by decide) _ rfl) (shl_limb x1 hm hr hk 6 (by decide) _ rfl) (shl_limb x1 hm hr hk 7 (by decide) _ rfl)
theorem p_shr : SpecOk Tryz.prog globs 104 (mkSpec real [.wide, .int .i64] (s_shr rops)) := by
  have hfns : FnsOk Tryz.prog globs [(128, inlF Tryz.f128), (129, inlF Tryz.f129), (156, inlF Tryz.f156), (186, inlF Tryz.f186), (131, .spec (mkSpec real [.wide, .int .i64, .int .u64] (s_at rops))), (83, .spec (mkSpec real [.wide, .int .i64] (s_shl rops)))] := (fnsCons (inl_ok Tryz.func128 (by kernel_rfl) (by kernel_rfl)) (fnsCons (inl_ok Tryz.func129 (by kernel_rfl) (by kernel_rfl)) (fnsCons (inl_ok Tryz.func156 (by kernel_rfl) (by kernel_rfl)) (fnsCons (inl_ok Tryz.func186 (by kernel_rfl) (by kernel_rfl)) (fnsCons (fnSpec (p_at)) (fnsCons (fnSpec (p_shl)) fnsNil))))))
  refine spec0 hfns (by kernel_rfl) Tryz.func104 (by kernel_rfl) (by kernel_rfl) (by kernel_rfl) 5 _ _ (.tup [.wide, .bool]) ?_
  clear hfns
  generalize hEE : env0 [(128, inlF Tryz.f128), (129, inlF Tryz.f129), (156, inlF Tryz.f156), (186, inlF Tryz.f186), (131, .spec (mkSpec real [.wide, .int .i64, .int .u64] (s_at rops))), (83, .spec (mkSpec real [.wide, .int .i64] (s_shl rops)))] = EE
  intro l r hl hr
  simp only [Forms, Form] at hl
  obtain ⟨_, _, rfl, ⟨x1, rfl⟩, _, _, rfl, ⟨x2, rfl, x2lo, x2hi⟩, rfl⟩ := hl
  subst hEE
  generalize hK : kR (.tup [.wide, .bool]) r = K
  generalize hO : real = O
  generalize hS0 : rops = S0
  set_option maxRecDepth 100000 in cbv
  subst hO hK hS0
  simp only [s_shr, R.Y] at hr
  subst hr
  try dsimp only [real, rops]
  simp only [mx_mn]
  have hc := clamp_rng x2
  have hcc : wClamp (wClamp x2) = wClamp x2 := by unfold wClamp; omega
  have key : ∀ n, wClamp x2 = n → wShr x1 x2 = x1 >>> n.toNat := fun n h => by unfold wShr; rw [h]
  have key2 : ∀ a n, wClamp x2 = n → wShl a x2 = wShl a n := fun a n h => by unfold wShl; rw [← h, hcc]
  generalize hn : wClamp x2 = n at *
  simp only [key n rfl, fun a => key2 a n rfl]
  simp only [quo64 hc.1 (by omega), rem64 hc.1]
  have hr : 0 ≤ n % 64 ∧ n % 64 < 64 := by omega
  have hk : 0 ≤ n / 64 ∧ n / 64 ≤ 8 := by omega
  have hm : n = 64 * (n / 64) + n % 64 := by omega
  generalize n / 64 = k at *
  generalize n % 64 = r at *
  simp (disch := omega) only [sub_i64, add_i64]
  have hx := ofLimbs_eq (shr_limb x1 hm hr hk 0 (by decide) 0 rfl) (shr_limb x1 hm hr hk 1 (by decide) 1 rfl) (shr_limb x1 hm hr hk 2 (by decide) 2 rfl) (shr_limb x1 hm hr hk 3 (by decide) 3 rfl) (shr_limb x1 hm hr hk 4 (by decide) 4 rfl) (shr_limb x1 hm hr hk 5 (by decide) 5 rfl) (shr_limb x1 hm hr hk 6 (by decide) 6 rfl) (shr_limb x1 hm hr hk 7 (by decide) 7 rfl)
  repeat' (first | apply And.intro | (refine imp_f fun _ => ?_) | (refine imp_t fun _ => ?_))
  all_goals first | omega | skip
  simp only [kR, canon, canons, ekEq, numE, getW, getWord, allInts8, asInt, isK, kindEq, isArgB, strOf, cBig, cInts, cWords, allInts, allWords, r_ofLimbs, r_mkWord, Option.some.injEq, LV.wide.injEq, LV.word.injEq, LV.int.injEq, LV.bool.injEq, LV.str.injEq, LV.big.injEq, LV.tup.injEq, LV.agg.injEq, List.cons.injEq, and_true, true_and]
  refine ⟨hx, ?_⟩
  rw [hx]
  simp
theorem p_len64 : SpecOk Tryz.prog globs 177 (mkSpec real [.int .u64] (s_len64 rops)) := by
  have hfns : FnsOk Tryz.prog globs [] := fnsNil
  refine spec0 hfns (by kernel_rfl) Tryz.func177 (by kernel_rfl) (by kernel_rfl) (by kernel_rfl) 5 _ _ (.int .i64) ?_
  clear hfns
  generalize hEE : env0 [] = EE
  intro l r hl hr
  simp only [Forms, Form] at hl
  obtain ⟨_, _, rfl, ⟨x1, rfl, x1lo, x1hi⟩, rfl⟩ := hl
  subst hEE
  generalize hK : kR (.int .i64) r = K
  generalize hO : real = O
  set_option maxRecDepth 100000 in cbv
  subst hO hK 
  simp only [s_len64, R.Y] at hr
  subst hr
  try dsimp only [real, rops]
  rw [u64_min] at x1lo
  rw [u64_max] at x1hi
  set_option maxRecDepth 100000 in simp only [shr32, shr16, shr8]
  have e1 : x1 / 4294967296 / 65536 = x1 / 281474976710656 := by omega
  have e2 : x1 / 4294967296 / 256 = x1 / 1099511627776 := by omega
  have e3 : x1 / 4294967296 / 65536 / 256 = x1 / 72057594037927936 := by omega
  have e4 : x1 / 65536 / 256 = x1 / 16777216 := by omega
  set_option maxRecDepth 100000 in simp only [e1, e2, e4]
  have e5 : x1 / 281474976710656 / 256 = x1 / 72057594037927936 := by omega
  set_option maxRecDepth 100000 in simp only [e5]
  repeat' (first | apply And.intro | (refine imp_f fun _ => ?_) | (refine imp_t fun _ => ?_))
  all_goals set_option maxRecDepth 100000 in simp only [c_eql_t, c_eql_f, c_neq_t, c_neq_f, c_lss_t, c_lss_f, c_leq_t, c_leq_f, c_gtr_t, c_gtr_f, c_geq_t, c_geq_f] at *
  all_goals first
    | (rw [u8_wrap (by omega)]; omega)
    | (rw [u8_wrap (by omega)]; set_option maxRecDepth 100000 in show _ < ((256 : Nat) : Int); omega)
    | (set_option maxRecDepth 100000 in simp only [kR, canon, isK, asInt, kindEq, Option.some.injEq, LV.int.injEq, true_and])
  all_goals first
    | exact len64_leaf (s := 56) (by omega) rfl (by decide) rfl (.inr (by simp only [Nat.reducePow]; omega))
    | exact len64_leaf (s := 48) (by omega) rfl (by decide) rfl (.inr (by simp only [Nat.reducePow]; omega))
    | exact len64_leaf (s := 40) (by omega) rfl (by decide) rfl (.inr (by simp only [Nat.reducePow]; omega))
    | exact len64_leaf (s := 32) (by omega) rfl (by decide) rfl (.inr (by simp only [Nat.reducePow]; omega))
    | exact len64_leaf (s := 24) (by omega) rfl (by decide) rfl (.inr (by simp only [Nat.reducePow]; omega))
    | exact len64_leaf (s := 16) (by omega) rfl (by decide) rfl (.inr (by simp only [Nat.reducePow]; omega))
    | exact len64_leaf (s := 8) (by omega) rfl (by decide) rfl (.inr (by simp only [Nat.reducePow]; omega))
    | exact len64_leaf (s := 0) (by omega) rfl (by decide) (by simp) (.inl rfl)
theorem p_wLen : SpecOk Tryz.prog globs 99 (mkSpec real [.wide] (s_wLen rops)) := by
  have hfns : FnsOk Tryz.prog globs [(152, inlF Tryz.f152), (176, inlF Tryz.f176), (177, .spec (mkSpec real [.int .u64] (s_len64 rops)))] := (fnsCons (inl_ok Tryz.func152 (by kernel_rfl) (by kernel_rfl)) (fnsCons (inl_ok Tryz.func176 (by kernel_rfl) (by kernel_rfl)) (fnsCons (fnSpec (p_len64)) fnsNil)))
  refine spec0 hfns (by kernel_rfl) Tryz.func99 (by kernel_rfl) (by kernel_rfl) (by kernel_rfl) 5 _ _ (.int .i64) ?_
  clear hfns
  generalize hEE : env0 [(152, inlF Tryz.f152), (176, inlF Tryz.f176), (177, .spec (mkSpec real [.int .u64] (s_len64 rops)))] = EE
  intro l r hl hr
  simp only [Forms, Form] at hl
  obtain ⟨_, _, rfl, ⟨x1, rfl⟩, rfl⟩ := hl
  subst hEE
  generalize hK : kR (.int .i64) r = K
  generalize hO : real = O
  generalize hS0 : rops = S0
  set_option maxRecDepth 100000 in cbv
  subst hO hK hS0
  simp only [s_wLen, R.Y] at hr
  subst hr
  try dsimp only [real, rops]
  repeat' (first | apply And.intro | (refine imp_f fun _ => ?_) | (refine imp_t fun _ => ?_))
  all_goals simp only [c_eql_t, c_eql_f, c_neq_t, c_neq_f, c_lss_t, c_lss_f, c_leq_t, c_leq_f, c_gtr_t, c_gtr_f, c_geq_t, c_geq_f, Int.ofNat_eq_natCast] at *
  all_goals simp only [kR, canon, isK, asInt, kindEq, Option.some.injEq, LV.int.injEq, true_and]
  · apply wLen_0 <;> assumption
  · exact wLen_leaf x1 0 (by decide) (by assumption) (fun j h1 h2 => by
      have : j = 1 ∨ j = 2 ∨ j = 3 ∨ j = 4 ∨ j = 5 ∨ j = 6 ∨ j = 7 := by omega
      rcases this with rfl | rfl | rfl | rfl | rfl | rfl | rfl <;> assumption) (by decide)
  · exact wLen_leaf x1 1 (by decide) (by assumption) (fun j h1 h2 => by
      have : j = 2 ∨ j = 3 ∨ j = 4 ∨ j = 5 ∨ j = 6 ∨ j = 7 := by omega
      rcases this with rfl | rfl | rfl | rfl | rfl | rfl <;> assumption) (by decide)
  · exact wLen_leaf x1 2 (by decide) (by assumption) (fun j h1 h2 => by
      have : j = 3 ∨ j = 4 ∨ j = 5 ∨ j = 6 ∨ j = 7 := by omega
      rcases this with rfl | rfl | rfl | rfl | rfl <;> assumption) (by decide)
  · exact wLen_leaf x1 3 (by decide) (by assumption) (fun j h1 h2 => by
      have : j = 4 ∨ j = 5 ∨ j = 6 ∨ j = 7 := by omega
      rcases this with rfl | rfl | rfl | rfl <;> assumption) (by decide)
  · exact wLen_leaf x1 4 (by decide) (by assumption) (fun j h1 h2 => by
      have : j = 5 ∨ j = 6 ∨ j = 7 := by omega
      rcases this with rfl | rfl | rfl <;> assumption) (by decide)
  · exact wLen_leaf x1 5 (by decide) (by assumption) (fun j h1 h2 => by
      have : j = 6 ∨ j = 7 := by omega
      rcases this with rfl | rfl <;> assumption) (by decide)
  · exact wLen_leaf x1 6 (by decide) (by assumption) (fun j h1 h2 => by
      have : j = 7 := by omega
      subst this; assumption) (by decide)
  · exact wLen_leaf x1 7 (by decide) (by assumption) (fun j h1 h2 => by omega) (by decide)
theorem p_wBit : SpecOk Tryz.prog globs 127 (mkSpec real [.wide, .int .i64] (s_wBit rops)) := by
  have hfns : FnsOk Tryz.prog globs [(172, inlF Tryz.f172), (190, inlF Tryz.f190)] := (fnsCons (inl_ok Tryz.func172 (by kernel_rfl) (by kernel_rfl)) (fnsCons (inl_ok Tryz.func190 (by kernel_rfl) (by kernel_rfl)) fnsNil))
  refine spec0 hfns (by kernel_rfl) Tryz.func127 (by kernel_rfl) (by kernel_rfl) (by kernel_rfl) 5 _ _ (.bool) ?_
  clear hfns
  generalize hEE : env0 [(172, inlF Tryz.f172), (190, inlF Tryz.f190)] = EE
  intro l r hl hr
  simp only [Forms, Form] at hl
  obtain ⟨_, _, rfl, ⟨x1, rfl⟩, _, _, rfl, ⟨x2, rfl, x2lo, x2hi⟩, rfl⟩ := hl
  subst hEE
  generalize hK : kR (.bool) r = K
  generalize hO : real = O
  set_option maxRecDepth 100000 in cbv
  subst hO hK 
  simp only [s_wBit, R.Y] at hr
  subst hr
  try dsimp only [real, rops]
  rw [i64_min] at x2lo
  rw [i64_max] at x2hi
  refine ⟨imp_f fun h0 => ?_, imp_t fun h0 => ?_⟩
  · rw [c_geq_t] at h0
    simp only [quo64 h0 x2hi, rem64 h0]
    have hr : 0 ≤ x2 % 64 ∧ x2 % 64 < 64 := by omega
    repeat' (first | apply And.intro | (refine imp_f fun _ => ?_) | (refine imp_t fun _ => ?_))
    all_goals simp only [c_eql_t, c_eql_f, c_neq_t, c_neq_f, c_lss_t, c_lss_f, c_leq_t, c_leq_f, c_gtr_t, c_gtr_f, c_geq_t, c_geq_f, Int.ofNat_eq_natCast] at *
    all_goals first | omega | simp only [kR, canon, isArgB, Option.some.injEq, LV.bool.injEq]
    · exact bit_leaf0 x1 (by omega) hr.1
    · exact bit_leaf x1 0 (by omega) hr
    · exact bit_leaf x1 1 (by omega) hr
    · exact bit_leaf x1 2 (by omega) hr
    · exact bit_leaf x1 3 (by omega) hr
    · exact bit_leaf x1 4 (by omega) hr
    · exact bit_leaf x1 5 (by omega) hr
    · exact bit_leaf x1 6 (by omega) hr
    · exact bit_leaf x1 7 (by omega) hr
  · rw [c_geq_f] at h0
    have : wBit x1 x2 = false := by unfold wBit; rw [decide_eq_false (by omega)]; exact Bool.false_and _
    rw [this]
    simp only [kR, canon, isArgB]
end Go.LE