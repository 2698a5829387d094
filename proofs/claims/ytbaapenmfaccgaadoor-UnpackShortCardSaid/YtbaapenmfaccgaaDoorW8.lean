import Derived.Test.YtbaapenmfaccgaaDoorW5
set_option linter.unusedVariables false
set_option linter.unusedSimpArgs false
namespace Go.LE
open Go Go.Proofs
structure OpsB where
  nn : Int → Prop
  notF : Int → Prop
  yesF : Int → Prop
  notIs : Int → Prop
  is : Int → Prop
  wdbit : BitVec 128 → Int → Bool
  fits : Int → BitVec 128 → Bool
  fname : Int → ByteArray
  byN : ByteArray → Int
  byOk : ByteArray → Bool
noncomputable def ropsB : OpsB where
  nn := fun n => 0 ≤ n
  notF := fun f => fOk f = false
  yesF := fun f => fOk f = true
  notIs := fun f => ¬ (1 ≤ f ∧ f ≤ 4)
  is := fun f => 1 ≤ f ∧ f ≤ 4
  wdbit := wdBit
  fits := fFits
  fname := fName
  byN := fByName
  byOk := fun s => decide (fByName s > 0)
def s_isNot (S : OpsB) : List LV → R LV
  | [.int _ f] => .req (S.notF f) (.ok (.blit false))
  | _ => .fail
def s_isYes (S : OpsB) : List LV → R LV
  | [.int _ f] => .req (S.yesF f) (.ok (.blit true))
  | _ => .fail
theorem p_isNot : SpecOk Tryd.prog globs 15 (mkSpec real [.int .i64] (s_isNot ropsB)) := by
  refine spec_as p_is ?_
  intro l r h
  unfold s_isNot at h
  split at h
  · obtain ⟨h1, rfl⟩ := h
    exact ⟨_, rfl, by rw [show rops.fOk _ = false from h1]; exact same_blit false⟩
  · exact h.elim
theorem p_isYes : SpecOk Tryd.prog globs 15 (mkSpec real [.int .i64] (s_isYes ropsB)) := by
  refine spec_as p_is ?_
  intro l r h
  unfold s_isYes at h
  split at h
  · obtain ⟨h1, rfl⟩ := h
    exact ⟨_, rfl, by rw [show rops.fOk _ = true from h1]; exact same_blit true⟩
  · exact h.elim
def s_bit05 (S : OpsB) : List LV → R LV
  | [.word w, .int _ n] => .req (S.nn n) (.ok (.bool (S.wdbit w n)))
  | _ => .fail
def s_fits05 (S : OpsB) : List LV → R LV
  | [.int _ f, .word w] => .ok (.bool (S.fits f w))
  | _ => .fail
def s_fits (S : OpsB) : List LV → R LV
  | [.int _ f, .word w] => .ok (.bool (S.fits f w))
  | _ => .fail
def s_fname (S : OpsB) : List LV → R LV
  | [.int _ f] => .ok (.str (S.fname f))
  | _ => .fail
def s_byName (S : OpsB) : List LV → R LV
  | [.str s] => .ok (.tup [.int .i64 (S.byN s), .bool (S.byOk s)])
  | _ => .fail
def s_true (_ : OpsB) : List LV → R LV := fun _ => .ok (.bool true)
def s_FormatWords (_ : OpsB) : List LV → R LV := fun _ => .ok (.bool true)
def s_FormatOf (_ : OpsB) : List LV → R LV := fun _ => .ok (.bool true)
def s_FormatOfNot (S : OpsB) : List LV → R LV
  | [.int _ f] => .req (S.notIs f) (.ok (.bool true))
  | _ => .fail
def s_FormatOfYes (S : OpsB) : List LV → R LV
  | [.int _ f] => .req (S.is f) (.ok (.bool true))
  | _ => .fail
def s_FormatNames (_ : OpsB) : List LV → R LV := fun _ => .ok (.bool true)
def s_awake05 (_ : OpsB) : List LV → R LV := fun _ => .ok (.bool true)
theorem p_bit05 : SpecOk Tryd.prog globs 90 (mkSpec real [.word, .int .i64] (s_bit05 ropsB)) := by
  have hfns : FnsOk Tryd.prog globs [] := fnsNil
  refine spec0 hfns (by kernel_rfl) Tryd.func90 (by kernel_rfl) (by kernel_rfl) (by kernel_rfl) 4 _ _ (.bool) ?_
  clear hfns
  generalize hEE : env0 [] = EE
  intro l r hl hr
  simp only [Forms, Form] at hl
  obtain ⟨_, _, rfl, ⟨x1, rfl⟩, _, _, rfl, ⟨x2, rfl, x2lo, x2hi⟩, rfl⟩ := hl
  subst hEE
  generalize hK : kR (.bool) r = K
  generalize hO : real = O
  set_option maxRecDepth 100000 in cbv
  subst hO hK 
  simp only [s_bit05, R.Y] at hr
  obtain ⟨hreq, hr⟩ := hr
  try dsimp only [rops, ropsB] at hreq
  subst hr
  try dsimp only [real, rops, ropsB]
  rw [i64_max] at x2hi
  replace hreq : 0 ≤ x2 := hreq
  repeat' (first | apply And.intro | (refine imp_f fun _ => ?_) | (refine imp_t fun _ => ?_))
  all_goals simp only [c_eql_t, c_eql_f, c_neq_t, c_neq_f, c_lss_t, c_lss_f, c_leq_t, c_leq_f, c_gtr_t, c_gtr_f, c_geq_t, c_geq_f] at *
  all_goals first
    | (rw [sub_i64 (by omega) (by omega)]; omega)
    | exact hreq
    | (simp only [kR, canon, isArgB, Option.some.injEq, LV.bool.injEq]; rcases wd_hi x1 (by assumption) with h | h; exact h; omega)
    | (simp only [kR, canon, isArgB, Option.some.injEq, LV.bool.injEq]; exact wd_lo x1 hreq (by assumption))
theorem p_fname : SpecOk Tryd.prog globs 29 (mkSpec real [.int .i64] (s_fname ropsB)) := by
  have hfns : FnsOk Tryd.prog globs [(28, inlF Tryd.f28)] := (fnsCons (inl_ok Tryd.func28 (by kernel_rfl) (by kernel_rfl)) fnsNil)
  refine spec0' hfns (by kernel_rfl) Tryd.func29 (by kernel_rfl) (by kernel_rfl) (by kernel_rfl) 4 _ _ (.str) ?_
  clear hfns
  generalize hEE : env0 [(28, inlF Tryd.f28)] = EE
  intro l r hl hr
  simp only [Forms, Form] at hl
  obtain ⟨_, _, rfl, ⟨x1, rfl, x1lo, x1hi⟩, rfl⟩ := hl
  subst hEE
  have hr : r = _ := hr.symm
  subst hr
  by_cases hq : 1 ≤ x1 ∧ x1 ≤ 4
  · rcases f_cases hq with rfl | rfl | rfl | rfl
    · refine ⟨[.lit .i64 1], ⟨same_lit _ _, trivial⟩, ?_⟩
      set_option maxRecDepth 100000 in cbv
    · refine ⟨[.lit .i64 2], ⟨same_lit _ _, trivial⟩, ?_⟩
      set_option maxRecDepth 100000 in cbv
    · refine ⟨[.lit .i64 3], ⟨same_lit _ _, trivial⟩, ?_⟩
      set_option maxRecDepth 100000 in cbv
    · refine ⟨[.lit .i64 4], ⟨same_lit _ _, trivial⟩, ?_⟩
      set_option maxRecDepth 100000 in cbv
  · refine ⟨[.int .i64 x1], ⟨same_refl _, trivial⟩, ?_⟩
    generalize hK : kR _ _ = K
    generalize hO : real = O
    set_option maxRecDepth 100000 in cbv
    subst hO hK
    dsimp only [real]
    repeat' (first | apply And.intro | (refine imp_f fun _ => ?_) | (refine imp_t fun _ => ?_))
    all_goals simp only [c_eql_t, c_eql_f, c_neq_t, c_neq_f, c_lss_t, c_lss_f, c_leq_t, c_leq_f, c_gtr_t, c_gtr_f, c_geq_t, c_geq_f] at *
    all_goals first
      | (exfalso; omega)
      | (simp only [kR, canon, strOf, Option.some.injEq, LV.str.injEq]; dsimp only [ropsB, fName]; rw [if_neg (by omega), if_neg (by omega), if_neg (by omega), if_neg (by omega)]; rfl)
theorem p_byName : SpecOk Tryd.prog globs 30 (mkSpec real [.str] (s_byName ropsB)) := by
  have hfns : FnsOk Tryd.prog globs [] := fnsNil
  refine spec0 hfns (by kernel_rfl) Tryd.func30 (by kernel_rfl) (by kernel_rfl) (by kernel_rfl) 4 _ _ (.tup [.int .i64, .bool]) ?_
  clear hfns
  generalize hEE : env0 [] = EE
  intro l r hl hr
  simp only [Forms, Form] at hl
  obtain ⟨_, _, rfl, ⟨x1, rfl, x1len⟩, rfl⟩ := hl
  subst hEE
  generalize hK : kR (.tup [.int .i64, .bool]) r = K
  generalize hO : real = O
  set_option maxRecDepth 100000 in cbv
  subst hO hK 
  simp only [s_byName, R.Y] at hr
  subst hr
  try dsimp only [real, rops, ropsB]
  repeat' (first | apply And.intro | (refine imp_f fun _ => ?_) | (refine imp_t fun _ => ?_))
  all_goals simp only [kR, canon, canons, isK, asInt, kindEq, isArgB, Option.some.injEq, LV.tup.injEq, List.cons.injEq, LV.int.injEq, LV.bool.injEq, and_true, true_and]
  all_goals unfold fByName
  · rw [if_pos (by assumption)]; exact ⟨rfl, rfl⟩
  · rw [if_neg (ne_true_of_eq_false (by assumption)), if_pos (by assumption)]; exact ⟨rfl, rfl⟩
  · rw [if_neg (ne_true_of_eq_false (by assumption)), if_neg (ne_true_of_eq_false (by assumption)), if_pos (by assumption)]; exact ⟨rfl, rfl⟩
  · rw [if_neg (ne_true_of_eq_false (by assumption)), if_neg (ne_true_of_eq_false (by assumption)), if_neg (ne_true_of_eq_false (by assumption)), if_pos (by assumption)]; exact ⟨rfl, rfl⟩
  · rw [if_neg (ne_true_of_eq_false (by assumption)), if_neg (ne_true_of_eq_false (by assumption)), if_neg (ne_true_of_eq_false (by assumption)), if_neg (ne_true_of_eq_false (by assumption))]; exact ⟨rfl, rfl⟩
theorem kb_t (b : Bool) : kR .bool (.bool true) (.bool b) = (b = true) := by
  simp only [kR, canon, isArgB, Option.some.injEq, LV.bool.injEq]
theorem kb_lt : kR .bool (.bool true) (.blit true) = True := by
  simp only [kR, canon, isArgB]
theorem kb_lf : kR .bool (.bool true) (.blit false) = False := by
  simp [kR, canon, isArgB]
theorem p_awake05 : SpecOk Tryd.prog globs 22 (mkSpec real [] (s_awake05 ropsB)) := by
  have hfns : FnsOk Tryd.prog globs [(16, .spec (mkSpec real [.int .i64, .bool] (s_infW rops))), (18, .spec (mkSpec real [.int .i64, .bool] (s_maxW rops)))] := (fnsCons (fnSpec (p_infW)) (fnsCons (fnSpec (p_maxW)) fnsNil))
  refine spec0 hfns (by kernel_rfl) Tryd.func22 (by kernel_rfl) (by kernel_rfl) (by kernel_rfl) 4 _ _ (.bool) ?_
  clear hfns
  generalize hEE : env0 [(16, .spec (mkSpec real [.int .i64, .bool] (s_infW rops))), (18, .spec (mkSpec real [.int .i64, .bool] (s_maxW rops)))] = EE
  intro l r hl hr
  simp only [Forms, Form] at hl
  obtain rfl := hl
  subst hEE
  generalize hK : kR (.bool) r = K
  generalize hO : real = O
  generalize hS0 : rops = S0
  generalize hS1 : ropsB = S1
  set_option maxRecDepth 100000 in cbv
  subst hO hK hS0 hS1
  simp only [s_awake05, R.Y] at hr
  subst hr
  try dsimp only [real, rops, ropsB]
  simp only [kb_t, kb_lt, kb_lf]; decide +kernel
theorem p_fits : SpecOk Tryd.prog globs 36 (mkSpec real [.int .i64, .word] (s_fits ropsB)) := by
  have hfns : FnsOk Tryd.prog globs [(28, .spec (mkSpec real [.int .i64] (s_fmtOf rops))), (89, .spec (mkSpec real [.word] (s_from rops))), (88, .spec (mkSpec real [.wide] (s_wLen rops)))] := (fnsCons (fnSpec (p_fmtOf)) (fnsCons (fnSpec (p_from)) (fnsCons (fnSpec (p_wLen)) fnsNil)))
  refine spec0 hfns (by kernel_rfl) Tryd.func36 (by kernel_rfl) (by kernel_rfl) (by kernel_rfl) 4 _ _ (.bool) ?_
  clear hfns
  generalize hEE : env0 [(28, .spec (mkSpec real [.int .i64] (s_fmtOf rops))), (89, .spec (mkSpec real [.word] (s_from rops))), (88, .spec (mkSpec real [.wide] (s_wLen rops)))] = EE
  intro l r hl hr
  simp only [Forms, Form] at hl
  obtain ⟨_, _, rfl, ⟨x1, rfl, x1lo, x1hi⟩, _, _, rfl, ⟨x2, rfl⟩, rfl⟩ := hl
  subst hEE
  generalize hK : kR (.bool) r = K
  generalize hO : real = O
  generalize hS0 : rops = S0
  generalize hS1 : ropsB = S1
  set_option maxRecDepth 100000 in cbv
  subst hO hK hS0 hS1
  simp only [s_fits, R.Y] at hr
  subst hr
  try dsimp only [real, rops, ropsB]
  refine ⟨imp_f fun h => ?_, imp_t fun h => ?_⟩
  · simp only [kR, canon, isArgB, Option.some.injEq, LV.bool.injEq]
    exact fits_leaf h
  · simp only [kR, canon, isArgB, Option.some.injEq, LV.bool.injEq]
    exact (fFits_none h).symm
theorem p_fits05 : SpecOk Tryd.prog globs 37 (mkSpec real [.int .i64, .word] (s_fits05 ropsB)) := by
  have hfns : FnsOk Tryd.prog globs [(31, .spec (mkSpec real [.int .i64] (s_bits rops))), (15, .spec (mkSpec real [.int .i64] (s_is rops))), (90, .spec (mkSpec real [.word, .int .i64] (s_bit05 ropsB)))] := (fnsCons (fnSpec (p_bits)) (fnsCons (fnSpec (p_is)) (fnsCons (fnSpec (p_bit05)) fnsNil)))
  refine specL (fun _ => [0,3,5]) hfns (by kernel_rfl) Tryd.func37 (by kernel_rfl) (by kernel_rfl) (by kernel_rfl) 4 _ _ (.bool) ?_
  clear hfns
  generalize hEE : envL (fun _ => [0,3,5]) [(31, .spec (mkSpec real [.int .i64] (s_bits rops))), (15, .spec (mkSpec real [.int .i64] (s_is rops))), (90, .spec (mkSpec real [.word, .int .i64] (s_bit05 ropsB)))] = EE
  intro l r hl hr
  simp only [Forms, Form] at hl
  obtain ⟨_, _, rfl, ⟨x1, rfl, x1lo, x1hi⟩, _, _, rfl, ⟨x2, rfl⟩, rfl⟩ := hl
  subst hEE
  generalize hK : kR (.bool) r = K
  generalize hO : real = O
  generalize hS0 : rops = S0
  generalize hS1 : ropsB = S1
  set_option maxRecDepth 100000 in cbv
  have hr : r = _ := hr.symm
  subst hO hK hS0 hS1
  subst hr
  refine ⟨imp_f fun h => ?_, imp_t fun h => ?_⟩
  · have h : fOk x1 = false := by have h' : (!fOk x1) = true := h; simpa using h'
    simp only [kR, canon, isArgB, Option.some.injEq, LV.bool.injEq]
    exact (fFits_none h).symm
  · have hf : 1 ≤ x1 ∧ x1 ≤ 4 := fOk_t h
    have hb := b_len x1 hf
    refine ⟨hf, ?_⟩
    refine loop_rule (α := Int) (fun n => ⟨[.int .i64 x1, .undef, .undef, .ptr 0 0, .undef, .int .i64 n, .undef, .undef, .undef, .undef, .undef, .undef, .undef, .undef, .undef, .undef, .undef, .undef], ofL [some (wordT, .word x2), none, none, none, none, none, none, none], 8⟩)
      (fun m n => fBits x1 ≤ n ∧ n ≤ 128 ∧ (∀ j, fBits x1 ≤ j → j < n → wdBit x2 j = false) ∧ 128 - n ≤ m) ?_ 128 (fBits x1) ⟨by omega, by omega, fun j h1 h2 => by omega, by omega⟩
    rintro m n X ⟨h1, h2, h3, h4⟩ hX
    (generalize hK : kR _ _ = K; generalize hO : real = O; generalize hS0 : rops = S0; generalize hS1 : ropsB = S1; set_option maxRecDepth 100000 in cbv; subst hO hK hS0 hS1; dsimp only [real, rops, ropsB])
    refine ⟨imp_f fun h => ?_, imp_t fun h => ?_⟩
    · rw [c_lss_t] at h
      refine ⟨by omega, imp_f fun hb => ?_, imp_t fun hb => ?_⟩
      · simp only [kR, canon, isArgB, Option.some.injEq, LV.bool.injEq]
        exact (fFits_f h1 hb).symm
      · have hi : arithR .add .i64 n 1 = n + 1 := add_i64 (by omega) (by omega)
        have h5 : 128 - n ≤ ((m : Nat) : Int) := h4
        clear h4
        have hm : m = (m - 1) + 1 := by omega
        have hc : 128 - (n + 1) ≤ ((m - 1 : Nat) : Int) := by omega
        have := hX (m - 1) (n + 1) hm ⟨by omega, by omega, fun j g1 g2 => by
          by_cases hj : j = n
          · subst hj; exact hb
          · exact h3 j g1 (by omega), hc⟩
        rw [← hi] at this
        exact this
    · rw [c_lss_f] at h
      simp only [kR, canon, isArgB, Option.some.injEq, LV.bool.injEq]
      exact Eq.symm <| fFits_t hf fun j g1 g2 => h3 j g1 (by omega)
theorem dt {p : Prop} [Decidable p] (h : p) : decide p = true := decide_eq_true h
theorem p_FormatWords : SpecOk Tryd.prog globs 3 (mkSpec real [.int .i64, .bool] (s_FormatWords ropsB)) := by
  have hfns : FnsOk Tryd.prog globs [(15, .spec (mkSpec real [.int .i64] (s_is rops))), (16, .spec (mkSpec real [.int .i64, .bool] (s_infW rops))), (17, .spec (mkSpec real [.int .i64] (s_nanW rops))), (18, .spec (mkSpec real [.int .i64, .bool] (s_maxW rops))), (19, .spec (mkSpec real [.int .i64] (s_leastW rops))), (20, .spec (mkSpec real [.int .i64] (s_oneW rops))), (21, .spec (mkSpec real [.int .i64, .bool] (s_noughtW rops))), (22, .spec (mkSpec real [] (s_awake05 ropsB))), (23, .spec (mkSpec real [.int .i64, .bool] (s_refInf rops))), (24, .spec (mkSpec real [.int .i64] (s_refNaN rops))), (25, .spec (mkSpec real [.int .i64, .bool] (s_refMax rops))), (26, .spec (mkSpec real [.int .i64] (s_refOne rops))), (27, .spec (mkSpec real [.int .i64, .bool] (s_refNought rops)))] := (fnsCons (fnSpec (p_is)) (fnsCons (fnSpec (p_infW)) (fnsCons (fnSpec (p_nanW)) (fnsCons (fnSpec (p_maxW)) (fnsCons (fnSpec (p_leastW)) (fnsCons (fnSpec (p_oneW)) (fnsCons (fnSpec (p_noughtW)) (fnsCons (fnSpec (p_awake05)) (fnsCons (fnSpec (p_refInf)) (fnsCons (fnSpec (p_refNaN)) (fnsCons (fnSpec (p_refMax)) (fnsCons (fnSpec (p_refOne)) (fnsCons (fnSpec (p_refNought)) fnsNil)))))))))))))
  refine spec0 hfns (by kernel_rfl) Tryd.func3 (by kernel_rfl) (by kernel_rfl) (by kernel_rfl) 4 _ _ (.bool) ?_
  clear hfns
  generalize hEE : env0 [(15, .spec (mkSpec real [.int .i64] (s_is rops))), (16, .spec (mkSpec real [.int .i64, .bool] (s_infW rops))), (17, .spec (mkSpec real [.int .i64] (s_nanW rops))), (18, .spec (mkSpec real [.int .i64, .bool] (s_maxW rops))), (19, .spec (mkSpec real [.int .i64] (s_leastW rops))), (20, .spec (mkSpec real [.int .i64] (s_oneW rops))), (21, .spec (mkSpec real [.int .i64, .bool] (s_noughtW rops))), (22, .spec (mkSpec real [] (s_awake05 ropsB))), (23, .spec (mkSpec real [.int .i64, .bool] (s_refInf rops))), (24, .spec (mkSpec real [.int .i64] (s_refNaN rops))), (25, .spec (mkSpec real [.int .i64, .bool] (s_refMax rops))), (26, .spec (mkSpec real [.int .i64] (s_refOne rops))), (27, .spec (mkSpec real [.int .i64, .bool] (s_refNought rops)))] = EE
  intro l r hl hr
  simp only [Forms, Form] at hl
  obtain ⟨_, _, rfl, ⟨x1, rfl, x1lo, x1hi⟩, _, _, rfl, ⟨x2, rfl⟩, rfl⟩ := hl
  subst hEE
  generalize hK : kR (.bool) r = K
  generalize hO : real = O
  generalize hS0 : rops = S0
  generalize hS1 : ropsB = S1
  set_option maxRecDepth 100000 in cbv
  subst hO hK hS0 hS1
  simp only [s_FormatWords, R.Y] at hr
  subst hr
  try dsimp only [real, rops, ropsB]
  refine ⟨imp_f fun h => ?_, imp_t fun h => ?_⟩
  · have hf := fOk_f h
    have e1 : fInf x1 x2 = mkWordR 0 0 := fWordOf_none hf _ _
    have e2 : fNaN x1 = mkWordR 0 0 := fWordOf_none hf _ _
    have e3 : fMax x1 x2 = mkWordR 0 0 := fWordOf_none hf _ _
    have e4 : fLeast x1 = mkWordR 0 0 := fWordOf_none hf _ _
    have e5 : fOne x1 = mkWordR 0 0 := fWordOf_none hf _ _
    have e6 : fNought x1 x2 = mkWordR 0 0 := fWordOf_none hf _ _
    simp only [e1, e2, e3, e4, e5, e6, decide_true, true_or, or_true, false_or, and_true, true_and, Bool.true_eq_false, kb_t]
  · have hf : 1 ≤ x1 ∧ x1 ≤ 4 := fOk_t h
    have e4 : fLeast x1 = mkWordR 0 1 := by rcases f_cases hf with rfl | rfl | rfl | rfl <;> decide +kernel
    simp only [e4, decide_true, true_or, or_true, false_or, and_true, true_and, Bool.true_eq_false, kb_t]
    repeat' (first | apply And.intro | (refine imp_f fun _ => ?_) | (refine imp_t fun _ => ?_))
    all_goals first | exact hf | exact hf.1 | exact hf.2 | trivial
theorem p_FormatOfNot : SpecOk Tryd.prog globs 4 (mkSpec real [.int .i64] (s_FormatOfNot ropsB)) := by
  have hfns : FnsOk Tryd.prog globs [(15, .spec (mkSpec real [.int .i64] (s_isNot ropsB))), (28, .spec (mkSpec real [.int .i64] (s_fmtOf rops))), (29, .spec (mkSpec real [.int .i64] (s_fname ropsB))), (22, .spec (mkSpec real [] (s_awake05 ropsB)))] := (fnsCons (fnSpec (p_isNot)) (fnsCons (fnSpec (p_fmtOf)) (fnsCons (fnSpec (p_fname)) (fnsCons (fnSpec (p_awake05)) fnsNil))))
  refine spec0 hfns (by kernel_rfl) Tryd.func4 (by kernel_rfl) (by kernel_rfl) (by kernel_rfl) 4 _ _ (.bool) ?_
  clear hfns
  generalize hEE : env0 [(15, .spec (mkSpec real [.int .i64] (s_isNot ropsB))), (28, .spec (mkSpec real [.int .i64] (s_fmtOf rops))), (29, .spec (mkSpec real [.int .i64] (s_fname ropsB))), (22, .spec (mkSpec real [] (s_awake05 ropsB)))] = EE
  intro l r hl hr
  simp only [Forms, Form] at hl
  obtain ⟨_, _, rfl, ⟨x1, rfl, x1lo, x1hi⟩, rfl⟩ := hl
  subst hEE
  generalize hK : kR (.bool) r = K
  generalize hO : real = O
  generalize hS0 : rops = S0
  generalize hS1 : ropsB = S1
  set_option maxRecDepth 100000 in cbv
  subst hO hK hS0 hS1
  simp only [s_FormatOfNot, R.Y] at hr
  obtain ⟨hreq, hr⟩ := hr
  try dsimp only [rops, ropsB] at hreq
  subst hr
  try dsimp only [real, rops, ropsB]
  obtain ⟨g1, g2, g3, g4, g5⟩ := f_none hreq
  have g6 : fName x1 = bytesOf [] := by unfold fName; rw [if_neg (by omega), if_neg (by omega), if_neg (by omega), if_neg (by omega)]
  simp only [g1, g2, g3, g4, g5, g6, kb_t, kb_lt, kb_lf]
  decide +kernel
theorem p_FormatOfYes : SpecOk Tryd.prog globs 4 (mkSpec real [.int .i64] (s_FormatOfYes ropsB)) := by
  have hfns : FnsOk Tryd.prog globs [(15, .spec (mkSpec real [.int .i64] (s_isYes ropsB))), (28, .spec (mkSpec real [.int .i64] (s_fmtOf rops))), (29, .spec (mkSpec real [.int .i64] (s_fname ropsB))), (30, .spec (mkSpec real [.str] (s_byName ropsB))), (31, .spec (mkSpec real [.int .i64] (s_bits rops))), (32, .spec (mkSpec real [.int .i64] (s_prec rops))), (33, .spec (mkSpec real [.int .i64] (s_emax rops))), (34, .spec (mkSpec real [.int .i64] (s_emin rops))), (35, .spec (mkSpec real [.int .i64] (s_field rops))), (22, .spec (mkSpec real [] (s_awake05 ropsB)))] := (fnsCons (fnSpec (p_isYes)) (fnsCons (fnSpec (p_fmtOf)) (fnsCons (fnSpec (p_fname)) (fnsCons (fnSpec (p_byName)) (fnsCons (fnSpec (p_bits)) (fnsCons (fnSpec (p_prec)) (fnsCons (fnSpec (p_emax)) (fnsCons (fnSpec (p_emin)) (fnsCons (fnSpec (p_field)) (fnsCons (fnSpec (p_awake05)) fnsNil))))))))))
  refine spec0' hfns (by kernel_rfl) Tryd.func4 (by kernel_rfl) (by kernel_rfl) (by kernel_rfl) 4 _ _ (.bool) ?_
  clear hfns
  generalize hEE : env0 [(15, .spec (mkSpec real [.int .i64] (s_isYes ropsB))), (28, .spec (mkSpec real [.int .i64] (s_fmtOf rops))), (29, .spec (mkSpec real [.int .i64] (s_fname ropsB))), (30, .spec (mkSpec real [.str] (s_byName ropsB))), (31, .spec (mkSpec real [.int .i64] (s_bits rops))), (32, .spec (mkSpec real [.int .i64] (s_prec rops))), (33, .spec (mkSpec real [.int .i64] (s_emax rops))), (34, .spec (mkSpec real [.int .i64] (s_emin rops))), (35, .spec (mkSpec real [.int .i64] (s_field rops))), (22, .spec (mkSpec real [] (s_awake05 ropsB)))] = EE
  intro l r hl hr
  simp only [Forms, Form] at hl
  obtain ⟨_, _, rfl, ⟨x1, rfl, x1lo, x1hi⟩, rfl⟩ := hl
  subst hEE
  obtain ⟨hq, hr⟩ := hr
  have hr : r = _ := hr.symm
  subst hr
  rcases f_cases hq with rfl | rfl | rfl | rfl
  · refine ⟨[.lit .i64 1], ⟨same_lit _ _, trivial⟩, ?_⟩
    (generalize hK : kR _ _ = K; generalize hO : real = O; generalize hS0 : rops = S0; generalize hS1 : ropsB = S1; set_option maxRecDepth 100000 in cbv; subst hO hK hS0 hS1; dsimp only [real, rops, ropsB])
    simp only [kb_t, kb_lt, kb_lf]; decide +kernel
  · refine ⟨[.lit .i64 2], ⟨same_lit _ _, trivial⟩, ?_⟩
    (generalize hK : kR _ _ = K; generalize hO : real = O; generalize hS0 : rops = S0; generalize hS1 : ropsB = S1; set_option maxRecDepth 100000 in cbv; subst hO hK hS0 hS1; dsimp only [real, rops, ropsB])
    simp only [kb_t, kb_lt, kb_lf]; decide +kernel
  · refine ⟨[.lit .i64 3], ⟨same_lit _ _, trivial⟩, ?_⟩
    (generalize hK : kR _ _ = K; generalize hO : real = O; generalize hS0 : rops = S0; generalize hS1 : ropsB = S1; set_option maxRecDepth 100000 in cbv; subst hO hK hS0 hS1; dsimp only [real, rops, ropsB])
    simp only [kb_t, kb_lt, kb_lf]; decide +kernel
  · refine ⟨[.lit .i64 4], ⟨same_lit _ _, trivial⟩, ?_⟩
    (generalize hK : kR _ _ = K; generalize hO : real = O; generalize hS0 : rops = S0; generalize hS1 : ropsB = S1; set_option maxRecDepth 100000 in cbv; subst hO hK hS0 hS1; dsimp only [real, rops, ropsB])
    simp only [kb_t, kb_lt, kb_lf]; decide +kernel
theorem p_FormatOf : SpecOk Tryd.prog globs 4 (mkSpec real [.int .i64] (s_FormatOf ropsB)) := by
  refine spec_or p_FormatOfNot p_FormatOfYes ?_
  intro l r hl hr
  simp only [Forms, Form] at hl
  obtain ⟨_, _, rfl, ⟨x1, rfl, _⟩, rfl⟩ := hl
  by_cases h : 1 ≤ x1 ∧ x1 ≤ 4
  · exact .inr ⟨h, hr⟩
  · exact .inl ⟨h, hr⟩
theorem p_FormatNames : SpecOk Tryd.prog globs 5 (mkSpec real [.str, .int .i64, .word] (s_FormatNames ropsB)) := by
  have hfns : FnsOk Tryd.prog globs [(30, .spec (mkSpec real [.str] (s_byName ropsB))), (36, .spec (mkSpec real [.int .i64, .word] (s_fits ropsB))), (37, .spec (mkSpec real [.int .i64, .word] (s_fits05 ropsB))), (22, .spec (mkSpec real [] (s_awake05 ropsB)))] := (fnsCons (fnSpec (p_byName)) (fnsCons (fnSpec (p_fits)) (fnsCons (fnSpec (p_fits05)) (fnsCons (fnSpec (p_awake05)) fnsNil))))
  refine spec0 hfns (by kernel_rfl) Tryd.func5 (by kernel_rfl) (by kernel_rfl) (by kernel_rfl) 4 _ _ (.bool) ?_
  clear hfns
  generalize hEE : env0 [(30, .spec (mkSpec real [.str] (s_byName ropsB))), (36, .spec (mkSpec real [.int .i64, .word] (s_fits ropsB))), (37, .spec (mkSpec real [.int .i64, .word] (s_fits05 ropsB))), (22, .spec (mkSpec real [] (s_awake05 ropsB)))] = EE
  intro l r hl hr
  simp only [Forms, Form] at hl
  obtain ⟨_, _, rfl, ⟨x1, rfl, x1len⟩, _, _, rfl, ⟨x2, rfl, x2lo, x2hi⟩, _, _, rfl, ⟨x3, rfl⟩, rfl⟩ := hl
  subst hEE
  generalize hK : kR (.bool) r = K
  generalize hO : real = O
  generalize hS0 : rops = S0
  generalize hS1 : ropsB = S1
  set_option maxRecDepth 100000 in cbv
  subst hO hK hS0 hS1
  simp only [s_FormatNames, R.Y] at hr
  subst hr
  try dsimp only [real, rops, ropsB]
  simp only [show (⟨⟨[98, 105, 110, 97, 114, 121, 49, 54]⟩⟩ : ByteArray) = nF16 from rfl, show (⟨⟨[98, 105, 110, 97, 114, 121, 51, 50]⟩⟩ : ByteArray) = nF32 from rfl, show (⟨⟨[98, 105, 110, 97, 114, 121, 54, 52]⟩⟩ : ByteArray) = nF64 from rfl,
    show (⟨⟨[98, 105, 110, 97, 114, 121, 49, 50, 56]⟩⟩ : ByteArray) = nF128 from rfl]
  have e : (fFits x2 x3 == fFits x2 x3) = true := by simp
  rcases byN_cases x1 with ⟨h1, h2, h3, h4, h5⟩ | ⟨h1, h2, h3, h4, h5⟩ | ⟨h1, h2, h3, h4, h5⟩ | ⟨h1, h2, h3, h4, h5⟩ | ⟨h1, h2, h3, h4, h5⟩
  all_goals (simp only [h1, h2, h3, h4, h5, e, true_or, or_true, false_or, and_true, true_and, Bool.true_eq_false, Bool.false_eq_true, kb_t, kb_lt, kb_lf, c_eql_f, c_eql_t]; decide)
end Go.LE