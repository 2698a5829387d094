import Derived.Test.YtnanihpaifaceaaGreatDoorW5
set_option linter.unusedVariables false
set_option linter.unusedSimpArgs false
namespace Go.LE
open Go Go.Proofs
structure OpsB where
  nn : Int → Prop
  notF : Int → Prop
  yesF : Int → Prop
  notIs : Int → Prop
  is : Int → Prop
  wdbit : BitVec 128 → Int → Bool
  fits : Int → BitVec 128 → Bool
  fname : Int → ByteArray
  byN : ByteArray → Int
  byOk : ByteArray → Bool
noncomputable def ropsB : OpsB where
  nn := fun n => 0 ≤ n
  notF := fun f => fOk f = false
  yesF := fun f => fOk f = true
  notIs := fun f => ¬ (1 ≤ f ∧ f ≤ 4)
  is := fun f => 1 ≤ f ∧ f ≤ 4
  wdbit := wdBit
  fits := fFits
  fname := fName
  byN := fByName
  byOk := fun s => decide (fByName s > 0)
def s_isNot (S : OpsB) : List LV → R LV
  | [.int _ f] => .req (S.notF f) (.ok (.blit false))
  | _ => .fail
def s_isYes (S : OpsB) : List LV → R LV
  | [.int _ f] => .req (S.yesF f) (.ok (.blit true))
  | _ => .fail
theorem p_isNot : SpecOk Tryz.prog globs 32 (mkSpec real [.int .i64] (s_isNot ropsB)) := by
  refine spec_as p_is ?_
  intro l r h
  unfold s_isNot at h
  split at h
  · obtain ⟨h1, rfl⟩ := h
    exact ⟨_, rfl, by rw [show rops.fOk _ = false from h1]; exact same_blit false⟩
  · exact h.elim
theorem p_isYes : SpecOk Tryz.prog globs 32 (mkSpec real [.int .i64] (s_isYes ropsB)) := by
  refine spec_as p_is ?_
  intro l r h
  unfold s_isYes at h
  split at h
  · obtain ⟨h1, rfl⟩ := h
    exact ⟨_, rfl, by rw [show rops.fOk _ = true from h1]; exact same_blit true⟩
  · exact h.elim
def s_bit05 (S : OpsB) : List LV → R LV
  | [.word w, .int _ n] => .req (S.nn n) (.ok (.bool (S.wdbit w n)))
  | _ => .fail
def s_fits05 (S : OpsB) : List LV → R LV
  | [.int _ f, .word w] => .ok (.bool (S.fits f w))
  | _ => .fail
def s_fits (S : OpsB) : List LV → R LV
  | [.int _ f, .word w] => .ok (.bool (S.fits f w))
  | _ => .fail
def s_fname (S : OpsB) : List LV → R LV
  | [.int _ f] => .ok (.str (S.fname f))
  | _ => .fail
def s_byName (S : OpsB) : List LV → R LV
  | [.str s] => .ok (.tup [.int .i64 (S.byN s), .bool (S.byOk s)])
  | _ => .fail
def s_true (_ : OpsB) : List LV → R LV := fun _ => .ok (.bool true)
def s_FormatWords (_ : OpsB) : List LV → R LV := fun _ => .ok (.bool true)
def s_FormatOf (_ : OpsB) : List LV → R LV := fun _ => .ok (.bool true)
def s_FormatOfNot (S : OpsB) : List LV → R LV
  | [.int _ f] => .req (S.notIs f) (.ok (.bool true))
  | _ => .fail
def s_FormatOfYes (S : OpsB) : List LV → R LV
  | [.int _ f] => .req (S.is f) (.ok (.bool true))
  | _ => .fail
def s_FormatNames (_ : OpsB) : List LV → R LV := fun _ => .ok (.bool true)
def s_awake05 (_ : OpsB) : List LV → R LV := fun _ => .ok (.bool true)
theorem p_bit05 : SpecOk Tryz.prog globs 22 (mkSpec real [.word, .int .i64] (s_bit05 ropsB)) := by
  have hfns : FnsOk Tryz.prog globs [] := fnsNil
  refine spec0 hfns (by kernel_rfl) Tryz.func22 (by kernel_rfl) (by kernel_rfl) (by kernel_rfl) 4 _ _ (.bool) ?_
  clear hfns
  generalize hEE : env0 [] = EE
  intro l r hl hr
  simp only [Forms, Form] at hl
  obtain ⟨_, _, rfl, ⟨x1, rfl⟩, _, _, rfl, ⟨x2, rfl, x2lo, x2hi⟩, rfl⟩ := hl
  subst hEE
  generalize hK : kR (.bool) r = K
  generalize hO : real = O
  set_option maxRecDepth 100000 in cbv
  subst hO hK 
  simp only [s_bit05, R.Y] at hr
  obtain ⟨hreq, hr⟩ := hr
  try dsimp only [rops, ropsB] at hreq
  subst hr
  try dsimp only [real, rops, ropsB]
  rw [i64_max] at x2hi
  replace hreq : 0 ≤ x2 := hreq
  repeat' (first | apply And.intro | (refine imp_f fun _ => ?_) | (refine imp_t fun _ => ?_))
  all_goals simp only [c_eql_t, c_eql_f, c_neq_t, c_neq_f, c_lss_t, c_lss_f, c_leq_t, c_leq_f, c_gtr_t, c_gtr_f, c_geq_t, c_geq_f] at *
  all_goals first
    | (rw [sub_i64 (by omega) (by omega)]; omega)
    | exact hreq
    | (simp only [kR, canon, isArgB, Option.some.injEq, LV.bool.injEq]; rcases wd_hi x1 (by assumption) with h | h; exact h; omega)
    | (simp only [kR, canon, isArgB, Option.some.injEq, LV.bool.injEq]; exact wd_lo x1 hreq (by assumption))
theorem kb_t (b : Bool) : kR .bool (.bool true) (.bool b) = (b = true) := by
  simp only [kR, canon, isArgB, Option.some.injEq, LV.bool.injEq]
theorem kb_lt : kR .bool (.bool true) (.blit true) = True := by
  simp only [kR, canon, isArgB]
theorem kb_lf : kR .bool (.bool true) (.blit false) = False := by
  simp [kR, canon, isArgB]
theorem p_fits : SpecOk Tryz.prog globs 36 (mkSpec real [.int .i64, .word] (s_fits ropsB)) := by
  have hfns : FnsOk Tryz.prog globs [(41, .spec (mkSpec real [.int .i64] (s_fmtOf rops))), (43, .spec (mkSpec real [.word] (s_from rops))), (42, .spec (mkSpec real [.wide] (s_wLen rops)))] := (fnsCons (fnSpec (p_fmtOf)) (fnsCons (fnSpec (p_from)) (fnsCons (fnSpec (p_wLen)) fnsNil)))
  refine spec0 hfns (by kernel_rfl) Tryz.func36 (by kernel_rfl) (by kernel_rfl) (by kernel_rfl) 4 _ _ (.bool) ?_
  clear hfns
  generalize hEE : env0 [(41, .spec (mkSpec real [.int .i64] (s_fmtOf rops))), (43, .spec (mkSpec real [.word] (s_from rops))), (42, .spec (mkSpec real [.wide] (s_wLen rops)))] = EE
  intro l r hl hr
  simp only [Forms, Form] at hl
  obtain ⟨_, _, rfl, ⟨x1, rfl, x1lo, x1hi⟩, _, _, rfl, ⟨x2, rfl⟩, rfl⟩ := hl
  subst hEE
  generalize hK : kR (.bool) r = K
  generalize hO : real = O
  generalize hS0 : rops = S0
  generalize hS1 : ropsB = S1
  set_option maxRecDepth 100000 in cbv
  subst hO hK hS0 hS1
  simp only [s_fits, R.Y] at hr
  subst hr
  try dsimp only [real, rops, ropsB]
  refine ⟨imp_f fun h => ?_, imp_t fun h => ?_⟩
  · simp only [kR, canon, isArgB, Option.some.injEq, LV.bool.injEq]
    exact fits_leaf h
  · simp only [kR, canon, isArgB, Option.some.injEq, LV.bool.injEq]
    exact (fFits_none h).symm
theorem p_fits05 : SpecOk Tryz.prog globs 18 (mkSpec real [.int .i64, .word] (s_fits05 ropsB)) := by
  have hfns : FnsOk Tryz.prog globs [(31, .spec (mkSpec real [.int .i64] (s_bits rops))), (32, .spec (mkSpec real [.int .i64] (s_is rops))), (22, .spec (mkSpec real [.word, .int .i64] (s_bit05 ropsB)))] := (fnsCons (fnSpec (p_bits)) (fnsCons (fnSpec (p_is)) (fnsCons (fnSpec (p_bit05)) fnsNil)))
  refine specL (fun _ => [0,3,5]) hfns (by kernel_rfl) Tryz.func18 (by kernel_rfl) (by kernel_rfl) (by kernel_rfl) 4 _ _ (.bool) ?_
  clear hfns
  generalize hEE : envL (fun _ => [0,3,5]) [(31, .spec (mkSpec real [.int .i64] (s_bits rops))), (32, .spec (mkSpec real [.int .i64] (s_is rops))), (22, .spec (mkSpec real [.word, .int .i64] (s_bit05 ropsB)))] = EE
  intro l r hl hr
  simp only [Forms, Form] at hl
  obtain ⟨_, _, rfl, ⟨x1, rfl, x1lo, x1hi⟩, _, _, rfl, ⟨x2, rfl⟩, rfl⟩ := hl
  subst hEE
  generalize hK : kR (.bool) r = K
  generalize hO : real = O
  generalize hS0 : rops = S0
  generalize hS1 : ropsB = S1
  set_option maxRecDepth 100000 in cbv
  have hr : r = _ := hr.symm
  subst hO hK hS0 hS1
  subst hr
  refine ⟨imp_f fun h => ?_, imp_t fun h => ?_⟩
  · have h : fOk x1 = false := by have h' : (!fOk x1) = true := h; simpa using h'
    simp only [kR, canon, isArgB, Option.some.injEq, LV.bool.injEq]
    exact (fFits_none h).symm
  · have hf : 1 ≤ x1 ∧ x1 ≤ 4 := fOk_t h
    have hb := b_len x1 hf
    refine ⟨hf, ?_⟩
    refine loop_rule (α := Int) (fun n => ⟨[.int .i64 x1, .undef, .undef, .ptr 0 0, .undef, .int .i64 n, .undef, .undef, .undef, .undef, .undef, .undef, .undef, .undef, .undef, .undef, .undef, .undef], ofL [some (wordT, .word x2), none, none, none, none, none, none, none], 8⟩)
      (fun m n => fBits x1 ≤ n ∧ n ≤ 128 ∧ (∀ j, fBits x1 ≤ j → j < n → wdBit x2 j = false) ∧ 128 - n ≤ m) ?_ 128 (fBits x1) ⟨by omega, by omega, fun j h1 h2 => by omega, by omega⟩
    rintro m n X ⟨h1, h2, h3, h4⟩ hX
    (generalize hK : kR _ _ = K; generalize hO : real = O; generalize hS0 : rops = S0; generalize hS1 : ropsB = S1; set_option maxRecDepth 100000 in cbv; subst hO hK hS0 hS1; dsimp only [real, rops, ropsB])
    refine ⟨imp_f fun h => ?_, imp_t fun h => ?_⟩
    · rw [c_lss_t] at h
      refine ⟨by omega, imp_f fun hb => ?_, imp_t fun hb => ?_⟩
      · simp only [kR, canon, isArgB, Option.some.injEq, LV.bool.injEq]
        exact (fFits_f h1 hb).symm
      · have hi : arithR .add .i64 n 1 = n + 1 := add_i64 (by omega) (by omega)
        have h5 : 128 - n ≤ ((m : Nat) : Int) := h4
        clear h4
        have hm : m = (m - 1) + 1 := by omega
        have hc : 128 - (n + 1) ≤ ((m - 1 : Nat) : Int) := by omega
        have := hX (m - 1) (n + 1) hm ⟨by omega, by omega, fun j g1 g2 => by
          by_cases hj : j = n
          · subst hj; exact hb
          · exact h3 j g1 (by omega), hc⟩
        rw [← hi] at this
        exact this
    · rw [c_lss_f] at h
      simp only [kR, canon, isArgB, Option.some.injEq, LV.bool.injEq]
      exact Eq.symm <| fFits_t hf fun j g1 g2 => h3 j g1 (by omega)
theorem dt {p : Prop} [Decidable p] (h : p) : decide p = true := decide_eq_true h
end Go.LE