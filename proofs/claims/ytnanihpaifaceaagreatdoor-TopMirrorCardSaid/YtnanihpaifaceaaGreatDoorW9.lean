import Derived.Test.YtnanihpaifaceaaGreatDoorW8
import Derived.Test.YtnanihpaifaceaaGreatDoorLeN
set_option linter.unusedVariables false
set_option linter.unusedSimpArgs false
namespace Go.LE
open Go Go.Proofs
structure OpsC where
  isF : Int → Prop
  fld : Int → BitVec 128 → Int
  frc : Int → BitVec 128 → W
  wneg : Int → BitVec 128 → Bool
  wfld : Int → BitVec 128 → Int
  wfrc : Int → BitVec 128 → W
  cls : Int → BitVec 128 → Int
  sgn : Int → BitVec 128 → Bool → BitVec 128
noncomputable def ropsC : OpsC where
  isF := fun f => 1 ≤ f ∧ f ≤ 4
  fld := bFld
  frc := bFrc
  wneg := wNeg
  wfld := wFld
  wfrc := wFrc
  cls := cls
  sgn := sgn
def s_field06 (S : OpsC) : List LV → R LV
  | [.int _ f, .word w] => .req (S.isF f) (.ok (.int .i64 (S.fld f w)))
  | _ => .fail
def s_frac06 (S : OpsC) : List LV → R LV
  | [.int _ f, .word w] => .req (S.isF f) (.ok (.wide (S.frc f w)))
  | _ => .fail
def s_neg06 (S : OpsC) : List LV → R LV
  | [.int _ f, .word w] => .ok (.bool (S.wneg f w))
  | _ => .fail
def s_class06 (S : OpsC) : List LV → R LV
  | [.int _ f, .word w] => .ok (.int .i64 (S.cls f w))
  | _ => .fail
def s_signed06 (S : OpsC) : List LV → R LV
  | [.int _ f, .word w, .bool b] => .req (S.isF f) (.ok (.word (S.sgn f w b)))
  | _ => .fail
theorem p_field06 : SpecOk Tryz.prog globs 19 (mkSpec real [.int .i64, .word] (s_field06 ropsC)) := by
  have hfns : FnsOk Tryz.prog globs [(31, .spec (mkSpec real [.int .i64] (s_bits rops))), (23, .spec (mkSpec real [.int .i64] (s_prec rops))), (22, .spec (mkSpec real [.word, .int .i64] (s_bit05 ropsB)))] := (fnsCons (fnSpec (p_bits)) (fnsCons (fnSpec (p_prec)) (fnsCons (fnSpec (p_bit05)) fnsNil)))
  refine specL (fun _ => [0,3,5,6]) hfns (by kernel_rfl) Tryz.func19 (by kernel_rfl) (by kernel_rfl) (by kernel_rfl) 4 _ _ (.int .i64) ?_
  clear hfns
  generalize hEE : envL (fun _ => [0,3,5,6]) [(31, .spec (mkSpec real [.int .i64] (s_bits rops))), (23, .spec (mkSpec real [.int .i64] (s_prec rops))), (22, .spec (mkSpec real [.word, .int .i64] (s_bit05 ropsB)))] = EE
  intro l r hl hr
  simp only [Forms, Form] at hl
  obtain ⟨_, _, rfl, ⟨x1, rfl, x1lo, x1hi⟩, _, _, rfl, ⟨x2, rfl⟩, rfl⟩ := hl
  subst hEE
  generalize hK : kR (.int .i64) r = K
  generalize hO : real = O
  generalize hS0 : rops = S0
  generalize hS1 : ropsB = S1
  generalize hS2 : ropsC = S2
  set_option maxRecDepth 100000 in cbv
  obtain ⟨hf, hr⟩ := hr
  have hr : r = _ := hr.symm
  subst hO hK hS0 hS1 hS2
  subst hr
  replace hf : 1 ≤ x1 ∧ x1 ≤ 4 := hf
  have hb := b_len x1 hf
  have hp := p_rng x1 hf
  refine ⟨hf, ?_⟩
  have e0 : arithR .sub .i64 (fBits x1) 2 = fBits x1 - 2 := sub_i64 (by omega) (by omega)
  have e1 : arithR .sub .i64 (fPrec x1) 1 = fPrec x1 - 1 := sub_i64 (by omega) (by omega)
  refine loop_rule (α := Int × Int) (fun x => ⟨[.int .i64 x1, .undef, .undef, .ptr 0 0, .undef, .int .i64 x.1, .int .i64 x.2, .undef, .undef, .undef, .undef, .undef, .undef, .undef, .undef, .undef, .undef, .undef, .undef, .undef, .undef, .undef, .undef, .undef, .undef], ofL [some (wordT, .word x2), none, none, none, none, none, none], 7⟩)
    (fun m x => fPrec x1 - 2 ≤ x.2 ∧ x.2 ≤ fBits x1 - 2 ∧ x.1 = fldAt x1 x2.toNat x.2 ∧ x.2 ≤ m) ?_ 126 (0, arithR .sub .i64 (fBits x1) 2) ⟨by rw [e0]; show _ ≤ _; omega, by rw [e0]; exact Int.le_refl _, by rw [e0]; exact (fldAt_0 _ _).symm, by rw [e0]; show _ ≤ (126 : Int); omega⟩
  rintro m ⟨n, i⟩ X ⟨h1, h2, h3, h4⟩ hX
  replace h1 : fPrec x1 - 2 ≤ i := h1
  replace h2 : i ≤ fBits x1 - 2 := h2
  replace h3 : n = fldAt x1 x2.toNat i := h3
  (generalize hK : kR _ _ = K; generalize hO : real = O; generalize hS0 : rops = S0; generalize hS1 : ropsB = S1; generalize hS2 : ropsC = S2; set_option maxRecDepth 100000 in cbv; subst hO hK hS0 hS1 hS2; dsimp only [real, rops, ropsB, ropsC])
  have h5 : i ≤ ((m : Nat) : Int) := h4
  clear h4
  have hn := fldAt_lt hf x2.toNat h1 h2
  rw [← h3] at hn
  refine ⟨imp_f fun h => ?_, imp_t fun h => ?_⟩
  · rw [c_geq_t, e1] at h
    have g1 : arithR .mul .i64 2 n = 2 * n := mul_i64 (by omega) (by omega)
    have g2 : arithR .add .i64 (2 * n) 1 = 2 * n + 1 := add_i64 (by omega) (by omega)
    have g3 : arithR .sub .i64 i 1 = i - 1 := sub_i64 (by omega) (by omega)
    have hm : m = (m - 1) + 1 := by omega
    have hc : i - 1 ≤ ((m - 1 : Nat) : Int) := by omega
    have hs := fldAt_step (w := x2) (f := x1) (i := i) (by omega) h2
    rw [← h3] at hs
    refine ⟨by omega, imp_f fun hb => ?_, imp_t fun hb => ?_⟩
    · rw [if_pos hb] at hs
      have := hX (m - 1) (2 * n + 1, i - 1) hm ⟨by show _ ≤ i - 1; omega, by show i - 1 ≤ _; omega, hs.symm, hc⟩
      rw [g1, g2, g3]
      exact this
    · rw [if_neg (ne_true_of_eq_false hb), Int.add_zero] at hs
      have := hX (m - 1) (2 * n, i - 1) hm ⟨by show _ ≤ i - 1; omega, by show i - 1 ≤ _; omega, hs.symm, hc⟩
      rw [g1, g3]
      exact this
  · rw [c_geq_f, e1] at h
    simp only [kR, canon, isK, asInt, kindEq, Option.some.injEq, LV.int.injEq, true_and]
    rw [h3, show i = fPrec x1 - 2 by omega]
    exact fldAt_last hf x2
theorem p_frac06 : SpecOk Tryz.prog globs 20 (mkSpec real [.int .i64, .word] (s_frac06 ropsC)) := by
  have hfns : FnsOk Tryz.prog globs [(23, .spec (mkSpec real [.int .i64] (s_prec rops))), (22, .spec (mkSpec real [.word, .int .i64] (s_bit05 ropsB)))] := (fnsCons (fnSpec (p_prec)) (fnsCons (fnSpec (p_bit05)) fnsNil))
  refine specL (fun _ => [0,3,4,5,6]) hfns (by kernel_rfl) Tryz.func20 (by kernel_rfl) (by kernel_rfl) (by kernel_rfl) 4 _ _ (.wide) ?_
  clear hfns
  generalize hEE : envL (fun _ => [0,3,4,5,6]) [(23, .spec (mkSpec real [.int .i64] (s_prec rops))), (22, .spec (mkSpec real [.word, .int .i64] (s_bit05 ropsB)))] = EE
  intro l r hl hr
  simp only [Forms, Form] at hl
  obtain ⟨_, _, rfl, ⟨x1, rfl, x1lo, x1hi⟩, _, _, rfl, ⟨x2, rfl⟩, rfl⟩ := hl
  subst hEE
  generalize hK : kR (.wide) r = K
  generalize hO : real = O
  generalize hS0 : rops = S0
  generalize hS1 : ropsB = S1
  generalize hS2 : ropsC = S2
  set_option maxRecDepth 100000 in cbv
  obtain ⟨hf, hr⟩ := hr
  have hr : r = _ := hr.symm
  subst hO hK hS0 hS1 hS2
  subst hr
  replace hf : 1 ≤ x1 ∧ x1 ≤ 4 := hf
  have hp := p_rng x1 hf
  have e1 : arithR .sub .i64 (fPrec x1) 1 = fPrec x1 - 1 := sub_i64 (by omega) (by omega)
  refine loop_rule (α := W × W × Int) (fun x => ⟨[.int .i64 x1, .undef, .undef, .ptr 0 0, .ptr 1 0, .ptr 2 0, .int .i64 x.2.2, .undef, .undef, .undef, .undef, .undef, .undef, .undef, .undef, .undef, .undef, .undef, .undef, .undef, .undef, .undef, .undef, .undef, .undef, .undef, .undef, .undef, .undef], ofL [some (wordT, .word x2), some (.arr 8 (.int .u64), .wide x.1), some (.arr 8 (.int .u64), .wide x.2.1), none], 4⟩)
    (fun m x => 0 ≤ x.2.2 ∧ x.2.2 ≤ fPrec x1 - 1 ∧ x.2.1 = frcAt x2.toNat x.2.2.toNat ∧ fPrec x1 - x.2.2 ≤ m) ?_ 113 (ofLimbsR 0 0 0 0 0 0 0 0, ofLimbsR 0 0 0 0 0 0 0 0, 0)
    ⟨by decide, by show (0 : Int) ≤ _; omega, by show _ = frcAt x2.toNat 0; rw [frcAt_0, ofLimbs_0], by show _ - (0 : Int) ≤ (113 : Int); omega⟩
  rintro m ⟨z, o, i⟩ X ⟨h1, h2, h3, h4⟩ hX
  replace h1 : 0 ≤ i := h1
  replace h2 : i ≤ fPrec x1 - 1 := h2
  replace h3 : o = frcAt x2.toNat i.toNat := h3
  (generalize hK : kR _ _ = K; generalize hO : real = O; generalize hS0 : rops = S0; generalize hS1 : ropsB = S1; generalize hS2 : ropsC = S2; set_option maxRecDepth 100000 in cbv; subst hO hK hS0 hS1 hS2; dsimp only [real, rops, ropsB, ropsC])
  have h5 : fPrec x1 - i ≤ ((m : Nat) : Int) := h4
  clear h4
  refine ⟨imp_f fun h => ?_, imp_t fun h => ?_⟩
  · rw [c_lss_t, e1] at h
    have g3 : arithR .add .i64 i 1 = i + 1 := add_i64 (by omega) (by omega)
    have g4 : arithR .quo .i64 i 64 = i / 64 := quo64 h1 (by omega)
    have g5 : arithR .rem .i64 i 64 = i % 64 := rem64 h1
    have hm : m = (m - 1) + 1 := by omega
    have hc : fPrec x1 - (i + 1) ≤ ((m - 1 : Nat) : Int) := by omega
    have hi1 : (i + 1).toNat = i.toNat + 1 := by omega
    have fin : ∀ o', o' = frcAt x2.toNat (i.toNat + 1) → _ := fun o' e => hX (m - 1) (z, o', i + 1) hm ⟨by show 0 ≤ i + 1; omega, by show i + 1 ≤ _; omega, by show o' = frcAt x2.toNat (i + 1).toNat; rw [hi1]; exact e, hc⟩
    refine ⟨h1, imp_f fun hb => ?_, imp_t fun hb => ?_⟩
    · have hy := frcAt_yes h1 (by omega) hb
      rw [← h3] at hy
      rw [g3, g4, g5]
      clear hX
      have hQ : i / 64 = 0 ∨ i / 64 = 1 := by omega
      rcases hQ with hQ | hQ
      · rw [hQ] at hy ⊢
        repeat' (first | apply And.intro | (refine imp_f fun _ => ?_) | (refine imp_t fun _ => ?_))
        all_goals simp only [c_eql_t, c_eql_f, c_neq_t, c_neq_f, c_lss_t, c_lss_f, c_leq_t, c_leq_f, c_gtr_t, c_gtr_f, c_geq_t, c_geq_f, Int.ofNat_eq_natCast] at *
        all_goals first
          | omega
          | exact fin _ (ofLimbs_eq ((hy 0).trans (if_pos (by decide))).symm ((hy 1).trans (if_neg (by decide))).symm ((hy 2).trans (if_neg (by decide))).symm ((hy 3).trans (if_neg (by decide))).symm ((hy 4).trans (if_neg (by decide))).symm ((hy 5).trans (if_neg (by decide))).symm ((hy 6).trans (if_neg (by decide))).symm ((hy 7).trans (if_neg (by decide))).symm)
      · rw [hQ] at hy ⊢
        repeat' (first | apply And.intro | (refine imp_f fun _ => ?_) | (refine imp_t fun _ => ?_))
        all_goals simp only [c_eql_t, c_eql_f, c_neq_t, c_neq_f, c_lss_t, c_lss_f, c_leq_t, c_leq_f, c_gtr_t, c_gtr_f, c_geq_t, c_geq_f, Int.ofNat_eq_natCast] at *
        all_goals first
          | omega
          | exact fin _ (ofLimbs_eq ((hy 0).trans (if_neg (by decide))).symm ((hy 1).trans (if_pos (by decide))).symm ((hy 2).trans (if_neg (by decide))).symm ((hy 3).trans (if_neg (by decide))).symm ((hy 4).trans (if_neg (by decide))).symm ((hy 5).trans (if_neg (by decide))).symm ((hy 6).trans (if_neg (by decide))).symm ((hy 7).trans (if_neg (by decide))).symm)
    · have hn := frcAt_no h1 hb
      have := fin o (by rw [hn]; exact h3)
      rw [g3]
      exact this
  · rw [c_lss_f, e1] at h
    clear hX
    simp only [kR, canon, getW, Option.some.injEq, LV.wide.injEq]
    rw [h3, show i = fPrec x1 - 1 by omega]
    exact frcAt_last x2
theorem p_neg06 : SpecOk Tryz.prog globs 16 (mkSpec real [.int .i64, .word] (s_neg06 ropsC)) := by
  have hfns : FnsOk Tryz.prog globs [(31, .spec (mkSpec real [.int .i64] (s_bits rops))), (18, .spec (mkSpec real [.int .i64, .word] (s_fits05 ropsB))), (22, .spec (mkSpec real [.word, .int .i64] (s_bit05 ropsB)))] := (fnsCons (fnSpec (p_bits)) (fnsCons (fnSpec (p_fits05)) (fnsCons (fnSpec (p_bit05)) fnsNil)))
  refine spec0 hfns (by kernel_rfl) Tryz.func16 (by kernel_rfl) (by kernel_rfl) (by kernel_rfl) 4 _ _ (.bool) ?_
  clear hfns
  generalize hEE : env0 [(31, .spec (mkSpec real [.int .i64] (s_bits rops))), (18, .spec (mkSpec real [.int .i64, .word] (s_fits05 ropsB))), (22, .spec (mkSpec real [.word, .int .i64] (s_bit05 ropsB)))] = EE
  intro l r hl hr
  simp only [Forms, Form] at hl
  obtain ⟨_, _, rfl, ⟨x1, rfl, x1lo, x1hi⟩, _, _, rfl, ⟨x2, rfl⟩, rfl⟩ := hl
  subst hEE
  generalize hK : kR (.bool) r = K
  generalize hO : real = O
  generalize hS0 : rops = S0
  generalize hS1 : ropsB = S1
  generalize hS2 : ropsC = S2
  set_option maxRecDepth 100000 in cbv
  subst hO hK hS0 hS1 hS2
  simp only [s_neg06, R.Y] at hr
  subst hr
  try dsimp only [real, rops, ropsB, ropsC]
  refine ⟨imp_f fun h => ?_, imp_t fun h => ?_⟩
  · obtain ⟨hf, _⟩ := fits_lt h
    have hb := b_len x1 hf
    have e1 : arithR .sub .i64 (fBits x1) 1 = fBits x1 - 1 := sub_i64 (by omega) (by omega)
    refine ⟨hf, by rw [e1]; omega, ?_⟩
    simp only [kR, canon, isArgB, Option.some.injEq, LV.bool.injEq]
    unfold wNeg bNeg wdBit
    rw [h, Bool.true_and, e1, decide_eq_true (by omega), Bool.true_and]
  · simp only [kR, canon, isArgB, Option.some.injEq, LV.bool.injEq]
    unfold wNeg
    rw [h]; rfl
end Go.LE