import Derived.Test.YtcmicmbpcgminaaGreatDoorW20
import Derived.Test.YtcmicmbpcgminaaGreatDoorLeQ
set_option linter.unusedVariables false
set_option linter.unusedSimpArgs false
namespace Go.LE
open Go Go.Proofs
structure OpsP where
  isF : Int → Prop
  okN : Nat → Int → Prop
  rgt : Int → Prop
  fW : Int → Nat → Int → BitVec 128
  exW : Int → Bool → Int → W → BitVec 128
  exOk : Int → Int → W → Bool
noncomputable def ropsP : OpsP where
  isF := fun f => 1 ≤ f ∧ f ≤ 4
  okN := okN
  rgt := fun e => rgtE e = true
  fW := fun f a e => wM f (findM f a e)
  exW := exW
  exOk := exOk
def refT : Ty := .struct [.bool, .slice (.int .u32), .int .i64]
def s_find07 (S : OpsP) : List LV → R LV
  | [.int _ f, .agg [_, .big a, .int _ e]] => .req (S.isF f) (.req (S.okN a e) (.ok (.word (S.fW f a e))))
  | _ => .fail
def s_exact07 (S : OpsP) : List LV → R LV
  | [.int _ f, .agg [.bool b, .int _ e, .wide s]] => .req (S.isF f) (.req (S.rgt e) (.ok (.tup [.word (S.exW f b e s), .bool (S.exOk f e s)])))
  | _ => .fail
def s_exact (S : OpsP) : List LV → R LV
  | [.int _ f, .agg [.bool b, .int _ e, .wide s]] => .ok (.tup [.word (S.exW f b e s), .bool (S.exOk f e s)])
  | _ => .fail
def s_UnpackValues (_ : OpsP) : List LV → R LV := fun _ => .ok (.bool true)
def s_UnpackExact (_ : OpsP) : List LV → R LV := fun _ => .ok (.bool true)
theorem p_find07 : SpecOk Tryz.prog globs 70 (mkSpec real [.int .i64, .st [.bool, .big, .int .i64]] (s_find07 ropsP)) := by
  have hfns : FnsOk Tryz.prog globs [(58, .spec (mkSpec real [.int .i64] (s_bits rops))), (9, .spec (mkSpec real [.int .i64, .word] (s_class06 ropsC))), (13, .spec (mkSpec real [.int .i64, .word] (s_value07 ropsM))), (35, .spec (mkSpec real [.st [.bool, .int .i64, .wide]] (s_of07 ropsK))), (36, .spec (mkSpec real [.st [.bool, .big, .int .i64], .st [.bool, .big, .int .i64]] (s_size07 ropsL)))] := (fnsCons (fnSpec (p_bits)) (fnsCons (fnSpec (p_class06)) (fnsCons (fnSpec (p_value07)) (fnsCons (fnSpec (p_of07)) (fnsCons (fnSpec (p_size07)) fnsNil)))))
  refine specL (fun _ => [0,3,4,5,6]) hfns (by kernel_rfl) Tryz.func70 (by kernel_rfl) (by kernel_rfl) (by kernel_rfl) 4 _ _ (.word) ?_
  clear hfns
  generalize hEE : envL (fun _ => [0,3,4,5,6]) [(58, .spec (mkSpec real [.int .i64] (s_bits rops))), (9, .spec (mkSpec real [.int .i64, .word] (s_class06 ropsC))), (13, .spec (mkSpec real [.int .i64, .word] (s_value07 ropsM))), (35, .spec (mkSpec real [.st [.bool, .int .i64, .wide]] (s_of07 ropsK))), (36, .spec (mkSpec real [.st [.bool, .big, .int .i64], .st [.bool, .big, .int .i64]] (s_size07 ropsL)))] = EE
  intro l r hl hr
  simp only [Forms, Form] at hl
  obtain ⟨_, _, rfl, ⟨x1, rfl, x1lo, x1hi⟩, _, _, rfl, ⟨_, rfl, ⟨_, _, rfl, ⟨x2_1, rfl⟩, _, _, rfl, ⟨x2_2, rfl, x2_2len⟩, _, _, rfl, ⟨x2_3, rfl, x2_3lo, x2_3hi⟩, rfl⟩⟩, rfl⟩ := hl
  subst hEE
  generalize hK : kR (.word) r = K
  generalize hO : real = O
  generalize hS0 : rops = S0
  generalize hS1 : ropsB = S1
  generalize hS2 : ropsC = S2
  generalize hS3 : ropsD = S3
  generalize hS4 : ropsE = S4
  generalize hS5 : ropsF = S5
  generalize hS6 : ropsG = S6
  generalize hS7 : ropsH = S7
  generalize hS8 : ropsI = S8
  generalize hS9 : ropsJ = S9
  generalize hS10 : ropsK = S10
  generalize hS11 : ropsL = S11
  generalize hS12 : ropsM = S12
  generalize hS13 : ropsN = S13
  generalize hS14 : ropsP = S14
  set_option maxRecDepth 100000 in cbv
  simp only [s_find07, R.Y] at hr
  obtain ⟨hf, ho, hr⟩ := hr
  subst hO hK hS0 hS1 hS2 hS3 hS4 hS5 hS6 hS7 hS8 hS9 hS10 hS11 hS12 hS13 hS14
  subst hr
  replace hf : 1 ≤ x1 ∧ x1 ≤ 4 := hf
  replace ho : okN x2_2 x2_3 := ho
  have hb := b_len x1 hf
  have e0 : arithR .sub .i64 (fBits x1) 2 = fBits x1 - 2 := sub_i64 (by omega) (by omega)
  refine ⟨hf, ?_⟩
  refine loop_rule (α := Nat × BitVec 128 × Int) (fun p => ⟨[.int .i64 x1, .undef, .undef, .ptr 0 0, .ptr 1 0, .ptr 3 0, .int .i64 p.2.2, .undef, .undef, .undef, .undef, .undef, .undef, .undef, .undef, .undef, .undef, .undef, .undef, .undef, .undef, .undef, .undef, .undef, .undef, .undef, .undef, .undef, .undef, .undef, .undef, .undef, .undef, .undef, .undef, .undef, .undef, .undef, .undef, .undef, .undef, .undef, .undef, .undef, .undef, .undef, .undef], ofL [some (refT, .agg [.bool x2_1, .big x2_2, .int .i64 x2_3]), some (wordT, .word (mkWordR 0 0)), none, some (wordT, .word p.2.1), none, none, none, none, none], 9⟩)
    (fun m p => fndP x1 x2_2 x2_3 p.1 p.2.1 p.2.2 ∧ p.2.2 + 1 ≤ m) ?_ 127 (0, mkWordR 0 0, arithR .sub .i64 (fBits x1) 2) ⟨by rw [e0]; exact fndP_zero hf _ _, by show arithR .sub .i64 (fBits x1) 2 + 1 ≤ _; rw [e0]; omega⟩
  rintro m ⟨k, w, i⟩ X ⟨h1, h2⟩ hX
  (generalize hK : kR _ _ = K; generalize hO : real = O; generalize hS0 : rops = S0; generalize hS1 : ropsB = S1; generalize hS2 : ropsC = S2; generalize hS3 : ropsD = S3; generalize hS4 : ropsE = S4; generalize hS5 : ropsF = S5; generalize hS6 : ropsG = S6; generalize hS7 : ropsH = S7; generalize hS8 : ropsI = S8; generalize hS9 : ropsJ = S9; generalize hS10 : ropsK = S10; generalize hS11 : ropsL = S11; generalize hS12 : ropsM = S12; generalize hS13 : ropsN = S13; generalize hS14 : ropsP = S14; set_option maxRecDepth 100000 in cbv; subst hO hK hS0 hS1 hS2 hS3 hS4 hS5 hS6 hS7 hS8 hS9 hS10 hS11 hS12 hS13 hS14; dsimp only [real, rops, ropsB, ropsC, ropsD, ropsE, ropsF, ropsG, ropsH, ropsI, ropsJ, ropsK, ropsL, ropsM, ropsN, ropsP])
  have h3 : fndP x1 x2_2 x2_3 k w i := h1
  have h4 : i + 1 ≤ ((m : Nat) : Int) := h2
  clear h1 h2
  have ld := leM_dec (f := x1) (a := x2_2) (e := x2_3) (m := k + 2 ^ i.toNat)
  refine ⟨imp_f fun h => ?_, imp_t fun h => ?_⟩
  · rw [c_geq_t] at h
    have hm : m = (m - 1) + 1 := by omega
    have hl : i - 1 + 1 ≤ ((m - 1 : Nat) : Int) := by omega
    have hi2 := h3.2.2.1
    have e3 : arithR .sub .i64 i 1 = i - 1 := sub_i64 (by omega) (by omega)
    rw [e3]
    refine ⟨imp_f fun h64 => ?_, imp_t fun h64 => ?_⟩
    · rw [c_geq_t] at h64
      have e4 : arithR .sub .i64 i 64 = i - 64 := sub_i64 (by omega) (by omega)
      refine ⟨by rw [e4]; omega, ?_⟩
      rw [fndP_hi hf h3 h64]
      refine ⟨imp_f fun g1 => ?_, imp_t fun g1 => ?_⟩
      · rw [g1, Bool.true_and] at ld
        have hfin : wFin x1 (wM x1 (k + 2 ^ i.toNat)) = true := g1
        have hr := vExp_rng hfin
        refine ⟨hfin, okN_wide _ (by omega), ho, imp_f fun g2 => ?_, imp_t fun g2 => ?_⟩
        · exact hX (m - 1) (k + 2 ^ i.toNat, mkWordR (arithR .add .u64 (hiR w) (arithR .shl .u64 1 (arithR .sub .i64 i 64))) (loR w), i - 1) hm ⟨by rw [fndP_hi hf h3 h64]; exact fndP_yes h3 h (by rw [ld, g2]), hl⟩
        · exact hX (m - 1) (k, w, i - 1) hm ⟨fndP_no h3 h (by rw [ld, g2]), hl⟩
      · rw [g1, Bool.false_and] at ld
        exact hX (m - 1) (k, w, i - 1) hm ⟨fndP_no h3 h ld, hl⟩
    · rw [c_geq_f] at h64
      refine ⟨h, ?_⟩
      rw [fndP_lo hf h3 h (by omega)]
      refine ⟨imp_f fun g1 => ?_, imp_t fun g1 => ?_⟩
      · rw [g1, Bool.true_and] at ld
        have hfin : wFin x1 (wM x1 (k + 2 ^ i.toNat)) = true := g1
        have hr := vExp_rng hfin
        refine ⟨hfin, okN_wide _ (by omega), ho, imp_f fun g2 => ?_, imp_t fun g2 => ?_⟩
        · exact hX (m - 1) (k + 2 ^ i.toNat, mkWordR (hiR w) (arithR .add .u64 (loR w) (arithR .shl .u64 1 i)), i - 1) hm ⟨by rw [fndP_lo hf h3 h (by omega)]; exact fndP_yes h3 h (by rw [ld, g2]), hl⟩
        · exact hX (m - 1) (k, w, i - 1) hm ⟨fndP_no h3 h (by rw [ld, g2]), hl⟩
      · rw [g1, Bool.false_and] at ld
        exact hX (m - 1) (k, w, i - 1) hm ⟨fndP_no h3 h ld, hl⟩
  · rw [c_geq_f] at h
    simp only [kR, canon, canons, ekEq, numE, getW, getWord, allInts8, asInt, isK, kindEq, isArgB, strOf, cBig, cInts, cWords, allInts, allWords, r_ofLimbs, r_mkWord, Option.some.injEq, LV.wide.injEq, LV.word.injEq, LV.int.injEq, LV.bool.injEq, LV.str.injEq, LV.big.injEq, LV.tup.injEq, LV.agg.injEq, List.cons.injEq, and_true, true_and]
    exact fndP_end h3 (by omega)
theorem p_exact07 : SpecOk Tryz.prog globs 48 (mkSpec real [.int .i64, .st [.bool, .int .i64, .wide]] (s_exact07 ropsP)) := by
  have hfns : FnsOk Tryz.prog globs [(70, .spec (mkSpec real [.int .i64, .st [.bool, .big, .int .i64]] (s_find07 ropsP))), (13, .spec (mkSpec real [.int .i64, .word] (s_value07 ropsM))), (35, .spec (mkSpec real [.st [.bool, .int .i64, .wide]] (s_of07 ropsK))), (36, .spec (mkSpec real [.st [.bool, .big, .int .i64], .st [.bool, .big, .int .i64]] (s_size07 ropsL))), (37, .spec (mkSpec real [.int .i64, .word, .bool] (s_signed06 ropsC)))] := (fnsCons (fnSpec (p_find07)) (fnsCons (fnSpec (p_value07)) (fnsCons (fnSpec (p_of07)) (fnsCons (fnSpec (p_size07)) (fnsCons (fnSpec (p_signed06)) fnsNil)))))
  refine spec0 hfns (by kernel_rfl) Tryz.func48 (by kernel_rfl) (by kernel_rfl) (by kernel_rfl) 4 _ _ (.tup [.word, .bool]) ?_
  clear hfns
  generalize hEE : env0 [(70, .spec (mkSpec real [.int .i64, .st [.bool, .big, .int .i64]] (s_find07 ropsP))), (13, .spec (mkSpec real [.int .i64, .word] (s_value07 ropsM))), (35, .spec (mkSpec real [.st [.bool, .int .i64, .wide]] (s_of07 ropsK))), (36, .spec (mkSpec real [.st [.bool, .big, .int .i64], .st [.bool, .big, .int .i64]] (s_size07 ropsL))), (37, .spec (mkSpec real [.int .i64, .word, .bool] (s_signed06 ropsC)))] = EE
  intro l r hl hr
  simp only [Forms, Form] at hl
  obtain ⟨_, _, rfl, ⟨x1, rfl, x1lo, x1hi⟩, _, _, rfl, ⟨_, rfl, ⟨_, _, rfl, ⟨x2_1, rfl⟩, _, _, rfl, ⟨x2_2, rfl, x2_2lo, x2_2hi⟩, _, _, rfl, ⟨x2_3, rfl⟩, rfl⟩⟩, rfl⟩ := hl
  subst hEE
  generalize hK : kR (.tup [.word, .bool]) r = K
  generalize hO : real = O
  generalize hS0 : rops = S0
  generalize hS1 : ropsB = S1
  generalize hS2 : ropsC = S2
  generalize hS3 : ropsD = S3
  generalize hS4 : ropsE = S4
  generalize hS5 : ropsF = S5
  generalize hS6 : ropsG = S6
  generalize hS7 : ropsH = S7
  generalize hS8 : ropsI = S8
  generalize hS9 : ropsJ = S9
  generalize hS10 : ropsK = S10
  generalize hS11 : ropsL = S11
  generalize hS12 : ropsM = S12
  generalize hS13 : ropsN = S13
  generalize hS14 : ropsP = S14
  set_option maxRecDepth 100000 in cbv
  subst hO hK hS0 hS1 hS2 hS3 hS4 hS5 hS6 hS7 hS8 hS9 hS10 hS11 hS12 hS13 hS14
  simp only [s_exact07, R.Y] at hr
  try dsimp only [real, rops, ropsB, ropsC, ropsD, ropsE, ropsF, ropsG, ropsH, ropsI, ropsJ, ropsK, ropsL, ropsM, ropsN, ropsP]
  obtain ⟨hf, he, hr⟩ := hr
  subst hr
  dsimp only [ropsP]
  replace hf : 1 ≤ x1 ∧ x1 ≤ 4 := hf
  replace he : rgtE x2_2 = true := he
  have he2 : -1048576 ≤ x2_2 ∧ x2_2 ≤ 1048576 := by simpa [rgtE] using he
  obtain ⟨f1, f2, f3⟩ := findM_spec hf x2_3.toNat x2_2
  have hi := inf_pos hf
  have hfin : wFin x1 (wM x1 (findM x1 x2_3.toNat x2_2)) = true := (fin_iff _ _).2 ((fin_of hf (by omega)).2 f1)
  have hr := vExp_rng hfin
  have ho := okN_wide x2_3 (e := x2_2) (by omega)
  have hk : fOk x1 = true := by unfold fOk; exact decide_eq_true hf
  have hx : exOk x1 x2_2 x2_3 = !(cmpR .neq (sizeN (vSig x1 (wM x1 (findM x1 x2_3.toNat x2_2))).toNat (vExp x1 (wM x1 (findM x1 x2_3.toNat x2_2))) x2_3.toNat x2_2) 0) := by
    unfold exOk
    rw [hk, he, Bool.true_and, Bool.true_and]
    cases h : cmpR .neq (sizeN (vSig x1 (wM x1 (findM x1 x2_3.toNat x2_2))).toNat (vExp x1 (wM x1 (findM x1 x2_3.toNat x2_2))) x2_3.toNat x2_2) 0 with
    | true => rw [c_neq_t] at h; exact decide_eq_false h
    | false => rw [c_neq_f] at h; exact decide_eq_true h
  refine ⟨hf, ho, hfin, okN_wide _ (by omega), ho, imp_f fun h => ?_, imp_t fun h => ?_⟩
  · rw [h] at hx
    unfold exW
    rw [show exOk x1 x2_2 x2_3 = false from hx]
    simp only [kR, canon, canons, ekEq, numE, getW, getWord, allInts8, asInt, isK, kindEq, isArgB, strOf, cBig, cInts, cWords, allInts, allWords, r_ofLimbs, r_mkWord, Option.some.injEq, LV.wide.injEq, LV.word.injEq, LV.int.injEq, LV.bool.injEq, LV.str.injEq, LV.big.injEq, LV.tup.injEq, LV.agg.injEq, List.cons.injEq, and_true, true_and]
    rfl
  · rw [h] at hx
    unfold exW
    rw [show exOk x1 x2_2 x2_3 = true from hx]
    refine ⟨hf, ?_⟩
    simp only [kR, canon, canons, ekEq, numE, getW, getWord, allInts8, asInt, isK, kindEq, isArgB, strOf, cBig, cInts, cWords, allInts, allWords, r_ofLimbs, r_mkWord, Option.some.injEq, LV.wide.injEq, LV.word.injEq, LV.int.injEq, LV.bool.injEq, LV.str.injEq, LV.big.injEq, LV.tup.injEq, LV.agg.injEq, List.cons.injEq, and_true, true_and]
    have hm := wOf_mag hf (show findM x1 x2_3.toNat x2_2 < halfN x1 by omega) false
    unfold magN halfN at hm
    unfold sgn wM
    rw [hm]
    rfl
set_option exponentiation.threshold 600 in
theorem p_exact : SpecOk Tryz.prog globs 45 (mkSpec real [.int .i64, .st [.bool, .int .i64, .wide]] (s_exact ropsP)) := by
  have hfns : FnsOk Tryz.prog globs [(79, .spec (mkSpec real [.int .i64] (s_fmtOf rops))), (80, .spec (mkSpec real [.st [.bool, .int .i64, .wide]] (s_right ropsK))), (81, .spec (mkSpec real [.int .i64, .bool] (s_noughtW rops))), (53, .spec (mkSpec real [.st [.bool, .int .i64, .wide]] (s_top ropsL))), (82, .spec (mkSpec real [.st [.bool, .int .i64, .wide]] (s_short ropsL))), (83, .spec (mkSpec real [.wide, .int .i64] (s_shl rops))), (84, .spec (mkSpec real [.int .i64, .bool, .int .i64, .wide] (s_make ropsD))), (86, .spec (mkSpec real [.int .i64] (s_power rops))), (85, .spec (mkSpec real [.wide, .wide] (s_wSub rops)))] := (fnsCons (fnSpec (p_fmtOf)) (fnsCons (fnSpec (p_right)) (fnsCons (fnSpec (p_noughtW)) (fnsCons (fnSpec (p_top)) (fnsCons (fnSpec (p_short)) (fnsCons (fnSpec (p_shl)) (fnsCons (fnSpec (p_make)) (fnsCons (fnSpec (p_power)) (fnsCons (fnSpec (p_wSub)) fnsNil)))))))))
  refine spec0 hfns (by kernel_rfl) Tryz.func45 (by kernel_rfl) (by kernel_rfl) (by kernel_rfl) 4 _ _ (.tup [.word, .bool]) ?_
  clear hfns
  generalize hEE : env0 [(79, .spec (mkSpec real [.int .i64] (s_fmtOf rops))), (80, .spec (mkSpec real [.st [.bool, .int .i64, .wide]] (s_right ropsK))), (81, .spec (mkSpec real [.int .i64, .bool] (s_noughtW rops))), (53, .spec (mkSpec real [.st [.bool, .int .i64, .wide]] (s_top ropsL))), (82, .spec (mkSpec real [.st [.bool, .int .i64, .wide]] (s_short ropsL))), (83, .spec (mkSpec real [.wide, .int .i64] (s_shl rops))), (84, .spec (mkSpec real [.int .i64, .bool, .int .i64, .wide] (s_make ropsD))), (86, .spec (mkSpec real [.int .i64] (s_power rops))), (85, .spec (mkSpec real [.wide, .wide] (s_wSub rops)))] = EE
  intro l r hl hr
  simp only [Forms, Form] at hl
  obtain ⟨_, _, rfl, ⟨x1, rfl, x1lo, x1hi⟩, _, _, rfl, ⟨_, rfl, ⟨_, _, rfl, ⟨x2_1, rfl⟩, _, _, rfl, ⟨x2_2, rfl, x2_2lo, x2_2hi⟩, _, _, rfl, ⟨x2_3, rfl⟩, rfl⟩⟩, rfl⟩ := hl
  subst hEE
  generalize hK : kR (.tup [.word, .bool]) r = K
  generalize hO : real = O
  generalize hS0 : rops = S0
  generalize hS1 : ropsB = S1
  generalize hS2 : ropsC = S2
  generalize hS3 : ropsD = S3
  generalize hS4 : ropsE = S4
  generalize hS5 : ropsF = S5
  generalize hS6 : ropsG = S6
  generalize hS7 : ropsH = S7
  generalize hS8 : ropsI = S8
  generalize hS9 : ropsJ = S9
  generalize hS10 : ropsK = S10
  generalize hS11 : ropsL = S11
  generalize hS12 : ropsM = S12
  generalize hS13 : ropsN = S13
  generalize hS14 : ropsP = S14
  set_option maxRecDepth 100000 in cbv
  subst hO hK hS0 hS1 hS2 hS3 hS4 hS5 hS6 hS7 hS8 hS9 hS10 hS11 hS12 hS13 hS14
  simp only [s_exact, R.Y] at hr
  subst hr
  try dsimp only [real, rops, ropsB, ropsC, ropsD, ropsE, ropsF, ropsG, ropsH, ropsI, ropsJ, ropsK, ropsL, ropsM, ropsN, ropsP]
  cases hk : fOk x1 with
  | false =>
    obtain ⟨n1, n2⟩ := ex_none (f := x1) (e := x2_2) (s := x2_3) (fun m hf => by unfold fOk at hk; simp at hk; omega) x2_1
    refine ⟨imp_f fun _ => ?_, imp_t fun h => by simp at h⟩
    rw [n1, n2]
    simp only [kR, canon, canons, ekEq, numE, getW, getWord, allInts8, asInt, isK, kindEq, isArgB, strOf, cBig, cInts, cWords, allInts, allWords, r_ofLimbs, r_mkWord, Option.some.injEq, LV.wide.injEq, LV.word.injEq, LV.int.injEq, LV.bool.injEq, LV.str.injEq, LV.big.injEq, LV.tup.injEq, LV.agg.injEq, List.cons.injEq, and_true, true_and]
    rfl
  | true =>
    have hf : 1 ≤ x1 ∧ x1 ≤ 4 := by unfold fOk at hk; simpa using hk
    dsimp only
    refine ⟨imp_f fun h => by simp at h, imp_t fun _ => ⟨imp_f fun h => ?_, imp_t fun h => ?_⟩⟩
    · replace h : (!rgtE x2_2) = true := h
      rw [Bool.not_eq_true'] at h
      obtain ⟨n1, n2⟩ := ex_none (f := x1) (e := x2_2) (s := x2_3) (fun m hf he => by rw [h] at he; cases he) x2_1
      rw [n1, n2]
      simp only [kR, canon, canons, ekEq, numE, getW, getWord, allInts8, asInt, isK, kindEq, isArgB, strOf, cBig, cInts, cWords, allInts, allWords, r_ofLimbs, r_mkWord, Option.some.injEq, LV.wide.injEq, LV.word.injEq, LV.int.injEq, LV.bool.injEq, LV.str.injEq, LV.big.injEq, LV.tup.injEq, LV.agg.injEq, List.cons.injEq, and_true, true_and]
      rfl
    · replace h : (!rgtE x2_2) = false := h
      rw [Bool.not_eq_false'] at h
      have hrg : -1048576 ≤ x2_2 ∧ x2_2 ≤ 1048576 := by simpa [rgtE] using h
      rw [ofLimbs_0]
      refine ⟨imp_f fun hz => ?_, imp_t fun hz => ?_⟩
      · rw [decide_eq_true_eq] at hz
        subst hz
        obtain ⟨n1, n2⟩ := ex_zero hf h x2_1
        rw [n1, n2]
        simp only [kR, canon, canons, ekEq, numE, getW, getWord, allInts8, asInt, isK, kindEq, isArgB, strOf, cBig, cInts, cWords, allInts, allWords, r_ofLimbs, r_mkWord, Option.some.injEq, LV.wide.injEq, LV.word.injEq, LV.int.injEq, LV.bool.injEq, LV.str.injEq, LV.big.injEq, LV.tup.injEq, LV.agg.injEq, List.cons.injEq, and_true, true_and]
        rfl
      · rw [decide_eq_false_iff_not] at hz
        have ho : topOk x2_2 x2_3 = true := (topOk_iff _ _).2 ⟨hrg, hz⟩
        have hp := p_rng x1 hf
        have he := e_rng x1 hf
        have hl := wLen_le x2_3
        obtain ⟨_, _, _, q4, q5⟩ := sh_parts ho
        have hT : topE x2_2 x2_3 = x2_2 + wLen x2_3 - 1 := by unfold topE; rw [ho]; rfl
        have hsn : shNeg x2_1 x2_2 x2_3 = x2_1 := by unfold shNeg; rw [h]; rfl
        have e1 : arithR .add .i64 (arithR .sub .i64 (max (topE x2_2 x2_3) (1 - fEMax x1)) (fPrec x1)) 1 = max (topE x2_2 x2_3) (1 - fEMax x1) - fPrec x1 + 1 := by
          rw [sub_i64 (by omega) (by omega), add_i64 (by omega) (by omega)]
        have e2 : arithR .sub .i64 (shExp x2_2 x2_3) (max (topE x2_2 x2_3) (1 - fEMax x1) - fPrec x1 + 1) = shExp x2_2 x2_3 - (max (topE x2_2 x2_3) (1 - fEMax x1) - fPrec x1 + 1) := sub_i64 (by omega) (by omega)
        rw [max_if, e1, e2, hsn, (sub_prec hf).1]
        refine ⟨imp_f fun g => ?_, imp_t fun g => ⟨imp_f fun g2 => ?_, imp_t fun g2 => ?_⟩⟩
        · rw [c_gtr_t] at g
          obtain ⟨n1, n2⟩ := ex_none (f := x1) (e := x2_2) (s := x2_3) (fun m _ _ hm hs => by have := (ex_fits hf ho hm hs).1; omega) x2_1
          rw [n1, n2]
          simp only [kR, canon, canons, ekEq, numE, getW, getWord, allInts8, asInt, isK, kindEq, isArgB, strOf, cBig, cInts, cWords, allInts, allWords, r_ofLimbs, r_mkWord, Option.some.injEq, LV.wide.injEq, LV.word.injEq, LV.int.injEq, LV.bool.injEq, LV.str.injEq, LV.big.injEq, LV.tup.injEq, LV.agg.injEq, List.cons.injEq, and_true, true_and]
          rfl
        · rw [c_lss_t] at g2
          obtain ⟨n1, n2⟩ := ex_none (f := x1) (e := x2_2) (s := x2_3) (fun m _ _ hm hs => by have := (ex_fits hf ho hm hs).2; omega) x2_1
          rw [n1, n2]
          simp only [kR, canon, canons, ekEq, numE, getW, getWord, allInts8, asInt, isK, kindEq, isArgB, strOf, cBig, cInts, cWords, allInts, allWords, r_ofLimbs, r_mkWord, Option.some.injEq, LV.wide.injEq, LV.word.injEq, LV.int.injEq, LV.bool.injEq, LV.str.injEq, LV.big.injEq, LV.tup.injEq, LV.agg.injEq, List.cons.injEq, and_true, true_and]
          rfl
        · rw [c_gtr_f] at g
          rw [c_lss_f] at g2
          obtain ⟨m1, m2, m3⟩ := ex_made hf ho (by omega) g2 x2_1
          rw [m1]
          refine ⟨imp_f fun g3 => ?_, imp_t fun g3 => ?_⟩
          · rw [c_lss_t] at g3
            obtain ⟨k1, k2⟩ := m2 g3
            rw [k1, k2]
            simp only [kR, canon, canons, ekEq, numE, getW, getWord, allInts8, asInt, isK, kindEq, isArgB, strOf, cBig, cInts, cWords, allInts, allWords, r_ofLimbs, r_mkWord, Option.some.injEq, LV.wide.injEq, LV.word.injEq, LV.int.injEq, LV.bool.injEq, LV.str.injEq, LV.big.injEq, LV.tup.injEq, LV.agg.injEq, List.cons.injEq, and_true, true_and]
          · rw [c_lss_f] at g3
            obtain ⟨k1, k2⟩ := m3 g3
            rw [add_i64 (by omega) (by omega), k1, k2]
            simp only [kR, canon, canons, ekEq, numE, getW, getWord, allInts8, asInt, isK, kindEq, isArgB, strOf, cBig, cInts, cWords, allInts, allWords, r_ofLimbs, r_mkWord, Option.some.injEq, LV.wide.injEq, LV.word.injEq, LV.int.injEq, LV.bool.injEq, LV.str.injEq, LV.big.injEq, LV.tup.injEq, LV.agg.injEq, List.cons.injEq, and_true, true_and]
end Go.LE