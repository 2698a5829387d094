import Derived.Test.YtbaapenmfaccgaaDoorW19
import Derived.Test.YtbaapenmfaccgaaDoorLeP
set_option linter.unusedVariables false
set_option linter.unusedSimpArgs false
namespace Go.LE
open Go Go.Proofs
structure OpsN where
  fits : Int → BitVec 128 → Prop
  isF : Int → Prop
  knw : Int → BitVec 128 → Prop
  sml : Nat → Prop
  wd : Int → Nat → BitVec 128
  pl : Int → BitVec 128 → Nat
  w512 : Nat → W
  g16 : Nat → Bool
  c28 : Int → BitVec 128 → BitVec 128 → Int
  isK : Int → BitVec 128 → Bool
  wgt : Int → BitVec 128 → Bool → Int
  nx : Int → Bool → BitVec 128 → BitVec 128
  onx : Int → BitVec 128 → Bool → BitVec 128
  amt : Int → BitVec 128 → W
  lt0 : Int → BitVec 128 → Bool
noncomputable def ropsN : OpsN where
  fits := fun f w => fFits f w = true
  isF := fun f => 1 ≤ f ∧ f ≤ 4
  knw := fun f w => 3 ≤ cls f w
  sml := small
  wd := wdN
  pl := plN
  w512 := w512
  g16 := fun n => cmpR .gtr ((dig n).length : Int) 16
  c28 := c28
  isK := fun f w => decide (3 ≤ cls f w)
  wgt := wgt
  nx := fun f up w => nxR f up 3 w
  onx := onx
  amt := fun f w => BitVec.ofNat 512 (magN f w)
  lt0 := fun f w => wNeg f w && !decide (magN f w = 0)
def s_wide02 (S : OpsN) : List LV → R LV
  | [.big a] => .ok (.tup [.wide (S.w512 a), .bool (S.g16 a)])
  | _ => .fail
def s_place28 (S : OpsN) : List LV → R LV
  | [.int _ f, .word w] => .req (S.fits f w) (.ok (.big (S.pl f w)))
  | _ => .fail
def s_word28 (S : OpsN) : List LV → R LV
  | [.int _ f, .big a] => .req (S.isF f) (.req (S.sml a) (.ok (.word (S.wd f a))))
  | _ => .fail
def s_known28 (S : OpsN) : List LV → R LV
  | [.int _ f, .word w] => .ok (.bool (S.isK f w))
  | _ => .fail
def s_weight28 (S : OpsN) : List LV → R LV
  | [.int _ f, .word w, .bool b] => .ok (.int .i64 (S.wgt f w b))
  | _ => .fail
def s_cmp28 (S : OpsN) : List LV → R LV
  | [.int _ f, .word a, .word b] => .req (S.knw f a) (.req (S.knw f b) (.ok (.int .i64 (S.c28 f a b))))
  | _ => .fail
def s_next28 (S : OpsN) : List LV → R LV
  | [.int _ f, .word w, .bool up] => .req (S.knw f w) (.ok (.word (S.nx f up w)))
  | _ => .fail
def s_amount (S : OpsN) : List LV → R LV
  | [.int _ f, .word w] => .req (S.fits f w) (.ok (.tup [.wide (S.amt f w), .bool (S.lt0 f w)]))
  | _ => .fail
def s_next (S : OpsN) : List LV → R LV
  | [.int _ f, .word w, .bool up] => .ok (.tup [.word (S.onx f w up), .bool (S.isK f w)])
  | _ => .fail
def s_awake28 (_ : OpsN) : List LV → R LV := fun _ => .ok (.bool true)
def s_OrderNext (_ : OpsN) : List LV → R LV := fun _ => .ok (.bool true)
theorem p_power02 : SpecOk Tryd.prog globs 144 (mkSpec real [.int .i64] (s_power02 ropsK)) := by
  have hfns : FnsOk Tryd.prog globs [(97, .spec (mkSpec real [.int .u64] (s_small01 ropsH))), (96, .spec (mkSpec real [.big, .int .i64] (s_shl01 ropsH)))] := (fnsCons (fnSpec (p_small01)) (fnsCons (fnSpec (p_shl01)) fnsNil))
  refine spec0 hfns (by kernel_rfl) Tryd.func144 (by kernel_rfl) (by kernel_rfl) (by kernel_rfl) 4 _ _ (.big) ?_
  clear hfns
  generalize hEE : env0 [(97, .spec (mkSpec real [.int .u64] (s_small01 ropsH))), (96, .spec (mkSpec real [.big, .int .i64] (s_shl01 ropsH)))] = EE
  intro l r hl hr
  simp only [Forms, Form] at hl
  obtain ⟨_, _, rfl, ⟨x1, rfl, x1lo, x1hi⟩, rfl⟩ := hl
  subst hEE
  generalize hK : kR (.big) r = K
  generalize hO : real = O
  generalize hS0 : rops = S0
  generalize hS1 : ropsB = S1
  generalize hS2 : ropsC = S2
  generalize hS3 : ropsD = S3
  generalize hS4 : ropsE = S4
  generalize hS5 : ropsF = S5
  generalize hS6 : ropsG = S6
  generalize hS7 : ropsH = S7
  generalize hS8 : ropsI = S8
  generalize hS9 : ropsJ = S9
  generalize hS10 : ropsK = S10
  generalize hS11 : ropsL = S11
  generalize hS12 : ropsM = S12
  generalize hS13 : ropsN = S13
  set_option maxRecDepth 100000 in cbv
  subst hO hK hS0 hS1 hS2 hS3 hS4 hS5 hS6 hS7 hS8 hS9 hS10 hS11 hS12 hS13
  simp only [s_power02, R.Y] at hr
  try dsimp only [real, rops, ropsB, ropsC, ropsD, ropsE, ropsF, ropsG, ropsH, ropsI, ropsJ, ropsK, ropsL, ropsM, ropsN]
  obtain ⟨hq, hr⟩ := hr
  subst hr
  refine ⟨small_lt (k := 1) (by decide) (by decide), hq, ?_⟩
  simp only [kR, canon, canons, getW, getWord, allInts8, asInt, isK, kindEq, isArgB, strOf, cBig, cInts, cWords, allInts, allWords, r_ofLimbs, r_mkWord, Option.some.injEq, LV.wide.injEq, LV.word.injEq, LV.int.injEq, LV.bool.injEq, LV.str.injEq, LV.big.injEq, LV.tup.injEq, LV.agg.injEq, List.cons.injEq, and_true, true_and]
  show Int.toNat 1 * 2 ^ x1.toNat = 2 ^ x1.toNat
  rw [show Int.toNat 1 = 1 from rfl, Nat.one_mul]
theorem p_wide02 : SpecOk Tryd.prog globs 145 (mkSpec real [.big] (s_wide02 ropsN)) := by
  have hfns : FnsOk Tryd.prog globs [] := fnsNil
  refine spec0 hfns (by kernel_rfl) Tryd.func145 (by kernel_rfl) (by kernel_rfl) (by kernel_rfl) 4 _ _ (.tup [.wide, .bool]) ?_
  clear hfns
  generalize hEE : env0 [] = EE
  intro l r hl hr
  simp only [Forms, Form] at hl
  obtain ⟨_, _, rfl, ⟨x1, rfl, x1len⟩, rfl⟩ := hl
  subst hEE
  generalize hK : kR (.tup [.wide, .bool]) r = K
  generalize hO : real = O
  set_option maxRecDepth 100000 in cbv
  subst hO hK 
  simp only [s_wide02, R.Y] at hr
  subst hr
  try dsimp only [real, rops, ropsB, ropsC, ropsD, ropsE, ropsF, ropsG, ropsH, ropsI, ropsJ, ropsK, ropsL, ropsM, ropsN]
  have e := w512_digs x1
  iterate 16 (refine ⟨imp_f fun h => ⟨(by rw [c_lss_t] at h; exact ⟨by decide, h⟩), ?_⟩, imp_t fun h => ?_⟩)
  refine ⟨imp_f fun _ => ?_, imp_t fun _ => ?_⟩
  all_goals try (rw [c_lss_f] at h)
  all_goals simp only [kR, canon, canons, getW, getWord, allInts8, asInt, isK, kindEq, isArgB, strOf, cBig, cInts, cWords, allInts, allWords, r_ofLimbs, r_mkWord, Option.some.injEq, LV.wide.injEq, LV.word.injEq, LV.int.injEq, LV.bool.injEq, LV.str.injEq, LV.big.injEq, LV.tup.injEq, LV.agg.injEq, List.cons.injEq, and_true, true_and]
  all_goals rw [← e]
  all_goals try simp only [lo32 x1 (show (0 : Int) ≤ 0 by decide), lo32 x1 (show (0 : Int) ≤ 2 by decide), lo32 x1 (show (0 : Int) ≤ 4 by decide), lo32 x1 (show (0 : Int) ≤ 6 by decide), lo32 x1 (show (0 : Int) ≤ 8 by decide), lo32 x1 (show (0 : Int) ≤ 10 by decide), lo32 x1 (show (0 : Int) ≤ 12 by decide), lo32 x1 (show (0 : Int) ≤ 14 by decide), hi32 x1 (show (0 : Int) ≤ 1 by decide), hi32 x1 (show (0 : Int) ≤ 3 by decide), hi32 x1 (show (0 : Int) ≤ 5 by decide), hi32 x1 (show (0 : Int) ≤ 7 by decide), hi32 x1 (show (0 : Int) ≤ 9 by decide), hi32 x1 (show (0 : Int) ≤ 11 by decide), hi32 x1 (show (0 : Int) ≤ 13 by decide), hi32 x1 (show (0 : Int) ≤ 15 by decide)]
  all_goals try rw [show digA x1 0 = 0 from digA_ge (by omega)]
  all_goals try rw [show digA x1 1 = 0 from digA_ge (by omega)]
  all_goals try rw [show digA x1 2 = 0 from digA_ge (by omega)]
  all_goals try rw [show digA x1 3 = 0 from digA_ge (by omega)]
  all_goals try rw [show digA x1 4 = 0 from digA_ge (by omega)]
  all_goals try rw [show digA x1 5 = 0 from digA_ge (by omega)]
  all_goals try rw [show digA x1 6 = 0 from digA_ge (by omega)]
  all_goals try rw [show digA x1 7 = 0 from digA_ge (by omega)]
  all_goals try rw [show digA x1 8 = 0 from digA_ge (by omega)]
  all_goals try rw [show digA x1 9 = 0 from digA_ge (by omega)]
  all_goals try rw [show digA x1 10 = 0 from digA_ge (by omega)]
  all_goals try rw [show digA x1 11 = 0 from digA_ge (by omega)]
  all_goals try rw [show digA x1 12 = 0 from digA_ge (by omega)]
  all_goals try rw [show digA x1 13 = 0 from digA_ge (by omega)]
  all_goals try rw [show digA x1 14 = 0 from digA_ge (by omega)]
  all_goals try rw [show digA x1 15 = 0 from digA_ge (by omega)]
  all_goals try simp only [two32_0]
theorem p_place28 : SpecOk Tryd.prog globs 123 (mkSpec real [.int .i64, .word] (s_place28 ropsN)) := by
  have hfns : FnsOk Tryd.prog globs [(135, .spec (mkSpec real [.ints .u64] (s_of01 ropsH))), (31, .spec (mkSpec real [.int .i64] (s_bits rops))), (144, .spec (mkSpec real [.int .i64] (s_power02 ropsK))), (44, .spec (mkSpec real [.int .i64, .word] (s_neg06 ropsC))), (95, .spec (mkSpec real [.big, .big] (s_add01 ropsH))), (97, .spec (mkSpec real [.int .u64] (s_small01 ropsH))), (125, .spec (mkSpec real [.big, .big] (s_sub01 ropsH)))] := (fnsCons (fnSpec (p_of01)) (fnsCons (fnSpec (p_bits)) (fnsCons (fnSpec (p_power02)) (fnsCons (fnSpec (p_neg06)) (fnsCons (fnSpec (p_add01)) (fnsCons (fnSpec (p_small01)) (fnsCons (fnSpec (p_sub01)) fnsNil)))))))
  refine spec0 hfns (by kernel_rfl) Tryd.func123 (by kernel_rfl) (by kernel_rfl) (by kernel_rfl) 4 _ _ (.big) ?_
  clear hfns
  generalize hEE : env0 [(135, .spec (mkSpec real [.ints .u64] (s_of01 ropsH))), (31, .spec (mkSpec real [.int .i64] (s_bits rops))), (144, .spec (mkSpec real [.int .i64] (s_power02 ropsK))), (44, .spec (mkSpec real [.int .i64, .word] (s_neg06 ropsC))), (95, .spec (mkSpec real [.big, .big] (s_add01 ropsH))), (97, .spec (mkSpec real [.int .u64] (s_small01 ropsH))), (125, .spec (mkSpec real [.big, .big] (s_sub01 ropsH)))] = EE
  intro l r hl hr
  simp only [Forms, Form] at hl
  obtain ⟨_, _, rfl, ⟨x1, rfl, x1lo, x1hi⟩, _, _, rfl, ⟨x2, rfl⟩, rfl⟩ := hl
  subst hEE
  generalize hK : kR (.big) r = K
  generalize hO : real = O
  generalize hS0 : rops = S0
  generalize hS1 : ropsB = S1
  generalize hS2 : ropsC = S2
  generalize hS3 : ropsD = S3
  generalize hS4 : ropsE = S4
  generalize hS5 : ropsF = S5
  generalize hS6 : ropsG = S6
  generalize hS7 : ropsH = S7
  generalize hS8 : ropsI = S8
  generalize hS9 : ropsJ = S9
  generalize hS10 : ropsK = S10
  generalize hS11 : ropsL = S11
  generalize hS12 : ropsM = S12
  generalize hS13 : ropsN = S13
  set_option maxRecDepth 100000 in cbv
  subst hO hK hS0 hS1 hS2 hS3 hS4 hS5 hS6 hS7 hS8 hS9 hS10 hS11 hS12 hS13
  simp only [s_place28, R.Y] at hr
  obtain ⟨hreq, hr⟩ := hr
  try dsimp only [rops, ropsB, ropsC, ropsD, ropsE, ropsF, ropsG, ropsH, ropsI, ropsJ, ropsK, ropsL, ropsM, ropsN] at hreq
  subst hr
  try dsimp only [real, rops, ropsB, ropsC, ropsD, ropsE, ropsF, ropsG, ropsH, ropsI, ropsJ, ropsK, ropsL, ropsM, ropsN]
  obtain ⟨hf, _⟩ := fits_lt hreq
  have hv := fits_half hreq
  have hs := half_small hf (n := x2.toNat) (by omega)
  have hp := halfN_pos x1
  have h1 : Int.toNat 1 = 1 := rfl
  rw [val64_word, pow_half hf, h1]
  refine ⟨by show 2 ≤ _; decide, hf, ok_half hf, imp_f fun h => ?_, imp_t fun h => ?_⟩
  · rw [Bool.not_eq_true'] at h
    refine ⟨half_small hf (by omega), hs, ?_⟩
    simp only [kR, canon, canons, getW, getWord, allInts8, asInt, isK, kindEq, isArgB, strOf, cBig, cInts, cWords, allInts, allWords, r_ofLimbs, r_mkWord, Option.some.injEq, LV.wide.injEq, LV.word.injEq, LV.int.injEq, LV.bool.injEq, LV.str.injEq, LV.big.injEq, LV.tup.injEq, LV.agg.injEq, List.cons.injEq, and_true, true_and]
    unfold plN
    rw [h]; rfl
  · rw [Bool.not_eq_false'] at h
    have hn := neg_half hreq h
    refine ⟨half_small hf (by omega), by omega, hs, hn, half_small hf (by omega), by omega, ?_⟩
    simp only [kR, canon, canons, getW, getWord, allInts8, asInt, isK, kindEq, isArgB, strOf, cBig, cInts, cWords, allInts, allWords, r_ofLimbs, r_mkWord, Option.some.injEq, LV.wide.injEq, LV.word.injEq, LV.int.injEq, LV.bool.injEq, LV.str.injEq, LV.big.injEq, LV.tup.injEq, LV.agg.injEq, List.cons.injEq, and_true, true_and]
    unfold plN
    rw [h]; rfl
theorem p_word28 : SpecOk Tryd.prog globs 124 (mkSpec real [.int .i64, .big] (s_word28 ropsN)) := by
  have hfns : FnsOk Tryd.prog globs [(31, .spec (mkSpec real [.int .i64] (s_bits rops))), (144, .spec (mkSpec real [.int .i64] (s_power02 ropsK))), (115, .spec (mkSpec real [.big, .big] (s_cmp01 ropsH))), (125, .spec (mkSpec real [.big, .big] (s_sub01 ropsH))), (97, .spec (mkSpec real [.int .u64] (s_small01 ropsH))), (95, .spec (mkSpec real [.big, .big] (s_add01 ropsH))), (145, .spec (mkSpec real [.big] (s_wide02 ropsN)))] := (fnsCons (fnSpec (p_bits)) (fnsCons (fnSpec (p_power02)) (fnsCons (fnSpec (p_cmp01)) (fnsCons (fnSpec (p_sub01)) (fnsCons (fnSpec (p_small01)) (fnsCons (fnSpec (p_add01)) (fnsCons (fnSpec (p_wide02)) fnsNil)))))))
  refine spec0 hfns (by kernel_rfl) Tryd.func124 (by kernel_rfl) (by kernel_rfl) (by kernel_rfl) 4 _ _ (.word) ?_
  clear hfns
  generalize hEE : env0 [(31, .spec (mkSpec real [.int .i64] (s_bits rops))), (144, .spec (mkSpec real [.int .i64] (s_power02 ropsK))), (115, .spec (mkSpec real [.big, .big] (s_cmp01 ropsH))), (125, .spec (mkSpec real [.big, .big] (s_sub01 ropsH))), (97, .spec (mkSpec real [.int .u64] (s_small01 ropsH))), (95, .spec (mkSpec real [.big, .big] (s_add01 ropsH))), (145, .spec (mkSpec real [.big] (s_wide02 ropsN)))] = EE
  intro l r hl hr
  simp only [Forms, Form] at hl
  obtain ⟨_, _, rfl, ⟨x1, rfl, x1lo, x1hi⟩, _, _, rfl, ⟨x2, rfl, x2len⟩, rfl⟩ := hl
  subst hEE
  generalize hK : kR (.word) r = K
  generalize hO : real = O
  generalize hS0 : rops = S0
  generalize hS1 : ropsB = S1
  generalize hS2 : ropsC = S2
  generalize hS3 : ropsD = S3
  generalize hS4 : ropsE = S4
  generalize hS5 : ropsF = S5
  generalize hS6 : ropsG = S6
  generalize hS7 : ropsH = S7
  generalize hS8 : ropsI = S8
  generalize hS9 : ropsJ = S9
  generalize hS10 : ropsK = S10
  generalize hS11 : ropsL = S11
  generalize hS12 : ropsM = S12
  generalize hS13 : ropsN = S13
  set_option maxRecDepth 100000 in cbv
  subst hO hK hS0 hS1 hS2 hS3 hS4 hS5 hS6 hS7 hS8 hS9 hS10 hS11 hS12 hS13
  simp only [s_word28, R.Y] at hr
  try dsimp only [real, rops, ropsB, ropsC, ropsD, ropsE, ropsF, ropsG, ropsH, ropsI, ropsJ, ropsK, ropsL, ropsM, ropsN]
  obtain ⟨hf, hs, hr⟩ := hr
  subst hr
  dsimp only [real, ropsN, ropsK, ropsH, rops]
  replace hf : 1 ≤ x1 ∧ x1 ≤ 4 := hf
  replace hs : small x2 := hs
  have hp := halfN_pos x1
  have h1 : Int.toNat 1 = 1 := rfl
  rw [pow_half hf, h1]
  have hc : cmpR .geq (cmpN x2 (halfN x1)) 0 = decide (halfN x1 ≤ x2) := by
    cases hh : cmpR .geq (cmpN x2 (halfN x1)) 0 with
    | true =>
      rw [c_geq_t] at hh
      refine (decide_eq_true ?_).symm
      unfold cmpN at hh
      split at hh <;> omega
    | false =>
      rw [c_geq_f] at hh
      refine (decide_eq_false ?_).symm
      unfold cmpN at hh
      split at hh
      · omega
      · split at hh <;> omega
  rw [hc]
  refine ⟨hf, ok_half hf, imp_f fun h => ?_, imp_t fun h => ?_⟩
  · rw [decide_eq_true_eq] at h
    refine ⟨hs, h, ?_⟩
    simp only [kR, canon, canons, getW, getWord, allInts8, asInt, isK, kindEq, isArgB, strOf, cBig, cInts, cWords, allInts, allWords, r_ofLimbs, r_mkWord, Option.some.injEq, LV.wide.injEq, LV.word.injEq, LV.int.injEq, LV.bool.injEq, LV.str.injEq, LV.big.injEq, LV.tup.injEq, LV.agg.injEq, List.cons.injEq, and_true, true_and]
    rw [w512_low]
    unfold wdN
    rw [if_pos h]
  · rw [decide_eq_false_iff_not] at h
    refine ⟨half_small hf (by omega), by omega, half_small hf (by omega), by omega, half_small hf (by omega), half_small hf (by omega), ?_⟩
    simp only [kR, canon, canons, getW, getWord, allInts8, asInt, isK, kindEq, isArgB, strOf, cBig, cInts, cWords, allInts, allWords, r_ofLimbs, r_mkWord, Option.some.injEq, LV.wide.injEq, LV.word.injEq, LV.int.injEq, LV.bool.injEq, LV.str.injEq, LV.big.injEq, LV.tup.injEq, LV.agg.injEq, List.cons.injEq, and_true, true_and]
    rw [w512_low]
    unfold wdN
    rw [if_neg h]
theorem p_known28 : SpecOk Tryd.prog globs 71 (mkSpec real [.int .i64, .word] (s_known28 ropsN)) := by
  have hfns : FnsOk Tryd.prog globs [(39, .spec (mkSpec real [.int .i64, .word] (s_class06 ropsC)))] := (fnsCons (fnSpec (p_class06)) fnsNil)
  refine spec0 hfns (by kernel_rfl) Tryd.func71 (by kernel_rfl) (by kernel_rfl) (by kernel_rfl) 4 _ _ (.bool) ?_
  clear hfns
  generalize hEE : env0 [(39, .spec (mkSpec real [.int .i64, .word] (s_class06 ropsC)))] = EE
  intro l r hl hr
  simp only [Forms, Form] at hl
  obtain ⟨_, _, rfl, ⟨x1, rfl, x1lo, x1hi⟩, _, _, rfl, ⟨x2, rfl⟩, rfl⟩ := hl
  subst hEE
  generalize hK : kR (.bool) r = K
  generalize hO : real = O
  generalize hS0 : rops = S0
  generalize hS1 : ropsB = S1
  generalize hS2 : ropsC = S2
  generalize hS3 : ropsD = S3
  generalize hS4 : ropsE = S4
  generalize hS5 : ropsF = S5
  generalize hS6 : ropsG = S6
  generalize hS7 : ropsH = S7
  generalize hS8 : ropsI = S8
  generalize hS9 : ropsJ = S9
  generalize hS10 : ropsK = S10
  generalize hS11 : ropsL = S11
  generalize hS12 : ropsM = S12
  generalize hS13 : ropsN = S13
  set_option maxRecDepth 100000 in cbv
  subst hO hK hS0 hS1 hS2 hS3 hS4 hS5 hS6 hS7 hS8 hS9 hS10 hS11 hS12 hS13
  simp only [s_known28, R.Y] at hr
  subst hr
  try dsimp only [real, rops, ropsB, ropsC, ropsD, ropsE, ropsF, ropsG, ropsH, ropsI, ropsJ, ropsK, ropsL, ropsM, ropsN]
  simp only [kR, canon, canons, getW, getWord, allInts8, asInt, isK, kindEq, isArgB, strOf, cBig, cInts, cWords, allInts, allWords, r_ofLimbs, r_mkWord, Option.some.injEq, LV.wide.injEq, LV.word.injEq, LV.int.injEq, LV.bool.injEq, LV.str.injEq, LV.big.injEq, LV.tup.injEq, LV.agg.injEq, List.cons.injEq, and_true, true_and]
  exact geq_dec _ _
theorem p_weight28 : SpecOk Tryd.prog globs 146 (mkSpec real [.int .i64, .word, .bool] (s_weight28 ropsN)) := by
  have hfns : FnsOk Tryd.prog globs [(44, .spec (mkSpec real [.int .i64, .word] (s_neg06 ropsC)))] := (fnsCons (fnSpec (p_neg06)) fnsNil)
  refine spec0 hfns (by kernel_rfl) Tryd.func146 (by kernel_rfl) (by kernel_rfl) (by kernel_rfl) 4 _ _ (.int .i64) ?_
  clear hfns
  generalize hEE : env0 [(44, .spec (mkSpec real [.int .i64, .word] (s_neg06 ropsC)))] = EE
  intro l r hl hr
  simp only [Forms, Form] at hl
  obtain ⟨_, _, rfl, ⟨x1, rfl, x1lo, x1hi⟩, _, _, rfl, ⟨x2, rfl⟩, _, _, rfl, ⟨x3, rfl⟩, rfl⟩ := hl
  subst hEE
  generalize hK : kR (.int .i64) r = K
  generalize hO : real = O
  generalize hS0 : rops = S0
  generalize hS1 : ropsB = S1
  generalize hS2 : ropsC = S2
  generalize hS3 : ropsD = S3
  generalize hS4 : ropsE = S4
  generalize hS5 : ropsF = S5
  generalize hS6 : ropsG = S6
  generalize hS7 : ropsH = S7
  generalize hS8 : ropsI = S8
  generalize hS9 : ropsJ = S9
  generalize hS10 : ropsK = S10
  generalize hS11 : ropsL = S11
  generalize hS12 : ropsM = S12
  generalize hS13 : ropsN = S13
  set_option maxRecDepth 100000 in cbv
  subst hO hK hS0 hS1 hS2 hS3 hS4 hS5 hS6 hS7 hS8 hS9 hS10 hS11 hS12 hS13
  simp only [s_weight28, R.Y] at hr
  subst hr
  try dsimp only [real, rops, ropsB, ropsC, ropsD, ropsE, ropsF, ropsG, ropsH, ropsI, ropsJ, ropsK, ropsL, ropsM, ropsN]
  unfold wgt
  cases x3 <;> cases wNeg x1 x2 <;> simp [kR, canon] <;> rfl
theorem p_cmp28 : SpecOk Tryd.prog globs 126 (mkSpec real [.int .i64, .word, .word] (s_cmp28 ropsN)) := by
  have hfns : FnsOk Tryd.prog globs [(39, .spec (mkSpec real [.int .i64, .word] (s_class06 ropsC))), (146, .spec (mkSpec real [.int .i64, .word, .bool] (s_weight28 ropsN))), (148, .spec (mkSpec real [.int .i64, .word] (s_value07 ropsM))), (65, .spec (mkSpec real [.st [.bool, .int .i64, .wide]] (s_of07 ropsK))), (147, .spec (mkSpec real [.st [.bool, .big, .int .i64], .st [.bool, .big, .int .i64]] (s_cmp07 ropsM)))] := (fnsCons (fnSpec (p_class06)) (fnsCons (fnSpec (p_weight28)) (fnsCons (fnSpec (p_value07)) (fnsCons (fnSpec (p_of07)) (fnsCons (fnSpec (p_cmp07)) fnsNil)))))
  refine spec0 hfns (by kernel_rfl) Tryd.func126 (by kernel_rfl) (by kernel_rfl) (by kernel_rfl) 4 _ _ (.int .i64) ?_
  clear hfns
  generalize hEE : env0 [(39, .spec (mkSpec real [.int .i64, .word] (s_class06 ropsC))), (146, .spec (mkSpec real [.int .i64, .word, .bool] (s_weight28 ropsN))), (148, .spec (mkSpec real [.int .i64, .word] (s_value07 ropsM))), (65, .spec (mkSpec real [.st [.bool, .int .i64, .wide]] (s_of07 ropsK))), (147, .spec (mkSpec real [.st [.bool, .big, .int .i64], .st [.bool, .big, .int .i64]] (s_cmp07 ropsM)))] = EE
  intro l r hl hr
  simp only [Forms, Form] at hl
  obtain ⟨_, _, rfl, ⟨x1, rfl, x1lo, x1hi⟩, _, _, rfl, ⟨x2, rfl⟩, _, _, rfl, ⟨x3, rfl⟩, rfl⟩ := hl
  subst hEE
  generalize hK : kR (.int .i64) r = K
  generalize hO : real = O
  generalize hS0 : rops = S0
  generalize hS1 : ropsB = S1
  generalize hS2 : ropsC = S2
  generalize hS3 : ropsD = S3
  generalize hS4 : ropsE = S4
  generalize hS5 : ropsF = S5
  generalize hS6 : ropsG = S6
  generalize hS7 : ropsH = S7
  generalize hS8 : ropsI = S8
  generalize hS9 : ropsJ = S9
  generalize hS10 : ropsK = S10
  generalize hS11 : ropsL = S11
  generalize hS12 : ropsM = S12
  generalize hS13 : ropsN = S13
  set_option maxRecDepth 100000 in cbv
  subst hO hK hS0 hS1 hS2 hS3 hS4 hS5 hS6 hS7 hS8 hS9 hS10 hS11 hS12 hS13
  simp only [s_cmp28, R.Y] at hr
  try dsimp only [real, rops, ropsB, ropsC, ropsD, ropsE, ropsF, ropsG, ropsH, ropsI, ropsJ, ropsK, ropsL, ropsM, ropsN]
  obtain ⟨ka, kb, hr⟩ := hr
  subst hr
  replace ka : 3 ≤ cls x1 x2 := ka
  replace kb : 3 ≤ cls x1 x3 := kb
  have w1 := wgt_rng x1 x2 (decide (cls x1 x2 = 3))
  have w2 := wgt_rng x1 x3 (decide (cls x1 x3 = 3))
  rw [eql_dec, eql_dec, clamp1, sub_i64 (by omega) (by omega)]
  refine ⟨imp_f fun h => ?_, imp_t fun h => ⟨imp_f fun h2 => ?_, imp_t fun h2 => ?_⟩⟩
  · rw [decide_eq_true_eq] at h
    simp only [kR, canon, canons, getW, getWord, allInts8, asInt, isK, kindEq, isArgB, strOf, cBig, cInts, cWords, allInts, allWords, r_ofLimbs, r_mkWord, Option.some.injEq, LV.wide.injEq, LV.word.injEq, LV.int.injEq, LV.bool.injEq, LV.str.injEq, LV.big.injEq, LV.tup.injEq, LV.agg.injEq, List.cons.injEq, and_true, true_and]
    exact c28_inf ka kb (.inl h)
  · rw [decide_eq_true_eq] at h2
    simp only [kR, canon, canons, getW, getWord, allInts8, asInt, isK, kindEq, isArgB, strOf, cBig, cInts, cWords, allInts, allWords, r_ofLimbs, r_mkWord, Option.some.injEq, LV.wide.injEq, LV.word.injEq, LV.int.injEq, LV.bool.injEq, LV.str.injEq, LV.big.injEq, LV.tup.injEq, LV.agg.injEq, List.cons.injEq, and_true, true_and]
    exact c28_inf ka kb (.inr h2)
  · rw [decide_eq_false_iff_not] at h h2
    have fa := (sval_fin ka h).1
    have fb := (sval_fin kb h2).1
    have ra := vExp_rng fa
    have rb := vExp_rng fb
    refine ⟨fa, fb, okN_wide _ (by omega), okN_wide _ (by omega), ?_⟩
    simp only [kR, canon, canons, getW, getWord, allInts8, asInt, isK, kindEq, isArgB, strOf, cBig, cInts, cWords, allInts, allWords, r_ofLimbs, r_mkWord, Option.some.injEq, LV.wide.injEq, LV.word.injEq, LV.int.injEq, LV.bool.injEq, LV.str.injEq, LV.big.injEq, LV.tup.injEq, LV.agg.injEq, List.cons.injEq, and_true, true_and]
    exact cmp_words fa fb
theorem p_next28 : SpecOk Tryd.prog globs 73 (mkSpec real [.int .i64, .word, .bool] (s_next28 ropsN)) := by
  have hfns : FnsOk Tryd.prog globs [(123, .spec (mkSpec real [.int .i64, .word] (s_place28 ropsN))), (97, .spec (mkSpec real [.int .u64] (s_small01 ropsH))), (95, .spec (mkSpec real [.big, .big] (s_add01 ropsH))), (125, .spec (mkSpec real [.big, .big] (s_sub01 ropsH))), (124, .spec (mkSpec real [.int .i64, .big] (s_word28 ropsN))), (71, .spec (mkSpec real [.int .i64, .word] (s_known28 ropsN))), (126, .spec (mkSpec real [.int .i64, .word, .word] (s_cmp28 ropsN)))] := (fnsCons (fnSpec (p_place28)) (fnsCons (fnSpec (p_small01)) (fnsCons (fnSpec (p_add01)) (fnsCons (fnSpec (p_sub01)) (fnsCons (fnSpec (p_word28)) (fnsCons (fnSpec (p_known28)) (fnsCons (fnSpec (p_cmp28)) fnsNil)))))))
  refine spec0 hfns (by kernel_rfl) Tryd.func73 (by kernel_rfl) (by kernel_rfl) (by kernel_rfl) 4 _ _ (.word) ?_
  clear hfns
  generalize hEE : env0 [(123, .spec (mkSpec real [.int .i64, .word] (s_place28 ropsN))), (97, .spec (mkSpec real [.int .u64] (s_small01 ropsH))), (95, .spec (mkSpec real [.big, .big] (s_add01 ropsH))), (125, .spec (mkSpec real [.big, .big] (s_sub01 ropsH))), (124, .spec (mkSpec real [.int .i64, .big] (s_word28 ropsN))), (71, .spec (mkSpec real [.int .i64, .word] (s_known28 ropsN))), (126, .spec (mkSpec real [.int .i64, .word, .word] (s_cmp28 ropsN)))] = EE
  intro l r hl hr
  simp only [Forms, Form] at hl
  obtain ⟨_, _, rfl, ⟨x1, rfl, x1lo, x1hi⟩, _, _, rfl, ⟨x2, rfl⟩, _, _, rfl, ⟨x3, rfl⟩, rfl⟩ := hl
  subst hEE
  generalize hK : kR (.word) r = K
  generalize hO : real = O
  generalize hS0 : rops = S0
  generalize hS1 : ropsB = S1
  generalize hS2 : ropsC = S2
  generalize hS3 : ropsD = S3
  generalize hS4 : ropsE = S4
  generalize hS5 : ropsF = S5
  generalize hS6 : ropsG = S6
  generalize hS7 : ropsH = S7
  generalize hS8 : ropsI = S8
  generalize hS9 : ropsJ = S9
  generalize hS10 : ropsK = S10
  generalize hS11 : ropsL = S11
  generalize hS12 : ropsM = S12
  generalize hS13 : ropsN = S13
  set_option maxRecDepth 100000 in cbv
  subst hO hK hS0 hS1 hS2 hS3 hS4 hS5 hS6 hS7 hS8 hS9 hS10 hS11 hS12 hS13
  simp only [s_next28, R.Y] at hr
  obtain ⟨hreq, hr⟩ := hr
  try dsimp only [rops, ropsB, ropsC, ropsD, ropsE, ropsF, ropsG, ropsH, ropsI, ropsJ, ropsK, ropsL, ropsM, ropsN] at hreq
  subst hr
  try dsimp only [real, rops, ropsB, ropsC, ropsD, ropsE, ropsF, ropsG, ropsH, ropsI, ropsJ, ropsK, ropsL, ropsM, ropsN]
  have hk : 3 ≤ cls x1 x2 := hreq
  obtain ⟨hf, _⟩ := fits_lt (known_fits hk)
  have s1 : small 1 := small_lt (k := 1) (by decide) (by decide)
  have sm : ∀ w, 3 ≤ cls x1 w → fFits x1 w = true ∧ small (plN x1 w) ∧ small (plN x1 w + 1) ∧ 1 ≤ plN x1 w ∧ small (plN x1 w - 1) := fun w hw => by
    have := pl_known hw
    exact ⟨known_fits hw, half_small hf (by omega), half_small hf (by omega), this.1, half_small hf (by omega)⟩
  have kk : ∀ w, (!decide (3 ≤ cls x1 w)) = false → 3 ≤ cls x1 w := fun w h => by simpa using h
  have kn : ∀ w, (!decide (3 ≤ cls x1 w)) = true → cls x1 w < 3 := fun w h => by simpa using h
  have h1 : Int.toNat 1 = 1 := rfl
  simp only [h1]
  have su : ∀ w, wdN x1 (plN x1 w + 1) = nxStep x1 w true := fun _ => rfl
  have sd : ∀ w, wdN x1 (plN x1 w - 1) = nxStep x1 w false := fun _ => rfl
  simp only [su, sd]
  have leaf : ∀ v, v = nxR x1 x3 3 x2 → kR .word (.word (nxR x1 x3 3 x2)) (.word v) := fun v hv => by
    simp only [kR, canon, canons, getW, getWord, allInts8, asInt, isK, kindEq, isArgB, strOf, cBig, cInts, cWords, allInts, allWords, r_ofLimbs, r_mkWord, Option.some.injEq, LV.wide.injEq, LV.word.injEq, LV.int.injEq, LV.bool.injEq, LV.str.injEq, LV.big.injEq, LV.tup.injEq, LV.agg.injEq, List.cons.injEq, and_true, true_and]
    exact hv
  cases x3
  all_goals (
    refine ⟨(sm _ hk).1, ?_⟩
    first | refine ⟨.inl rfl, .inr ?_⟩ | refine ⟨.inr ?_, .inl rfl⟩
    first
      | refine ⟨(sm _ hk).2.1, s1, hf, (sm _ hk).2.2.1, imp_f fun a1 => leaf _ ?_, imp_t fun a1 => ?_⟩
      | refine ⟨(sm _ hk).2.1, (sm _ hk).2.2.2.1, hf, (sm _ hk).2.2.2.2, imp_f fun a1 => leaf _ ?_, imp_t fun a1 => ?_⟩
    · unfold nxR; rw [if_pos (kn _ a1)]
    have b1 := kk _ a1
    refine ⟨b1, hk, imp_f fun a2 => leaf _ ?_, imp_t fun a2 => ?_⟩
    · rw [c_neq_t] at a2; unfold nxR; rw [if_neg (by omega), if_pos a2]
    rw [c_neq_f] at a2
    refine ⟨(sm _ b1).1, ?_⟩
    first | refine ⟨.inl rfl, .inr ?_⟩ | refine ⟨.inr ?_, .inl rfl⟩
    first
      | refine ⟨(sm _ b1).2.1, s1, hf, (sm _ b1).2.2.1, imp_f fun a3 => leaf _ ?_, imp_t fun a3 => ?_⟩
      | refine ⟨(sm _ b1).2.1, (sm _ b1).2.2.2.1, hf, (sm _ b1).2.2.2.2, imp_f fun a3 => leaf _ ?_, imp_t fun a3 => ?_⟩
    · unfold nxR; rw [if_neg (by omega), if_neg (by omega)]; unfold nxR; rw [if_pos (kn _ a3)]
    have b2 := kk _ a3
    refine ⟨b2, b1, imp_f fun a4 => leaf _ ?_, imp_t fun a4 => ?_⟩
    · rw [c_neq_t] at a4; unfold nxR; rw [if_neg (by omega), if_neg (by omega)]; unfold nxR; rw [if_neg (by omega), if_pos a4]
    rw [c_neq_f] at a4
    refine ⟨(sm _ b2).1, ?_⟩
    first | refine ⟨.inl rfl, .inr ?_⟩ | refine ⟨.inr ?_, .inl rfl⟩
    first
      | refine ⟨(sm _ b2).2.1, s1, hf, (sm _ b2).2.2.1, imp_f fun a5 => leaf _ ?_, imp_t fun a5 => ?_⟩
      | refine ⟨(sm _ b2).2.1, (sm _ b2).2.2.2.1, hf, (sm _ b2).2.2.2.2, imp_f fun a5 => leaf _ ?_, imp_t fun a5 => ?_⟩
    · unfold nxR; rw [if_neg (by omega), if_neg (by omega)]; unfold nxR; rw [if_neg (by omega), if_neg (by omega)]; unfold nxR; rw [if_pos (kn _ a5)]
    have b3 := kk _ a5
    refine ⟨b3, b2, imp_f fun a6 => leaf _ ?_, imp_t fun a6 => leaf _ ?_⟩
    · rw [c_neq_t] at a6; unfold nxR; rw [if_neg (by omega), if_neg (by omega)]; unfold nxR; rw [if_neg (by omega), if_neg (by omega)]; unfold nxR; rw [if_neg (by omega), if_pos a6]
    · rw [c_neq_f] at a6; unfold nxR; rw [if_neg (by omega), if_neg (by omega)]; unfold nxR; rw [if_neg (by omega), if_neg (by omega)]; unfold nxR; rw [if_neg (by omega), if_neg (by omega)]; rfl
  )
theorem p_amount : SpecOk Tryd.prog globs 121 (mkSpec real [.int .i64, .word] (s_amount ropsN)) := by
  have hfns : FnsOk Tryd.prog globs [(51, .spec (mkSpec real [.int .i64, .word] (s_cAbs ropsD))), (89, .spec (mkSpec real [.word] (s_from rops))), (47, .spec (mkSpec real [.int .i64, .word] (s_cNeg ropsC)))] := (fnsCons (fnSpec (p_cAbs)) (fnsCons (fnSpec (p_from)) (fnsCons (fnSpec (p_cNeg)) fnsNil)))
  refine spec0 hfns (by kernel_rfl) Tryd.func121 (by kernel_rfl) (by kernel_rfl) (by kernel_rfl) 4 _ _ (.tup [.wide, .bool]) ?_
  clear hfns
  generalize hEE : env0 [(51, .spec (mkSpec real [.int .i64, .word] (s_cAbs ropsD))), (89, .spec (mkSpec real [.word] (s_from rops))), (47, .spec (mkSpec real [.int .i64, .word] (s_cNeg ropsC)))] = EE
  intro l r hl hr
  simp only [Forms, Form] at hl
  obtain ⟨_, _, rfl, ⟨x1, rfl, x1lo, x1hi⟩, _, _, rfl, ⟨x2, rfl⟩, rfl⟩ := hl
  subst hEE
  generalize hK : kR (.tup [.wide, .bool]) r = K
  generalize hO : real = O
  generalize hS0 : rops = S0
  generalize hS1 : ropsB = S1
  generalize hS2 : ropsC = S2
  generalize hS3 : ropsD = S3
  generalize hS4 : ropsE = S4
  generalize hS5 : ropsF = S5
  generalize hS6 : ropsG = S6
  generalize hS7 : ropsH = S7
  generalize hS8 : ropsI = S8
  generalize hS9 : ropsJ = S9
  generalize hS10 : ropsK = S10
  generalize hS11 : ropsL = S11
  generalize hS12 : ropsM = S12
  generalize hS13 : ropsN = S13
  set_option maxRecDepth 100000 in cbv
  subst hO hK hS0 hS1 hS2 hS3 hS4 hS5 hS6 hS7 hS8 hS9 hS10 hS11 hS12 hS13
  simp only [s_amount, R.Y] at hr
  obtain ⟨hreq, hr⟩ := hr
  try dsimp only [rops, ropsB, ropsC, ropsD, ropsE, ropsF, ropsG, ropsH, ropsI, ropsJ, ropsK, ropsL, ropsM, ropsN] at hreq
  subst hr
  try dsimp only [real, rops, ropsB, ropsC, ropsD, ropsE, ropsF, ropsG, ropsH, ropsI, ropsJ, ropsK, ropsL, ropsM, ropsN]
  obtain ⟨hf, _⟩ := fits_lt hreq
  rw [amt_frW hreq, amt_zero hf (mag_lt _ _)]
  refine ⟨imp_f fun h => ?_, imp_t fun h => ?_⟩
  · simp only [kR, canon, canons, getW, getWord, allInts8, asInt, isK, kindEq, isArgB, strOf, cBig, cInts, cWords, allInts, allWords, r_ofLimbs, r_mkWord, Option.some.injEq, LV.wide.injEq, LV.word.injEq, LV.int.injEq, LV.bool.injEq, LV.str.injEq, LV.big.injEq, LV.tup.injEq, LV.agg.injEq, List.cons.injEq, and_true, true_and]
    rw [h, Bool.true_and]
  · simp only [kR, canon, canons, getW, getWord, allInts8, asInt, isK, kindEq, isArgB, strOf, cBig, cInts, cWords, allInts, allWords, r_ofLimbs, r_mkWord, Option.some.injEq, LV.wide.injEq, LV.word.injEq, LV.int.injEq, LV.bool.injEq, LV.str.injEq, LV.big.injEq, LV.tup.injEq, LV.agg.injEq, List.cons.injEq, and_true, true_and]
    rw [h, Bool.false_and]
theorem p_next : SpecOk Tryd.prog globs 70 (mkSpec real [.int .i64, .word, .bool] (s_next ropsN)) := by
  have hfns : FnsOk Tryd.prog globs [(120, inlF Tryd.f120), (50, .spec (mkSpec real [.int .i64, .word] (s_cOf ropsC))), (121, .spec (mkSpec real [.int .i64, .word] (s_amount ropsN))), (19, .spec (mkSpec real [.int .i64] (s_leastW rops))), (52, .spec (mkSpec real [.int .i64, .word] (s_cFlip ropsD))), (122, inlF Tryd.f122), (51, .spec (mkSpec real [.int .i64, .word] (s_cAbs ropsD))), (89, .spec (mkSpec real [.word] (s_from rops))), (82, .spec (mkSpec real [.ints .u64] (s_of rops))), (91, .spec (mkSpec real [.wide, .wide] (s_wAdd rops))), (110, .spec (mkSpec real [.wide, .wide] (s_wSub rops))), (93, .spec (mkSpec real [.wide] (s_low rops))), (47, .spec (mkSpec real [.int .i64, .word] (s_cNeg ropsC)))] := (fnsCons (inl_ok Tryd.func120 (by kernel_rfl) (by kernel_rfl)) (fnsCons (fnSpec (p_cOf)) (fnsCons (fnSpec (p_amount)) (fnsCons (fnSpec (p_leastW)) (fnsCons (fnSpec (p_cFlip)) (fnsCons (inl_ok Tryd.func122 (by kernel_rfl) (by kernel_rfl)) (fnsCons (fnSpec (p_cAbs)) (fnsCons (fnSpec (p_from)) (fnsCons (fnSpec (p_of)) (fnsCons (fnSpec (p_wAdd)) (fnsCons (fnSpec (p_wSub)) (fnsCons (fnSpec (p_low)) (fnsCons (fnSpec (p_cNeg)) fnsNil)))))))))))))
  refine spec0 hfns (by kernel_rfl) Tryd.func70 (by kernel_rfl) (by kernel_rfl) (by kernel_rfl) 4 _ _ (.tup [.word, .bool]) ?_
  clear hfns
  generalize hEE : env0 [(120, inlF Tryd.f120), (50, .spec (mkSpec real [.int .i64, .word] (s_cOf ropsC))), (121, .spec (mkSpec real [.int .i64, .word] (s_amount ropsN))), (19, .spec (mkSpec real [.int .i64] (s_leastW rops))), (52, .spec (mkSpec real [.int .i64, .word] (s_cFlip ropsD))), (122, inlF Tryd.f122), (51, .spec (mkSpec real [.int .i64, .word] (s_cAbs ropsD))), (89, .spec (mkSpec real [.word] (s_from rops))), (82, .spec (mkSpec real [.ints .u64] (s_of rops))), (91, .spec (mkSpec real [.wide, .wide] (s_wAdd rops))), (110, .spec (mkSpec real [.wide, .wide] (s_wSub rops))), (93, .spec (mkSpec real [.wide] (s_low rops))), (47, .spec (mkSpec real [.int .i64, .word] (s_cNeg ropsC)))] = EE
  intro l r hl hr
  simp only [Forms, Form] at hl
  obtain ⟨_, _, rfl, ⟨x1, rfl, x1lo, x1hi⟩, _, _, rfl, ⟨x2, rfl⟩, _, _, rfl, ⟨x3, rfl⟩, rfl⟩ := hl
  subst hEE
  generalize hK : kR (.tup [.word, .bool]) r = K
  generalize hO : real = O
  generalize hS0 : rops = S0
  generalize hS1 : ropsB = S1
  generalize hS2 : ropsC = S2
  generalize hS3 : ropsD = S3
  generalize hS4 : ropsE = S4
  generalize hS5 : ropsF = S5
  generalize hS6 : ropsG = S6
  generalize hS7 : ropsH = S7
  generalize hS8 : ropsI = S8
  generalize hS9 : ropsJ = S9
  generalize hS10 : ropsK = S10
  generalize hS11 : ropsL = S11
  generalize hS12 : ropsM = S12
  generalize hS13 : ropsN = S13
  set_option maxRecDepth 100000 in cbv
  subst hO hK hS0 hS1 hS2 hS3 hS4 hS5 hS6 hS7 hS8 hS9 hS10 hS11 hS12 hS13
  simp only [s_next, R.Y] at hr
  subst hr
  try dsimp only [real, rops, ropsB, ropsC, ropsD, ropsE, ropsF, ropsG, ropsH, ropsI, ropsJ, ropsK, ropsL, ropsM, ropsN]
  cases hd : decide (3 ≤ cls x1 x2) with
  | false =>
    rw [decide_eq_false_iff_not] at hd
    refine ⟨imp_f fun _ => ?_, imp_t fun h => by rw [c_lss_f] at h; omega⟩
    simp only [kR, canon, canons, getW, getWord, allInts8, asInt, isK, kindEq, isArgB, strOf, cBig, cInts, cWords, allInts, allWords, r_ofLimbs, r_mkWord, Option.some.injEq, LV.wide.injEq, LV.word.injEq, LV.int.injEq, LV.bool.injEq, LV.str.injEq, LV.big.injEq, LV.tup.injEq, LV.agg.injEq, List.cons.injEq, and_true, true_and]
    unfold onx
    rw [if_neg hd]
  | true =>
    rw [decide_eq_true_eq] at hd
    have hF := known_fits hd
    obtain ⟨hf, _⟩ := fits_lt hF
    have hi := inf_pos hf
    have hm := (known_iff.1 hd).2
    have hc3 := (cls_mag hF).2.1
    rw [amt_frW hF, amt_zero hf (mag_lt _ _)]
    unfold onx
    rw [if_pos hd]
    have tr : ∀ v u, v = u → kR (.tup [.word, .bool]) (.tup [.word v, .bool true]) (.tup [.word u, .blit true]) := fun v u h => by
      subst h
      simp only [kR, canon, canons, getW, getWord, allInts8, asInt, isK, kindEq, isArgB, strOf, cBig, cInts, cWords, allInts, allWords, r_ofLimbs, r_mkWord, Option.some.injEq, LV.wide.injEq, LV.word.injEq, LV.int.injEq, LV.bool.injEq, LV.str.injEq, LV.big.injEq, LV.tup.injEq, LV.agg.injEq, List.cons.injEq, and_true, true_and]
    refine ⟨imp_f fun h => by rw [c_lss_t] at h; omega, imp_t fun _ => ⟨hF, imp_f fun h => ?_, imp_t fun h => ?_⟩⟩
    · rw [decide_eq_true_eq] at h
      rw [if_pos h]
      have hfl : wFlip x1 (fLeast x1) = fWordOf x1 true 1 := by
        unfold fLeast; rw [wOf_flip hf (by omega)]; rfl
      refine ⟨imp_f fun g => tr _ _ ?_, imp_t fun g => tr _ _ ?_⟩
      · rw [g, hfl]
      · rw [g]; rfl
    · rw [decide_eq_false_iff_not] at h
      rw [if_neg h, decide_eq_false h, Bool.not_false, Bool.and_true]
      refine ⟨imp_f fun g => ?_, imp_t fun g => ?_⟩
      · have g : wNeg x1 x2 = x3 := by simpa using g
        rw [if_pos g, amt_sub hf (by omega) h]
        refine ⟨imp_f fun n => tr _ _ ?_, imp_t fun n => tr _ _ ?_⟩
        · rw [wOf_flip hf (by omega), ← g, n]; rfl
        · rw [← g, n]
      · have g : ¬ wNeg x1 x2 = x3 := by simpa using g
        rw [if_neg g]
        refine ⟨imp_f fun c => tr _ _ ?_, imp_t fun c => ?_⟩
        · rw [c_eql_t, hc3] at c
          rw [if_pos c]
        · rw [c_eql_f] at c; rw [Ne, hc3] at c
          rw [if_neg c, amt_add hf (by omega)]
          refine ⟨imp_f fun n => tr _ _ ?_, imp_t fun n => tr _ _ ?_⟩
          · rw [wOf_flip hf (by omega)]
            rw [n] at g
            have : x3 = false := by cases x3 <;> simp at g ⊢
            rw [this]
          · rw [n] at g
            have : x3 = true := by cases x3 <;> simp at g ⊢
            rw [this]; rfl
theorem p_awake28 : SpecOk Tryd.prog globs 72 (mkSpec real [] (s_awake28 ropsN)) := by
  have hfns : FnsOk Tryd.prog globs [(70, .spec (mkSpec real [.int .i64, .word, .bool] (s_next ropsN)))] := (fnsCons (fnSpec (p_next)) fnsNil)
  refine spec0 hfns (by kernel_rfl) Tryd.func72 (by kernel_rfl) (by kernel_rfl) (by kernel_rfl) 4 _ _ (.bool) ?_
  clear hfns
  generalize hEE : env0 [(70, .spec (mkSpec real [.int .i64, .word, .bool] (s_next ropsN)))] = EE
  intro l r hl hr
  simp only [Forms, Form] at hl
  obtain rfl := hl
  subst hEE
  generalize hK : kR (.bool) r = K
  generalize hO : real = O
  generalize hS0 : rops = S0
  generalize hS1 : ropsB = S1
  generalize hS2 : ropsC = S2
  generalize hS3 : ropsD = S3
  generalize hS4 : ropsE = S4
  generalize hS5 : ropsF = S5
  generalize hS6 : ropsG = S6
  generalize hS7 : ropsH = S7
  generalize hS8 : ropsI = S8
  generalize hS9 : ropsJ = S9
  generalize hS10 : ropsK = S10
  generalize hS11 : ropsL = S11
  generalize hS12 : ropsM = S12
  generalize hS13 : ropsN = S13
  set_option maxRecDepth 100000 in cbv
  subst hO hK hS0 hS1 hS2 hS3 hS4 hS5 hS6 hS7 hS8 hS9 hS10 hS11 hS12 hS13
  simp only [s_awake28, R.Y] at hr
  subst hr
  try dsimp only [real, rops, ropsB, ropsC, ropsD, ropsE, ropsF, ropsG, ropsH, ropsI, ropsJ, ropsK, ropsL, ropsM, ropsN]
  simp only [kb_t, kb_lt, kb_lf]; decide +kernel
theorem p_OrderNext : SpecOk Tryd.prog globs 14 (mkSpec real [.int .i64, .word, .bool] (s_OrderNext ropsN)) := by
  have hfns : FnsOk Tryd.prog globs [(70, .spec (mkSpec real [.int .i64, .word, .bool] (s_next ropsN))), (71, .spec (mkSpec real [.int .i64, .word] (s_known28 ropsN))), (72, .spec (mkSpec real [] (s_awake28 ropsN))), (73, .spec (mkSpec real [.int .i64, .word, .bool] (s_next28 ropsN))), (39, .spec (mkSpec real [.int .i64, .word] (s_class06 ropsC)))] := (fnsCons (fnSpec (p_next)) (fnsCons (fnSpec (p_known28)) (fnsCons (fnSpec (p_awake28)) (fnsCons (fnSpec (p_next28)) (fnsCons (fnSpec (p_class06)) fnsNil)))))
  refine spec0 hfns (by kernel_rfl) Tryd.func14 (by kernel_rfl) (by kernel_rfl) (by kernel_rfl) 4 _ _ (.bool) ?_
  clear hfns
  generalize hEE : env0 [(70, .spec (mkSpec real [.int .i64, .word, .bool] (s_next ropsN))), (71, .spec (mkSpec real [.int .i64, .word] (s_known28 ropsN))), (72, .spec (mkSpec real [] (s_awake28 ropsN))), (73, .spec (mkSpec real [.int .i64, .word, .bool] (s_next28 ropsN))), (39, .spec (mkSpec real [.int .i64, .word] (s_class06 ropsC)))] = EE
  intro l r hl hr
  simp only [Forms, Form] at hl
  obtain ⟨_, _, rfl, ⟨x1, rfl, x1lo, x1hi⟩, _, _, rfl, ⟨x2, rfl⟩, _, _, rfl, ⟨x3, rfl⟩, rfl⟩ := hl
  subst hEE
  generalize hK : kR (.bool) r = K
  generalize hO : real = O
  generalize hS0 : rops = S0
  generalize hS1 : ropsB = S1
  generalize hS2 : ropsC = S2
  generalize hS3 : ropsD = S3
  generalize hS4 : ropsE = S4
  generalize hS5 : ropsF = S5
  generalize hS6 : ropsG = S6
  generalize hS7 : ropsH = S7
  generalize hS8 : ropsI = S8
  generalize hS9 : ropsJ = S9
  generalize hS10 : ropsK = S10
  generalize hS11 : ropsL = S11
  generalize hS12 : ropsM = S12
  generalize hS13 : ropsN = S13
  set_option maxRecDepth 100000 in cbv
  subst hO hK hS0 hS1 hS2 hS3 hS4 hS5 hS6 hS7 hS8 hS9 hS10 hS11 hS12 hS13
  simp only [s_OrderNext, R.Y] at hr
  subst hr
  try dsimp only [real, rops, ropsB, ropsC, ropsD, ropsE, ropsF, ropsG, ropsH, ropsI, ropsJ, ropsK, ropsL, ropsM, ropsN]
  by_cases hk : 3 ≤ cls x1 x2
  · have h1 := onx_known hk x3
    have h2 := onx_back hk x3
    simp only [hk, h1, nxR_onx hk, decide_true, Bool.not_true, kb_t, kb_lt, kb_lf, eql_dec]
    simp
    rcases h2 with h2 | h2 | h2 | h2 <;> simp [h2]
  · have h1 : onx x1 x2 x3 = x2 := by unfold onx; rw [if_neg hk]
    simp only [hk, h1, decide_false, Bool.not_false, kb_t, kb_lt, kb_lf]
    simp
end Go.LE