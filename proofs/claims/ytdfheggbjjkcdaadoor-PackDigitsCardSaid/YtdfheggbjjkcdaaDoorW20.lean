import Derived.Test.YtdfheggbjjkcdaaDoorW19
import Derived.Test.YtdfheggbjjkcdaaDoorLeP
set_option linter.unusedVariables false
set_option linter.unusedSimpArgs false
namespace Go.LE
open Go Go.Proofs
structure OpsN where
  fits : Int → BitVec 128 → Prop
  isF : Int → Prop
  knw : Int → BitVec 128 → Prop
  sml : Nat → Prop
  wd : Int → Nat → BitVec 128
  pl : Int → BitVec 128 → Nat
  w512 : Nat → W
  g16 : Nat → Bool
  c28 : Int → BitVec 128 → BitVec 128 → Int
  isK : Int → BitVec 128 → Bool
  wgt : Int → BitVec 128 → Bool → Int
  nx : Int → Bool → BitVec 128 → BitVec 128
  onx : Int → BitVec 128 → Bool → BitVec 128
  amt : Int → BitVec 128 → W
  lt0 : Int → BitVec 128 → Bool
noncomputable def ropsN : OpsN where
  fits := fun f w => fFits f w = true
  isF := fun f => 1 ≤ f ∧ f ≤ 4
  knw := fun f w => 3 ≤ cls f w
  sml := small
  wd := wdN
  pl := plN
  w512 := w512
  g16 := fun n => cmpR .gtr ((dig n).length : Int) 16
  c28 := c28
  isK := fun f w => decide (3 ≤ cls f w)
  wgt := wgt
  nx := fun f up w => nxR f up 3 w
  onx := onx
  amt := fun f w => BitVec.ofNat 512 (magN f w)
  lt0 := fun f w => wNeg f w && !decide (magN f w = 0)
def s_wide02 (S : OpsN) : List LV → R LV
  | [.big a] => .ok (.tup [.wide (S.w512 a), .bool (S.g16 a)])
  | _ => .fail
def s_place28 (S : OpsN) : List LV → R LV
  | [.int _ f, .word w] => .req (S.fits f w) (.ok (.big (S.pl f w)))
  | _ => .fail
def s_word28 (S : OpsN) : List LV → R LV
  | [.int _ f, .big a] => .req (S.isF f) (.req (S.sml a) (.ok (.word (S.wd f a))))
  | _ => .fail
def s_known28 (S : OpsN) : List LV → R LV
  | [.int _ f, .word w] => .ok (.bool (S.isK f w))
  | _ => .fail
def s_weight28 (S : OpsN) : List LV → R LV
  | [.int _ f, .word w, .bool b] => .ok (.int .i64 (S.wgt f w b))
  | _ => .fail
def s_cmp28 (S : OpsN) : List LV → R LV
  | [.int _ f, .word a, .word b] => .req (S.knw f a) (.req (S.knw f b) (.ok (.int .i64 (S.c28 f a b))))
  | _ => .fail
def s_next28 (S : OpsN) : List LV → R LV
  | [.int _ f, .word w, .bool up] => .req (S.knw f w) (.ok (.word (S.nx f up w)))
  | _ => .fail
def s_amount (S : OpsN) : List LV → R LV
  | [.int _ f, .word w] => .req (S.fits f w) (.ok (.tup [.wide (S.amt f w), .bool (S.lt0 f w)]))
  | _ => .fail
def s_next (S : OpsN) : List LV → R LV
  | [.int _ f, .word w, .bool up] => .ok (.tup [.word (S.onx f w up), .bool (S.isK f w)])
  | _ => .fail
def s_awake28 (_ : OpsN) : List LV → R LV := fun _ => .ok (.bool true)
def s_OrderNext (_ : OpsN) : List LV → R LV := fun _ => .ok (.bool true)
theorem p_power02 : SpecOk Tryd.prog globs 35 (mkSpec real [.int .i64] (s_power02 ropsK)) := by
  have hfns : FnsOk Tryd.prog globs [(37, .spec (mkSpec real [.int .u64] (s_small01 ropsH))), (84, .spec (mkSpec real [.big, .int .i64] (s_shl01 ropsH)))] := (fnsCons (fnSpec (p_small01)) (fnsCons (fnSpec (p_shl01)) fnsNil))
  refine spec0 hfns (by kernel_rfl) Tryd.func35 (by kernel_rfl) (by kernel_rfl) (by kernel_rfl) 4 _ _ (.big) ?_
  clear hfns
  generalize hEE : env0 [(37, .spec (mkSpec real [.int .u64] (s_small01 ropsH))), (84, .spec (mkSpec real [.big, .int .i64] (s_shl01 ropsH)))] = EE
  intro l r hl hr
  simp only [Forms, Form] at hl
  obtain ⟨_, _, rfl, ⟨x1, rfl, x1lo, x1hi⟩, rfl⟩ := hl
  subst hEE
  generalize hK : kR (.big) r = K
  generalize hO : real = O
  generalize hS0 : rops = S0
  generalize hS1 : ropsB = S1
  generalize hS2 : ropsC = S2
  generalize hS3 : ropsD = S3
  generalize hS4 : ropsE = S4
  generalize hS5 : ropsF = S5
  generalize hS6 : ropsG = S6
  generalize hS7 : ropsH = S7
  generalize hS8 : ropsI = S8
  generalize hS9 : ropsJ = S9
  generalize hS10 : ropsK = S10
  generalize hS11 : ropsL = S11
  generalize hS12 : ropsM = S12
  generalize hS13 : ropsN = S13
  set_option maxRecDepth 100000 in cbv
  subst hO hK hS0 hS1 hS2 hS3 hS4 hS5 hS6 hS7 hS8 hS9 hS10 hS11 hS12 hS13
  simp only [s_power02, R.Y] at hr
  try dsimp only [real, rops, ropsB, ropsC, ropsD, ropsE, ropsF, ropsG, ropsH, ropsI, ropsJ, ropsK, ropsL, ropsM, ropsN]
  obtain ⟨hq, hr⟩ := hr
  subst hr
  refine ⟨small_lt (k := 1) (by decide) (by decide), hq, ?_⟩
  simp only [kR, canon, canons, getW, getWord, allInts8, asInt, isK, kindEq, isArgB, strOf, cBig, cInts, cWords, allInts, allWords, r_ofLimbs, r_mkWord, Option.some.injEq, LV.wide.injEq, LV.word.injEq, LV.int.injEq, LV.bool.injEq, LV.str.injEq, LV.big.injEq, LV.tup.injEq, LV.agg.injEq, List.cons.injEq, and_true, true_and]
  show Int.toNat 1 * 2 ^ x1.toNat = 2 ^ x1.toNat
  rw [show Int.toNat 1 = 1 from rfl, Nat.one_mul]
theorem p_wide02 : SpecOk Tryd.prog globs 103 (mkSpec real [.big] (s_wide02 ropsN)) := by
  have hfns : FnsOk Tryd.prog globs [] := fnsNil
  refine spec0 hfns (by kernel_rfl) Tryd.func103 (by kernel_rfl) (by kernel_rfl) (by kernel_rfl) 4 _ _ (.tup [.wide, .bool]) ?_
  clear hfns
  generalize hEE : env0 [] = EE
  intro l r hl hr
  simp only [Forms, Form] at hl
  obtain ⟨_, _, rfl, ⟨x1, rfl, x1len⟩, rfl⟩ := hl
  subst hEE
  generalize hK : kR (.tup [.wide, .bool]) r = K
  generalize hO : real = O
  set_option maxRecDepth 100000 in cbv
  subst hO hK 
  simp only [s_wide02, R.Y] at hr
  subst hr
  try dsimp only [real, rops, ropsB, ropsC, ropsD, ropsE, ropsF, ropsG, ropsH, ropsI, ropsJ, ropsK, ropsL, ropsM, ropsN]
  have e := w512_digs x1
  iterate 16 (refine ⟨imp_f fun h => ⟨(by rw [c_lss_t] at h; exact ⟨by decide, h⟩), ?_⟩, imp_t fun h => ?_⟩)
  refine ⟨imp_f fun _ => ?_, imp_t fun _ => ?_⟩
  all_goals try (rw [c_lss_f] at h)
  all_goals simp only [kR, canon, canons, getW, getWord, allInts8, asInt, isK, kindEq, isArgB, strOf, cBig, cInts, cWords, allInts, allWords, r_ofLimbs, r_mkWord, Option.some.injEq, LV.wide.injEq, LV.word.injEq, LV.int.injEq, LV.bool.injEq, LV.str.injEq, LV.big.injEq, LV.tup.injEq, LV.agg.injEq, List.cons.injEq, and_true, true_and]
  all_goals rw [← e]
  all_goals try simp only [lo32 x1 (show (0 : Int) ≤ 0 by decide), lo32 x1 (show (0 : Int) ≤ 2 by decide), lo32 x1 (show (0 : Int) ≤ 4 by decide), lo32 x1 (show (0 : Int) ≤ 6 by decide), lo32 x1 (show (0 : Int) ≤ 8 by decide), lo32 x1 (show (0 : Int) ≤ 10 by decide), lo32 x1 (show (0 : Int) ≤ 12 by decide), lo32 x1 (show (0 : Int) ≤ 14 by decide), hi32 x1 (show (0 : Int) ≤ 1 by decide), hi32 x1 (show (0 : Int) ≤ 3 by decide), hi32 x1 (show (0 : Int) ≤ 5 by decide), hi32 x1 (show (0 : Int) ≤ 7 by decide), hi32 x1 (show (0 : Int) ≤ 9 by decide), hi32 x1 (show (0 : Int) ≤ 11 by decide), hi32 x1 (show (0 : Int) ≤ 13 by decide), hi32 x1 (show (0 : Int) ≤ 15 by decide)]
  all_goals try rw [show digA x1 0 = 0 from digA_ge (by omega)]
  all_goals try rw [show digA x1 1 = 0 from digA_ge (by omega)]
  all_goals try rw [show digA x1 2 = 0 from digA_ge (by omega)]
  all_goals try rw [show digA x1 3 = 0 from digA_ge (by omega)]
  all_goals try rw [show digA x1 4 = 0 from digA_ge (by omega)]
  all_goals try rw [show digA x1 5 = 0 from digA_ge (by omega)]
  all_goals try rw [show digA x1 6 = 0 from digA_ge (by omega)]
  all_goals try rw [show digA x1 7 = 0 from digA_ge (by omega)]
  all_goals try rw [show digA x1 8 = 0 from digA_ge (by omega)]
  all_goals try rw [show digA x1 9 = 0 from digA_ge (by omega)]
  all_goals try rw [show digA x1 10 = 0 from digA_ge (by omega)]
  all_goals try rw [show digA x1 11 = 0 from digA_ge (by omega)]
  all_goals try rw [show digA x1 12 = 0 from digA_ge (by omega)]
  all_goals try rw [show digA x1 13 = 0 from digA_ge (by omega)]
  all_goals try rw [show digA x1 14 = 0 from digA_ge (by omega)]
  all_goals try rw [show digA x1 15 = 0 from digA_ge (by omega)]
  all_goals try simp only [two32_0]
theorem p_place28 : SpecOk Tryd.prog globs 32 (mkSpec real [.int .i64, .word] (s_place28 ropsN)) := by
  have hfns : FnsOk Tryd.prog globs [(90, .spec (mkSpec real [.ints .u64] (s_of01 ropsH))), (36, .spec (mkSpec real [.int .i64] (s_bits rops))), (35, .spec (mkSpec real [.int .i64] (s_power02 ropsK))), (74, .spec (mkSpec real [.int .i64, .word] (s_neg06 ropsC))), (43, .spec (mkSpec real [.big, .big] (s_add01 ropsH))), (37, .spec (mkSpec real [.int .u64] (s_small01 ropsH))), (34, .spec (mkSpec real [.big, .big] (s_sub01 ropsH)))] := (fnsCons (fnSpec (p_of01)) (fnsCons (fnSpec (p_bits)) (fnsCons (fnSpec (p_power02)) (fnsCons (fnSpec (p_neg06)) (fnsCons (fnSpec (p_add01)) (fnsCons (fnSpec (p_small01)) (fnsCons (fnSpec (p_sub01)) fnsNil)))))))
  refine spec0 hfns (by kernel_rfl) Tryd.func32 (by kernel_rfl) (by kernel_rfl) (by kernel_rfl) 4 _ _ (.big) ?_
  clear hfns
  generalize hEE : env0 [(90, .spec (mkSpec real [.ints .u64] (s_of01 ropsH))), (36, .spec (mkSpec real [.int .i64] (s_bits rops))), (35, .spec (mkSpec real [.int .i64] (s_power02 ropsK))), (74, .spec (mkSpec real [.int .i64, .word] (s_neg06 ropsC))), (43, .spec (mkSpec real [.big, .big] (s_add01 ropsH))), (37, .spec (mkSpec real [.int .u64] (s_small01 ropsH))), (34, .spec (mkSpec real [.big, .big] (s_sub01 ropsH)))] = EE
  intro l r hl hr
  simp only [Forms, Form] at hl
  obtain ⟨_, _, rfl, ⟨x1, rfl, x1lo, x1hi⟩, _, _, rfl, ⟨x2, rfl⟩, rfl⟩ := hl
  subst hEE
  generalize hK : kR (.big) r = K
  generalize hO : real = O
  generalize hS0 : rops = S0
  generalize hS1 : ropsB = S1
  generalize hS2 : ropsC = S2
  generalize hS3 : ropsD = S3
  generalize hS4 : ropsE = S4
  generalize hS5 : ropsF = S5
  generalize hS6 : ropsG = S6
  generalize hS7 : ropsH = S7
  generalize hS8 : ropsI = S8
  generalize hS9 : ropsJ = S9
  generalize hS10 : ropsK = S10
  generalize hS11 : ropsL = S11
  generalize hS12 : ropsM = S12
  generalize hS13 : ropsN = S13
  set_option maxRecDepth 100000 in cbv
  subst hO hK hS0 hS1 hS2 hS3 hS4 hS5 hS6 hS7 hS8 hS9 hS10 hS11 hS12 hS13
  simp only [s_place28, R.Y] at hr
  obtain ⟨hreq, hr⟩ := hr
  try dsimp only [rops, ropsB, ropsC, ropsD, ropsE, ropsF, ropsG, ropsH, ropsI, ropsJ, ropsK, ropsL, ropsM, ropsN] at hreq
  subst hr
  try dsimp only [real, rops, ropsB, ropsC, ropsD, ropsE, ropsF, ropsG, ropsH, ropsI, ropsJ, ropsK, ropsL, ropsM, ropsN]
  obtain ⟨hf, _⟩ := fits_lt hreq
  have hv := fits_half hreq
  have hs := half_small hf (n := x2.toNat) (by omega)
  have hp := halfN_pos x1
  have h1 : Int.toNat 1 = 1 := rfl
  rw [val64_word, pow_half hf, h1]
  refine ⟨by show 2 ≤ _; decide, hf, ok_half hf, imp_f fun h => ?_, imp_t fun h => ?_⟩
  · rw [Bool.not_eq_true'] at h
    refine ⟨half_small hf (by omega), hs, ?_⟩
    simp only [kR, canon, canons, getW, getWord, allInts8, asInt, isK, kindEq, isArgB, strOf, cBig, cInts, cWords, allInts, allWords, r_ofLimbs, r_mkWord, Option.some.injEq, LV.wide.injEq, LV.word.injEq, LV.int.injEq, LV.bool.injEq, LV.str.injEq, LV.big.injEq, LV.tup.injEq, LV.agg.injEq, List.cons.injEq, and_true, true_and]
    unfold plN
    rw [h]; rfl
  · rw [Bool.not_eq_false'] at h
    have hn := neg_half hreq h
    refine ⟨half_small hf (by omega), by omega, hs, hn, half_small hf (by omega), by omega, ?_⟩
    simp only [kR, canon, canons, getW, getWord, allInts8, asInt, isK, kindEq, isArgB, strOf, cBig, cInts, cWords, allInts, allWords, r_ofLimbs, r_mkWord, Option.some.injEq, LV.wide.injEq, LV.word.injEq, LV.int.injEq, LV.bool.injEq, LV.str.injEq, LV.big.injEq, LV.tup.injEq, LV.agg.injEq, List.cons.injEq, and_true, true_and]
    unfold plN
    rw [h]; rfl
theorem p_word28 : SpecOk Tryd.prog globs 44 (mkSpec real [.int .i64, .big] (s_word28 ropsN)) := by
  have hfns : FnsOk Tryd.prog globs [(36, .spec (mkSpec real [.int .i64] (s_bits rops))), (35, .spec (mkSpec real [.int .i64] (s_power02 ropsK))), (33, .spec (mkSpec real [.big, .big] (s_cmp01 ropsH))), (34, .spec (mkSpec real [.big, .big] (s_sub01 ropsH))), (37, .spec (mkSpec real [.int .u64] (s_small01 ropsH))), (43, .spec (mkSpec real [.big, .big] (s_add01 ropsH))), (103, .spec (mkSpec real [.big] (s_wide02 ropsN)))] := (fnsCons (fnSpec (p_bits)) (fnsCons (fnSpec (p_power02)) (fnsCons (fnSpec (p_cmp01)) (fnsCons (fnSpec (p_sub01)) (fnsCons (fnSpec (p_small01)) (fnsCons (fnSpec (p_add01)) (fnsCons (fnSpec (p_wide02)) fnsNil)))))))
  refine spec0 hfns (by kernel_rfl) Tryd.func44 (by kernel_rfl) (by kernel_rfl) (by kernel_rfl) 4 _ _ (.word) ?_
  clear hfns
  generalize hEE : env0 [(36, .spec (mkSpec real [.int .i64] (s_bits rops))), (35, .spec (mkSpec real [.int .i64] (s_power02 ropsK))), (33, .spec (mkSpec real [.big, .big] (s_cmp01 ropsH))), (34, .spec (mkSpec real [.big, .big] (s_sub01 ropsH))), (37, .spec (mkSpec real [.int .u64] (s_small01 ropsH))), (43, .spec (mkSpec real [.big, .big] (s_add01 ropsH))), (103, .spec (mkSpec real [.big] (s_wide02 ropsN)))] = EE
  intro l r hl hr
  simp only [Forms, Form] at hl
  obtain ⟨_, _, rfl, ⟨x1, rfl, x1lo, x1hi⟩, _, _, rfl, ⟨x2, rfl, x2len⟩, rfl⟩ := hl
  subst hEE
  generalize hK : kR (.word) r = K
  generalize hO : real = O
  generalize hS0 : rops = S0
  generalize hS1 : ropsB = S1
  generalize hS2 : ropsC = S2
  generalize hS3 : ropsD = S3
  generalize hS4 : ropsE = S4
  generalize hS5 : ropsF = S5
  generalize hS6 : ropsG = S6
  generalize hS7 : ropsH = S7
  generalize hS8 : ropsI = S8
  generalize hS9 : ropsJ = S9
  generalize hS10 : ropsK = S10
  generalize hS11 : ropsL = S11
  generalize hS12 : ropsM = S12
  generalize hS13 : ropsN = S13
  set_option maxRecDepth 100000 in cbv
  subst hO hK hS0 hS1 hS2 hS3 hS4 hS5 hS6 hS7 hS8 hS9 hS10 hS11 hS12 hS13
  simp only [s_word28, R.Y] at hr
  try dsimp only [real, rops, ropsB, ropsC, ropsD, ropsE, ropsF, ropsG, ropsH, ropsI, ropsJ, ropsK, ropsL, ropsM, ropsN]
  obtain ⟨hf, hs, hr⟩ := hr
  subst hr
  dsimp only [real, ropsN, ropsK, ropsH, rops]
  replace hf : 1 ≤ x1 ∧ x1 ≤ 4 := hf
  replace hs : small x2 := hs
  have hp := halfN_pos x1
  have h1 : Int.toNat 1 = 1 := rfl
  rw [pow_half hf, h1]
  have hc : cmpR .geq (cmpN x2 (halfN x1)) 0 = decide (halfN x1 ≤ x2) := by
    cases hh : cmpR .geq (cmpN x2 (halfN x1)) 0 with
    | true =>
      rw [c_geq_t] at hh
      refine (decide_eq_true ?_).symm
      unfold cmpN at hh
      split at hh <;> omega
    | false =>
      rw [c_geq_f] at hh
      refine (decide_eq_false ?_).symm
      unfold cmpN at hh
      split at hh
      · omega
      · split at hh <;> omega
  rw [hc]
  refine ⟨hf, ok_half hf, imp_f fun h => ?_, imp_t fun h => ?_⟩
  · rw [decide_eq_true_eq] at h
    refine ⟨hs, h, ?_⟩
    simp only [kR, canon, canons, getW, getWord, allInts8, asInt, isK, kindEq, isArgB, strOf, cBig, cInts, cWords, allInts, allWords, r_ofLimbs, r_mkWord, Option.some.injEq, LV.wide.injEq, LV.word.injEq, LV.int.injEq, LV.bool.injEq, LV.str.injEq, LV.big.injEq, LV.tup.injEq, LV.agg.injEq, List.cons.injEq, and_true, true_and]
    rw [w512_low]
    unfold wdN
    rw [if_pos h]
  · rw [decide_eq_false_iff_not] at h
    refine ⟨half_small hf (by omega), by omega, half_small hf (by omega), by omega, half_small hf (by omega), half_small hf (by omega), ?_⟩
    simp only [kR, canon, canons, getW, getWord, allInts8, asInt, isK, kindEq, isArgB, strOf, cBig, cInts, cWords, allInts, allWords, r_ofLimbs, r_mkWord, Option.some.injEq, LV.wide.injEq, LV.word.injEq, LV.int.injEq, LV.bool.injEq, LV.str.injEq, LV.big.injEq, LV.tup.injEq, LV.agg.injEq, List.cons.injEq, and_true, true_and]
    rw [w512_low]
    unfold wdN
    rw [if_neg h]
theorem p_known28 : SpecOk Tryd.prog globs 30 (mkSpec real [.int .i64, .word] (s_known28 ropsN)) := by
  have hfns : FnsOk Tryd.prog globs [(14, .spec (mkSpec real [.int .i64, .word] (s_class06 ropsC)))] := (fnsCons (fnSpec (p_class06)) fnsNil)
  refine spec0 hfns (by kernel_rfl) Tryd.func30 (by kernel_rfl) (by kernel_rfl) (by kernel_rfl) 4 _ _ (.bool) ?_
  clear hfns
  generalize hEE : env0 [(14, .spec (mkSpec real [.int .i64, .word] (s_class06 ropsC)))] = EE
  intro l r hl hr
  simp only [Forms, Form] at hl
  obtain ⟨_, _, rfl, ⟨x1, rfl, x1lo, x1hi⟩, _, _, rfl, ⟨x2, rfl⟩, rfl⟩ := hl
  subst hEE
  generalize hK : kR (.bool) r = K
  generalize hO : real = O
  generalize hS0 : rops = S0
  generalize hS1 : ropsB = S1
  generalize hS2 : ropsC = S2
  generalize hS3 : ropsD = S3
  generalize hS4 : ropsE = S4
  generalize hS5 : ropsF = S5
  generalize hS6 : ropsG = S6
  generalize hS7 : ropsH = S7
  generalize hS8 : ropsI = S8
  generalize hS9 : ropsJ = S9
  generalize hS10 : ropsK = S10
  generalize hS11 : ropsL = S11
  generalize hS12 : ropsM = S12
  generalize hS13 : ropsN = S13
  set_option maxRecDepth 100000 in cbv
  subst hO hK hS0 hS1 hS2 hS3 hS4 hS5 hS6 hS7 hS8 hS9 hS10 hS11 hS12 hS13
  simp only [s_known28, R.Y] at hr
  subst hr
  try dsimp only [real, rops, ropsB, ropsC, ropsD, ropsE, ropsF, ropsG, ropsH, ropsI, ropsJ, ropsK, ropsL, ropsM, ropsN]
  simp only [kR, canon, canons, getW, getWord, allInts8, asInt, isK, kindEq, isArgB, strOf, cBig, cInts, cWords, allInts, allWords, r_ofLimbs, r_mkWord, Option.some.injEq, LV.wide.injEq, LV.word.injEq, LV.int.injEq, LV.bool.injEq, LV.str.injEq, LV.big.injEq, LV.tup.injEq, LV.agg.injEq, List.cons.injEq, and_true, true_and]
  exact geq_dec _ _
theorem p_weight28 : SpecOk Tryd.prog globs 122 (mkSpec real [.int .i64, .word, .bool] (s_weight28 ropsN)) := by
  have hfns : FnsOk Tryd.prog globs [(74, .spec (mkSpec real [.int .i64, .word] (s_neg06 ropsC)))] := (fnsCons (fnSpec (p_neg06)) fnsNil)
  refine spec0 hfns (by kernel_rfl) Tryd.func122 (by kernel_rfl) (by kernel_rfl) (by kernel_rfl) 4 _ _ (.int .i64) ?_
  clear hfns
  generalize hEE : env0 [(74, .spec (mkSpec real [.int .i64, .word] (s_neg06 ropsC)))] = EE
  intro l r hl hr
  simp only [Forms, Form] at hl
  obtain ⟨_, _, rfl, ⟨x1, rfl, x1lo, x1hi⟩, _, _, rfl, ⟨x2, rfl⟩, _, _, rfl, ⟨x3, rfl⟩, rfl⟩ := hl
  subst hEE
  generalize hK : kR (.int .i64) r = K
  generalize hO : real = O
  generalize hS0 : rops = S0
  generalize hS1 : ropsB = S1
  generalize hS2 : ropsC = S2
  generalize hS3 : ropsD = S3
  generalize hS4 : ropsE = S4
  generalize hS5 : ropsF = S5
  generalize hS6 : ropsG = S6
  generalize hS7 : ropsH = S7
  generalize hS8 : ropsI = S8
  generalize hS9 : ropsJ = S9
  generalize hS10 : ropsK = S10
  generalize hS11 : ropsL = S11
  generalize hS12 : ropsM = S12
  generalize hS13 : ropsN = S13
  set_option maxRecDepth 100000 in cbv
  subst hO hK hS0 hS1 hS2 hS3 hS4 hS5 hS6 hS7 hS8 hS9 hS10 hS11 hS12 hS13
  simp only [s_weight28, R.Y] at hr
  subst hr
  try dsimp only [real, rops, ropsB, ropsC, ropsD, ropsE, ropsF, ropsG, ropsH, ropsI, ropsJ, ropsK, ropsL, ropsM, ropsN]
  unfold wgt
  cases x3 <;> cases wNeg x1 x2 <;> simp [kR, canon] <;> rfl
theorem p_cmp28 : SpecOk Tryd.prog globs 59 (mkSpec real [.int .i64, .word, .word] (s_cmp28 ropsN)) := by
  have hfns : FnsOk Tryd.prog globs [(14, .spec (mkSpec real [.int .i64, .word] (s_class06 ropsC))), (122, .spec (mkSpec real [.int .i64, .word, .bool] (s_weight28 ropsN))), (18, .spec (mkSpec real [.int .i64, .word] (s_value07 ropsM))), (24, .spec (mkSpec real [.st [.bool, .int .i64, .wide]] (s_of07 ropsK))), (46, .spec (mkSpec real [.st [.bool, .big, .int .i64], .st [.bool, .big, .int .i64]] (s_cmp07 ropsM)))] := (fnsCons (fnSpec (p_class06)) (fnsCons (fnSpec (p_weight28)) (fnsCons (fnSpec (p_value07)) (fnsCons (fnSpec (p_of07)) (fnsCons (fnSpec (p_cmp07)) fnsNil)))))
  refine spec0 hfns (by kernel_rfl) Tryd.func59 (by kernel_rfl) (by kernel_rfl) (by kernel_rfl) 4 _ _ (.int .i64) ?_
  clear hfns
  generalize hEE : env0 [(14, .spec (mkSpec real [.int .i64, .word] (s_class06 ropsC))), (122, .spec (mkSpec real [.int .i64, .word, .bool] (s_weight28 ropsN))), (18, .spec (mkSpec real [.int .i64, .word] (s_value07 ropsM))), (24, .spec (mkSpec real [.st [.bool, .int .i64, .wide]] (s_of07 ropsK))), (46, .spec (mkSpec real [.st [.bool, .big, .int .i64], .st [.bool, .big, .int .i64]] (s_cmp07 ropsM)))] = EE
  intro l r hl hr
  simp only [Forms, Form] at hl
  obtain ⟨_, _, rfl, ⟨x1, rfl, x1lo, x1hi⟩, _, _, rfl, ⟨x2, rfl⟩, _, _, rfl, ⟨x3, rfl⟩, rfl⟩ := hl
  subst hEE
  generalize hK : kR (.int .i64) r = K
  generalize hO : real = O
  generalize hS0 : rops = S0
  generalize hS1 : ropsB = S1
  generalize hS2 : ropsC = S2
  generalize hS3 : ropsD = S3
  generalize hS4 : ropsE = S4
  generalize hS5 : ropsF = S5
  generalize hS6 : ropsG = S6
  generalize hS7 : ropsH = S7
  generalize hS8 : ropsI = S8
  generalize hS9 : ropsJ = S9
  generalize hS10 : ropsK = S10
  generalize hS11 : ropsL = S11
  generalize hS12 : ropsM = S12
  generalize hS13 : ropsN = S13
  set_option maxRecDepth 100000 in cbv
  subst hO hK hS0 hS1 hS2 hS3 hS4 hS5 hS6 hS7 hS8 hS9 hS10 hS11 hS12 hS13
  simp only [s_cmp28, R.Y] at hr
  try dsimp only [real, rops, ropsB, ropsC, ropsD, ropsE, ropsF, ropsG, ropsH, ropsI, ropsJ, ropsK, ropsL, ropsM, ropsN]
  obtain ⟨ka, kb, hr⟩ := hr
  subst hr
  replace ka : 3 ≤ cls x1 x2 := ka
  replace kb : 3 ≤ cls x1 x3 := kb
  have w1 := wgt_rng x1 x2 (decide (cls x1 x2 = 3))
  have w2 := wgt_rng x1 x3 (decide (cls x1 x3 = 3))
  rw [eql_dec, eql_dec, clamp1, sub_i64 (by omega) (by omega)]
  refine ⟨imp_f fun h => ?_, imp_t fun h => ⟨imp_f fun h2 => ?_, imp_t fun h2 => ?_⟩⟩
  · rw [decide_eq_true_eq] at h
    simp only [kR, canon, canons, getW, getWord, allInts8, asInt, isK, kindEq, isArgB, strOf, cBig, cInts, cWords, allInts, allWords, r_ofLimbs, r_mkWord, Option.some.injEq, LV.wide.injEq, LV.word.injEq, LV.int.injEq, LV.bool.injEq, LV.str.injEq, LV.big.injEq, LV.tup.injEq, LV.agg.injEq, List.cons.injEq, and_true, true_and]
    exact c28_inf ka kb (.inl h)
  · rw [decide_eq_true_eq] at h2
    simp only [kR, canon, canons, getW, getWord, allInts8, asInt, isK, kindEq, isArgB, strOf, cBig, cInts, cWords, allInts, allWords, r_ofLimbs, r_mkWord, Option.some.injEq, LV.wide.injEq, LV.word.injEq, LV.int.injEq, LV.bool.injEq, LV.str.injEq, LV.big.injEq, LV.tup.injEq, LV.agg.injEq, List.cons.injEq, and_true, true_and]
    exact c28_inf ka kb (.inr h2)
  · rw [decide_eq_false_iff_not] at h h2
    have fa := (sval_fin ka h).1
    have fb := (sval_fin kb h2).1
    have ra := vExp_rng fa
    have rb := vExp_rng fb
    refine ⟨fa, fb, okN_wide _ (by omega), okN_wide _ (by omega), ?_⟩
    simp only [kR, canon, canons, getW, getWord, allInts8, asInt, isK, kindEq, isArgB, strOf, cBig, cInts, cWords, allInts, allWords, r_ofLimbs, r_mkWord, Option.some.injEq, LV.wide.injEq, LV.word.injEq, LV.int.injEq, LV.bool.injEq, LV.str.injEq, LV.big.injEq, LV.tup.injEq, LV.agg.injEq, List.cons.injEq, and_true, true_and]
    exact cmp_words fa fb
theorem p_amount : SpecOk Tryd.prog globs 87 (mkSpec real [.int .i64, .word] (s_amount ropsN)) := by
  have hfns : FnsOk Tryd.prog globs [(99, .spec (mkSpec real [.int .i64, .word] (s_cAbs ropsD))), (98, .spec (mkSpec real [.word] (s_from rops))), (100, .spec (mkSpec real [.int .i64, .word] (s_cNeg ropsC)))] := (fnsCons (fnSpec (p_cAbs)) (fnsCons (fnSpec (p_from)) (fnsCons (fnSpec (p_cNeg)) fnsNil)))
  refine spec0 hfns (by kernel_rfl) Tryd.func87 (by kernel_rfl) (by kernel_rfl) (by kernel_rfl) 4 _ _ (.tup [.wide, .bool]) ?_
  clear hfns
  generalize hEE : env0 [(99, .spec (mkSpec real [.int .i64, .word] (s_cAbs ropsD))), (98, .spec (mkSpec real [.word] (s_from rops))), (100, .spec (mkSpec real [.int .i64, .word] (s_cNeg ropsC)))] = EE
  intro l r hl hr
  simp only [Forms, Form] at hl
  obtain ⟨_, _, rfl, ⟨x1, rfl, x1lo, x1hi⟩, _, _, rfl, ⟨x2, rfl⟩, rfl⟩ := hl
  subst hEE
  generalize hK : kR (.tup [.wide, .bool]) r = K
  generalize hO : real = O
  generalize hS0 : rops = S0
  generalize hS1 : ropsB = S1
  generalize hS2 : ropsC = S2
  generalize hS3 : ropsD = S3
  generalize hS4 : ropsE = S4
  generalize hS5 : ropsF = S5
  generalize hS6 : ropsG = S6
  generalize hS7 : ropsH = S7
  generalize hS8 : ropsI = S8
  generalize hS9 : ropsJ = S9
  generalize hS10 : ropsK = S10
  generalize hS11 : ropsL = S11
  generalize hS12 : ropsM = S12
  generalize hS13 : ropsN = S13
  set_option maxRecDepth 100000 in cbv
  subst hO hK hS0 hS1 hS2 hS3 hS4 hS5 hS6 hS7 hS8 hS9 hS10 hS11 hS12 hS13
  simp only [s_amount, R.Y] at hr
  obtain ⟨hreq, hr⟩ := hr
  try dsimp only [rops, ropsB, ropsC, ropsD, ropsE, ropsF, ropsG, ropsH, ropsI, ropsJ, ropsK, ropsL, ropsM, ropsN] at hreq
  subst hr
  try dsimp only [real, rops, ropsB, ropsC, ropsD, ropsE, ropsF, ropsG, ropsH, ropsI, ropsJ, ropsK, ropsL, ropsM, ropsN]
  obtain ⟨hf, _⟩ := fits_lt hreq
  rw [amt_frW hreq, amt_zero hf (mag_lt _ _)]
  refine ⟨imp_f fun h => ?_, imp_t fun h => ?_⟩
  · simp only [kR, canon, canons, getW, getWord, allInts8, asInt, isK, kindEq, isArgB, strOf, cBig, cInts, cWords, allInts, allWords, r_ofLimbs, r_mkWord, Option.some.injEq, LV.wide.injEq, LV.word.injEq, LV.int.injEq, LV.bool.injEq, LV.str.injEq, LV.big.injEq, LV.tup.injEq, LV.agg.injEq, List.cons.injEq, and_true, true_and]
    rw [h, Bool.true_and]
  · simp only [kR, canon, canons, getW, getWord, allInts8, asInt, isK, kindEq, isArgB, strOf, cBig, cInts, cWords, allInts, allWords, r_ofLimbs, r_mkWord, Option.some.injEq, LV.wide.injEq, LV.word.injEq, LV.int.injEq, LV.bool.injEq, LV.str.injEq, LV.big.injEq, LV.tup.injEq, LV.agg.injEq, List.cons.injEq, and_true, true_and]
    rw [h, Bool.false_and]
theorem p_next : SpecOk Tryd.prog globs 47 (mkSpec real [.int .i64, .word, .bool] (s_next ropsN)) := by
  have hfns : FnsOk Tryd.prog globs [(86, inlF Tryd.f86), (108, .spec (mkSpec real [.int .i64, .word] (s_cOf ropsC))), (87, .spec (mkSpec real [.int .i64, .word] (s_amount ropsN))), (105, .spec (mkSpec real [.int .i64] (s_leastW rops))), (106, .spec (mkSpec real [.int .i64, .word] (s_cFlip ropsD))), (107, inlF Tryd.f107), (99, .spec (mkSpec real [.int .i64, .word] (s_cAbs ropsD))), (98, .spec (mkSpec real [.word] (s_from rops))), (101, .spec (mkSpec real [.ints .u64] (s_of rops))), (88, .spec (mkSpec real [.wide, .wide] (s_wAdd rops))), (81, .spec (mkSpec real [.wide, .wide] (s_wSub rops))), (145, .spec (mkSpec real [.wide] (s_low rops))), (100, .spec (mkSpec real [.int .i64, .word] (s_cNeg ropsC)))] := (fnsCons (inl_ok Tryd.func86 (by kernel_rfl) (by kernel_rfl)) (fnsCons (fnSpec (p_cOf)) (fnsCons (fnSpec (p_amount)) (fnsCons (fnSpec (p_leastW)) (fnsCons (fnSpec (p_cFlip)) (fnsCons (inl_ok Tryd.func107 (by kernel_rfl) (by kernel_rfl)) (fnsCons (fnSpec (p_cAbs)) (fnsCons (fnSpec (p_from)) (fnsCons (fnSpec (p_of)) (fnsCons (fnSpec (p_wAdd)) (fnsCons (fnSpec (p_wSub)) (fnsCons (fnSpec (p_low)) (fnsCons (fnSpec (p_cNeg)) fnsNil)))))))))))))
  refine spec0 hfns (by kernel_rfl) Tryd.func47 (by kernel_rfl) (by kernel_rfl) (by kernel_rfl) 4 _ _ (.tup [.word, .bool]) ?_
  clear hfns
  generalize hEE : env0 [(86, inlF Tryd.f86), (108, .spec (mkSpec real [.int .i64, .word] (s_cOf ropsC))), (87, .spec (mkSpec real [.int .i64, .word] (s_amount ropsN))), (105, .spec (mkSpec real [.int .i64] (s_leastW rops))), (106, .spec (mkSpec real [.int .i64, .word] (s_cFlip ropsD))), (107, inlF Tryd.f107), (99, .spec (mkSpec real [.int .i64, .word] (s_cAbs ropsD))), (98, .spec (mkSpec real [.word] (s_from rops))), (101, .spec (mkSpec real [.ints .u64] (s_of rops))), (88, .spec (mkSpec real [.wide, .wide] (s_wAdd rops))), (81, .spec (mkSpec real [.wide, .wide] (s_wSub rops))), (145, .spec (mkSpec real [.wide] (s_low rops))), (100, .spec (mkSpec real [.int .i64, .word] (s_cNeg ropsC)))] = EE
  intro l r hl hr
  simp only [Forms, Form] at hl
  obtain ⟨_, _, rfl, ⟨x1, rfl, x1lo, x1hi⟩, _, _, rfl, ⟨x2, rfl⟩, _, _, rfl, ⟨x3, rfl⟩, rfl⟩ := hl
  subst hEE
  generalize hK : kR (.tup [.word, .bool]) r = K
  generalize hO : real = O
  generalize hS0 : rops = S0
  generalize hS1 : ropsB = S1
  generalize hS2 : ropsC = S2
  generalize hS3 : ropsD = S3
  generalize hS4 : ropsE = S4
  generalize hS5 : ropsF = S5
  generalize hS6 : ropsG = S6
  generalize hS7 : ropsH = S7
  generalize hS8 : ropsI = S8
  generalize hS9 : ropsJ = S9
  generalize hS10 : ropsK = S10
  generalize hS11 : ropsL = S11
  generalize hS12 : ropsM = S12
  generalize hS13 : ropsN = S13
  set_option maxRecDepth 100000 in cbv
  subst hO hK hS0 hS1 hS2 hS3 hS4 hS5 hS6 hS7 hS8 hS9 hS10 hS11 hS12 hS13
  simp only [s_next, R.Y] at hr
  subst hr
  try dsimp only [real, rops, ropsB, ropsC, ropsD, ropsE, ropsF, ropsG, ropsH, ropsI, ropsJ, ropsK, ropsL, ropsM, ropsN]
  cases hd : decide (3 ≤ cls x1 x2) with
  | false =>
    rw [decide_eq_false_iff_not] at hd
    refine ⟨imp_f fun _ => ?_, imp_t fun h => by rw [c_lss_f] at h; omega⟩
    simp only [kR, canon, canons, getW, getWord, allInts8, asInt, isK, kindEq, isArgB, strOf, cBig, cInts, cWords, allInts, allWords, r_ofLimbs, r_mkWord, Option.some.injEq, LV.wide.injEq, LV.word.injEq, LV.int.injEq, LV.bool.injEq, LV.str.injEq, LV.big.injEq, LV.tup.injEq, LV.agg.injEq, List.cons.injEq, and_true, true_and]
    unfold onx
    rw [if_neg hd]
  | true =>
    rw [decide_eq_true_eq] at hd
    have hF := known_fits hd
    obtain ⟨hf, _⟩ := fits_lt hF
    have hi := inf_pos hf
    have hm := (known_iff.1 hd).2
    have hc3 := (cls_mag hF).2.1
    rw [amt_frW hF, amt_zero hf (mag_lt _ _)]
    unfold onx
    rw [if_pos hd]
    have tr : ∀ v u, v = u → kR (.tup [.word, .bool]) (.tup [.word v, .bool true]) (.tup [.word u, .blit true]) := fun v u h => by
      subst h
      simp only [kR, canon, canons, getW, getWord, allInts8, asInt, isK, kindEq, isArgB, strOf, cBig, cInts, cWords, allInts, allWords, r_ofLimbs, r_mkWord, Option.some.injEq, LV.wide.injEq, LV.word.injEq, LV.int.injEq, LV.bool.injEq, LV.str.injEq, LV.big.injEq, LV.tup.injEq, LV.agg.injEq, List.cons.injEq, and_true, true_and]
    refine ⟨imp_f fun h => by rw [c_lss_t] at h; omega, imp_t fun _ => ⟨hF, imp_f fun h => ?_, imp_t fun h => ?_⟩⟩
    · rw [decide_eq_true_eq] at h
      rw [if_pos h]
      have hfl : wFlip x1 (fLeast x1) = fWordOf x1 true 1 := by
        unfold fLeast; rw [wOf_flip hf (by omega)]; rfl
      refine ⟨imp_f fun g => tr _ _ ?_, imp_t fun g => tr _ _ ?_⟩
      · rw [g, hfl]
      · rw [g]; rfl
    · rw [decide_eq_false_iff_not] at h
      rw [if_neg h, decide_eq_false h, Bool.not_false, Bool.and_true]
      refine ⟨imp_f fun g => ?_, imp_t fun g => ?_⟩
      · have g : wNeg x1 x2 = x3 := by simpa using g
        rw [if_pos g, amt_sub hf (by omega) h]
        refine ⟨imp_f fun n => tr _ _ ?_, imp_t fun n => tr _ _ ?_⟩
        · rw [wOf_flip hf (by omega), ← g, n]; rfl
        · rw [← g, n]
      · have g : ¬ wNeg x1 x2 = x3 := by simpa using g
        rw [if_neg g]
        refine ⟨imp_f fun c => tr _ _ ?_, imp_t fun c => ?_⟩
        · rw [c_eql_t, hc3] at c
          rw [if_pos c]
        · rw [c_eql_f] at c; rw [Ne, hc3] at c
          rw [if_neg c, amt_add hf (by omega)]
          refine ⟨imp_f fun n => tr _ _ ?_, imp_t fun n => tr _ _ ?_⟩
          · rw [wOf_flip hf (by omega)]
            rw [n] at g
            have : x3 = false := by cases x3 <;> simp at g ⊢
            rw [this]
          · rw [n] at g
            have : x3 = true := by cases x3 <;> simp at g ⊢
            rw [this]; rfl
theorem p_awake28 : SpecOk Tryd.prog globs 31 (mkSpec real [] (s_awake28 ropsN)) := by
  have hfns : FnsOk Tryd.prog globs [(47, .spec (mkSpec real [.int .i64, .word, .bool] (s_next ropsN)))] := (fnsCons (fnSpec (p_next)) fnsNil)
  refine spec0 hfns (by kernel_rfl) Tryd.func31 (by kernel_rfl) (by kernel_rfl) (by kernel_rfl) 4 _ _ (.bool) ?_
  clear hfns
  generalize hEE : env0 [(47, .spec (mkSpec real [.int .i64, .word, .bool] (s_next ropsN)))] = EE
  intro l r hl hr
  simp only [Forms, Form] at hl
  obtain rfl := hl
  subst hEE
  generalize hK : kR (.bool) r = K
  generalize hO : real = O
  generalize hS0 : rops = S0
  generalize hS1 : ropsB = S1
  generalize hS2 : ropsC = S2
  generalize hS3 : ropsD = S3
  generalize hS4 : ropsE = S4
  generalize hS5 : ropsF = S5
  generalize hS6 : ropsG = S6
  generalize hS7 : ropsH = S7
  generalize hS8 : ropsI = S8
  generalize hS9 : ropsJ = S9
  generalize hS10 : ropsK = S10
  generalize hS11 : ropsL = S11
  generalize hS12 : ropsM = S12
  generalize hS13 : ropsN = S13
  set_option maxRecDepth 100000 in cbv
  subst hO hK hS0 hS1 hS2 hS3 hS4 hS5 hS6 hS7 hS8 hS9 hS10 hS11 hS12 hS13
  simp only [s_awake28, R.Y] at hr
  subst hr
  try dsimp only [real, rops, ropsB, ropsC, ropsD, ropsE, ropsF, ropsG, ropsH, ropsI, ropsJ, ropsK, ropsL, ropsM, ropsN]
  simp only [kb_t, kb_lt, kb_lf]; decide +kernel
end Go.LE