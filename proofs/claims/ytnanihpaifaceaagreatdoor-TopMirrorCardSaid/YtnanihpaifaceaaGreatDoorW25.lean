import Derived.Test.YtnanihpaifaceaaGreatDoorW23
import Derived.Test.YtnanihpaifaceaaGreatDoorLeQ
set_option linter.unusedVariables false
set_option linter.unusedSimpArgs false
namespace Go.LE
open Go Go.Proofs
structure OpsS where
  kind : Int → BitVec 128 → Int
  rule : Int → Int → ByteArray
  grp : Int → BitVec 128 → ByteArray
  divS : Int → BitVec 128 → BitVec 128 → ByteArray
  sqrS : Int → BitVec 128 → ByteArray
  divW : Int → BitVec 128 → BitVec 128 → BitVec 128
  divX : Int → BitVec 128 → BitVec 128 → Int
  divOk : Int → BitVec 128 → BitVec 128 → Bool
  sqrW : Int → BitVec 128 → BitVec 128
  sqrX : Int → BitVec 128 → Int
  sqrOk : Int → BitVec 128 → Bool
  opS : Int → Int → BitVec 128 → BitVec 128 → ByteArray
noncomputable def ropsS : OpsS where
  kind := kindOf2
  rule := fun x y => sCode (ruleC x y)
  grp := fun f w => gS (cls f w)
  divS := fun f a b => sCode (divC f a b)
  sqrS := fun f a => sCode (sqrC f a)
  divW := divW
  divX := divX
  divOk := divOk
  sqrW := sqrW
  sqrX := sqrX
  sqrOk := sqrOk
  opS := fun f o a b => if o = 1 then sCode (divC f a b) else if o = 2 then sCode (sqrC f a) else bytesOf []
def s_skind (S : OpsS) : List LV → R LV
  | [.int _ f, .word w] => .ok (.int .i64 (S.kind f w))
  | _ => .fail
def s_srule (S : OpsS) : List LV → R LV
  | [.int _ x, .int _ y] => .ok (.str (S.rule x y))
  | _ => .fail
def s_sroot (S : OpsS) : List LV → R LV
  | [.int _ f, .word w] => .ok (.str (S.sqrS f w))
  | _ => .fail
def s_sRule (S : OpsS) : List LV → R LV
  | [.int _ f, .int _ o, .word a, .word b] => .ok (.str (S.opS f o a b))
  | _ => .fail
def s_sDiv (S : OpsS) : List LV → R LV
  | [.int _ f, .word a, .word b] => .ok (.tup [.word (S.divW f a b), .int .i64 (S.divX f a b), .bool (S.divOk f a b)])
  | _ => .fail
def s_sSqrt (S : OpsS) : List LV → R LV
  | [.int _ f, .word a] => .ok (.tup [.word (S.sqrW f a), .int .i64 (S.sqrX f a), .bool (S.sqrOk f a)])
  | _ => .fail
def s_groupL (c : Int) (S : OpsK) : List LV → R LV
  | [.int _ f, .word w] => .req (S.isC f w c) (.ok (.str (gS c)))
  | _ => .fail
def s_group (S : OpsS) : List LV → R LV
  | [.int _ f, .word w] => .ok (.str (S.grp f w))
  | _ => .fail
def s_rule26 (S : OpsS) : List LV → R LV
  | [.int _ f, .word a, .word b] => .ok (.str (S.divS f a b))
  | _ => .fail
def s_root26 (S : OpsS) : List LV → R LV
  | [.int _ f, .word w] => .ok (.str (S.sqrS f w))
  | _ => .fail
def s_div26 (S : OpsS) : List LV → R LV
  | [.int _ f, .word a, .word b] => .ok (.tup [.word (S.divW f a b), .int .i64 (S.divX f a b), .bool (S.divOk f a b)])
  | _ => .fail
def s_sqrt26 (S : OpsS) : List LV → R LV
  | [.int _ f, .word a] => .ok (.tup [.word (S.sqrW f a), .int .i64 (S.sqrX f a), .bool (S.sqrOk f a)])
  | _ => .fail
def s_awake26 (_ : OpsS) : List LV → R LV := fun _ => .ok (.bool true)
def s_SpecialDivs (_ : OpsS) : List LV → R LV := fun _ => .ok (.bool true)
def s_SpecialRoots (_ : OpsS) : List LV → R LV := fun _ => .ok (.bool true)
theorem p_skind : SpecOk Tryz.prog globs 71 (mkSpec real [.int .i64, .word] (s_skind ropsS)) := by
  have hfns : FnsOk Tryz.prog globs [(78, .spec (mkSpec real [.int .i64, .word] (s_cOf ropsC)))] := (fnsCons (fnSpec (p_cOf)) fnsNil)
  refine spec0 hfns (by kernel_rfl) Tryz.func71 (by kernel_rfl) (by kernel_rfl) (by kernel_rfl) 4 _ _ (.int .i64) ?_
  clear hfns
  generalize hEE : env0 [(78, .spec (mkSpec real [.int .i64, .word] (s_cOf ropsC)))] = EE
  intro l r hl hr
  simp only [Forms, Form] at hl
  obtain ⟨_, _, rfl, ⟨x1, rfl, x1lo, x1hi⟩, _, _, rfl, ⟨x2, rfl⟩, rfl⟩ := hl
  subst hEE
  generalize hK : kR (.int .i64) r = K
  generalize hO : real = O
  generalize hS0 : rops = S0
  generalize hS1 : ropsB = S1
  generalize hS2 : ropsC = S2
  generalize hS3 : ropsD = S3
  generalize hS4 : ropsE = S4
  generalize hS5 : ropsF = S5
  generalize hS6 : ropsG = S6
  generalize hS7 : ropsH = S7
  generalize hS8 : ropsI = S8
  generalize hS9 : ropsJ = S9
  generalize hS10 : ropsK = S10
  generalize hS11 : ropsL = S11
  generalize hS12 : ropsM = S12
  generalize hS13 : ropsN = S13
  generalize hS14 : ropsP = S14
  generalize hS15 : ropsQ = S15
  generalize hS16 : ropsR = S16
  generalize hS17 : ropsS = S17
  set_option maxRecDepth 100000 in cbv
  subst hO hK hS0 hS1 hS2 hS3 hS4 hS5 hS6 hS7 hS8 hS9 hS10 hS11 hS12 hS13 hS14 hS15 hS16 hS17
  simp only [s_skind, R.Y] at hr
  subst hr
  try dsimp only [real, rops, ropsB, ropsC, ropsD, ropsE, ropsF, ropsG, ropsH, ropsI, ropsJ, ropsK, ropsL, ropsM, ropsN, ropsP, ropsQ, ropsR, ropsS]
  have hr := cls_rng x1 x2
  unfold kindOf2
  generalize cls x1 x2 = c at *
  have hc7 : c = 0 ∨ c = 1 ∨ c = 2 ∨ c = 3 ∨ c = 4 ∨ c = 5 ∨ c = 6 := by omega
  rcases hc7 with rfl | rfl | rfl | rfl | rfl | rfl | rfl
  all_goals simp only [kR, canon, canons, ekEq, numE, getW, getWord, allInts8, asInt, isK, kindEq, isArgB, strOf, cBig, cInts, cWords, allInts, allWords, r_ofLimbs, r_mkWord, Option.some.injEq, LV.wide.injEq, LV.word.injEq, LV.int.injEq, LV.bool.injEq, LV.str.injEq, LV.big.injEq, LV.tup.injEq, LV.agg.injEq, List.cons.injEq, and_true, true_and]
  all_goals decide +kernel
theorem p_srule : SpecOk Tryz.prog globs 70 (mkSpec real [.int .i64, .int .i64] (s_srule ropsS)) := by
  have hfns : FnsOk Tryz.prog globs [] := fnsNil
  refine spec0 hfns (by kernel_rfl) Tryz.func70 (by kernel_rfl) (by kernel_rfl) (by kernel_rfl) 4 _ _ (.str) ?_
  clear hfns
  generalize hEE : env0 [] = EE
  intro l r hl hr
  simp only [Forms, Form] at hl
  obtain ⟨_, _, rfl, ⟨x1, rfl, x1lo, x1hi⟩, _, _, rfl, ⟨x2, rfl, x2lo, x2hi⟩, rfl⟩ := hl
  subst hEE
  generalize hK : kR (.str) r = K
  generalize hO : real = O
  set_option maxRecDepth 100000 in cbv
  subst hO hK 
  simp only [s_srule, R.Y] at hr
  subst hr
  try dsimp only [real, rops, ropsB, ropsC, ropsD, ropsE, ropsF, ropsG, ropsH, ropsI, ropsJ, ropsK, ropsL, ropsM, ropsN, ropsP, ropsQ, ropsR, ropsS]
  simp only [eql_dec, neq_dec]
  repeat' (first | apply And.intro | (refine imp_f fun _ => ?_) | (refine imp_t fun _ => ?_))
  all_goals simp only [decide_eq_true_eq, decide_eq_false_iff_not, ne_eq, Decidable.not_not] at *
  all_goals simp only [kR, canon, canons, ekEq, numE, getW, getWord, allInts8, asInt, isK, kindEq, isArgB, strOf, cBig, cInts, cWords, allInts, allWords, r_ofLimbs, r_mkWord, Option.some.injEq, LV.wide.injEq, LV.word.injEq, LV.int.injEq, LV.bool.injEq, LV.str.injEq, LV.big.injEq, LV.tup.injEq, LV.agg.injEq, List.cons.injEq, and_true, true_and]
  all_goals first
    | (exfalso; omega)
    | (rw [show ruleC x1 x2 = 0 by unfold ruleC; repeat (first | rw [if_pos (by omega)] | rw [if_neg (by omega)])]; rfl)
    | (rw [show ruleC x1 x2 = 1 by unfold ruleC; repeat (first | rw [if_pos (by omega)] | rw [if_neg (by omega)])]; rfl)
    | (rw [show ruleC x1 x2 = 2 by unfold ruleC; repeat (first | rw [if_pos (by omega)] | rw [if_neg (by omega)])]; rfl)
    | (rw [show ruleC x1 x2 = 3 by unfold ruleC; repeat (first | rw [if_pos (by omega)] | rw [if_neg (by omega)])]; rfl)
    | (rw [show ruleC x1 x2 = 4 by unfold ruleC; repeat (first | rw [if_pos (by omega)] | rw [if_neg (by omega)])]; rfl)
    | (rw [show ruleC x1 x2 = 5 by unfold ruleC; repeat (first | rw [if_pos (by omega)] | rw [if_neg (by omega)])]; rfl)
    | (rw [show ruleC x1 x2 = 6 by unfold ruleC; repeat (first | rw [if_pos (by omega)] | rw [if_neg (by omega)])]; rfl)
theorem p_sroot : SpecOk Tryz.prog globs 72 (mkSpec real [.int .i64, .word] (s_sroot ropsS)) := by
  have hfns : FnsOk Tryz.prog globs [(52, .spec (mkSpec real [.int .i64, .word] (s_cNeg ropsC))), (71, .spec (mkSpec real [.int .i64, .word] (s_skind ropsS)))] := (fnsCons (fnSpec (p_cNeg)) (fnsCons (fnSpec (p_skind)) fnsNil))
  refine spec0 hfns (by kernel_rfl) Tryz.func72 (by kernel_rfl) (by kernel_rfl) (by kernel_rfl) 4 _ _ (.str) ?_
  clear hfns
  generalize hEE : env0 [(52, .spec (mkSpec real [.int .i64, .word] (s_cNeg ropsC))), (71, .spec (mkSpec real [.int .i64, .word] (s_skind ropsS)))] = EE
  intro l r hl hr
  simp only [Forms, Form] at hl
  obtain ⟨_, _, rfl, ⟨x1, rfl, x1lo, x1hi⟩, _, _, rfl, ⟨x2, rfl⟩, rfl⟩ := hl
  subst hEE
  generalize hK : kR (.str) r = K
  generalize hO : real = O
  generalize hS0 : rops = S0
  generalize hS1 : ropsB = S1
  generalize hS2 : ropsC = S2
  generalize hS3 : ropsD = S3
  generalize hS4 : ropsE = S4
  generalize hS5 : ropsF = S5
  generalize hS6 : ropsG = S6
  generalize hS7 : ropsH = S7
  generalize hS8 : ropsI = S8
  generalize hS9 : ropsJ = S9
  generalize hS10 : ropsK = S10
  generalize hS11 : ropsL = S11
  generalize hS12 : ropsM = S12
  generalize hS13 : ropsN = S13
  generalize hS14 : ropsP = S14
  generalize hS15 : ropsQ = S15
  generalize hS16 : ropsR = S16
  generalize hS17 : ropsS = S17
  set_option maxRecDepth 100000 in cbv
  subst hO hK hS0 hS1 hS2 hS3 hS4 hS5 hS6 hS7 hS8 hS9 hS10 hS11 hS12 hS13 hS14 hS15 hS16 hS17
  simp only [s_sroot, R.Y] at hr
  subst hr
  try dsimp only [real, rops, ropsB, ropsC, ropsD, ropsE, ropsF, ropsG, ropsH, ropsI, ropsJ, ropsK, ropsL, ropsM, ropsN, ropsP, ropsQ, ropsR, ropsS]
  have hr := kindK_rng (cls x1 x2)
  unfold sqrC
  have e : kindOf2 x1 x2 = kindK (cls x1 x2) := rfl
  rw [e]
  generalize kindK (cls x1 x2) = c at *
  have hc : c = 0 ∨ c = 1 ∨ c = 2 ∨ c = 3 ∨ c = 4 := by omega
  rcases hc with rfl | rfl | rfl | rfl | rfl <;> cases wNeg x1 x2
  all_goals simp only [kR, canon, canons, ekEq, numE, getW, getWord, allInts8, asInt, isK, kindEq, isArgB, strOf, cBig, cInts, cWords, allInts, allWords, r_ofLimbs, r_mkWord, Option.some.injEq, LV.wide.injEq, LV.word.injEq, LV.int.injEq, LV.bool.injEq, LV.str.injEq, LV.big.injEq, LV.tup.injEq, LV.agg.injEq, List.cons.injEq, and_true, true_and]
  all_goals decide +kernel
theorem p_sRule : SpecOk Tryz.prog globs 53 (mkSpec real [.int .i64, .int .i64, .word, .word] (s_sRule ropsS)) := by
  have hfns : FnsOk Tryz.prog globs [(71, .spec (mkSpec real [.int .i64, .word] (s_skind ropsS))), (70, .spec (mkSpec real [.int .i64, .int .i64] (s_srule ropsS))), (72, .spec (mkSpec real [.int .i64, .word] (s_sroot ropsS)))] := (fnsCons (fnSpec (p_skind)) (fnsCons (fnSpec (p_srule)) (fnsCons (fnSpec (p_sroot)) fnsNil)))
  refine spec0 hfns (by kernel_rfl) Tryz.func53 (by kernel_rfl) (by kernel_rfl) (by kernel_rfl) 4 _ _ (.str) ?_
  clear hfns
  generalize hEE : env0 [(71, .spec (mkSpec real [.int .i64, .word] (s_skind ropsS))), (70, .spec (mkSpec real [.int .i64, .int .i64] (s_srule ropsS))), (72, .spec (mkSpec real [.int .i64, .word] (s_sroot ropsS)))] = EE
  intro l r hl hr
  simp only [Forms, Form] at hl
  obtain ⟨_, _, rfl, ⟨x1, rfl, x1lo, x1hi⟩, _, _, rfl, ⟨x2, rfl, x2lo, x2hi⟩, _, _, rfl, ⟨x3, rfl⟩, _, _, rfl, ⟨x4, rfl⟩, rfl⟩ := hl
  subst hEE
  generalize hK : kR (.str) r = K
  generalize hO : real = O
  generalize hS0 : rops = S0
  generalize hS1 : ropsB = S1
  generalize hS2 : ropsC = S2
  generalize hS3 : ropsD = S3
  generalize hS4 : ropsE = S4
  generalize hS5 : ropsF = S5
  generalize hS6 : ropsG = S6
  generalize hS7 : ropsH = S7
  generalize hS8 : ropsI = S8
  generalize hS9 : ropsJ = S9
  generalize hS10 : ropsK = S10
  generalize hS11 : ropsL = S11
  generalize hS12 : ropsM = S12
  generalize hS13 : ropsN = S13
  generalize hS14 : ropsP = S14
  generalize hS15 : ropsQ = S15
  generalize hS16 : ropsR = S16
  generalize hS17 : ropsS = S17
  set_option maxRecDepth 100000 in cbv
  subst hO hK hS0 hS1 hS2 hS3 hS4 hS5 hS6 hS7 hS8 hS9 hS10 hS11 hS12 hS13 hS14 hS15 hS16 hS17
  simp only [s_sRule, R.Y] at hr
  subst hr
  try dsimp only [real, rops, ropsB, ropsC, ropsD, ropsE, ropsF, ropsG, ropsH, ropsI, ropsJ, ropsK, ropsL, ropsM, ropsN, ropsP, ropsQ, ropsR, ropsS]
  simp only [eql_dec]
  refine ⟨imp_f fun h => ?_, imp_t fun h => ⟨imp_f fun h2 => ?_, imp_t fun h2 => ?_⟩⟩
  · rw [decide_eq_true_eq] at h
    simp only [kR, canon, canons, ekEq, numE, getW, getWord, allInts8, asInt, isK, kindEq, isArgB, strOf, cBig, cInts, cWords, allInts, allWords, r_ofLimbs, r_mkWord, Option.some.injEq, LV.wide.injEq, LV.word.injEq, LV.int.injEq, LV.bool.injEq, LV.str.injEq, LV.big.injEq, LV.tup.injEq, LV.agg.injEq, List.cons.injEq, and_true, true_and]
    rw [if_pos h]
    rfl
  · rw [decide_eq_false_iff_not] at h
    rw [decide_eq_true_eq] at h2
    simp only [kR, canon, canons, ekEq, numE, getW, getWord, allInts8, asInt, isK, kindEq, isArgB, strOf, cBig, cInts, cWords, allInts, allWords, r_ofLimbs, r_mkWord, Option.some.injEq, LV.wide.injEq, LV.word.injEq, LV.int.injEq, LV.bool.injEq, LV.str.injEq, LV.big.injEq, LV.tup.injEq, LV.agg.injEq, List.cons.injEq, and_true, true_and]
    rw [if_neg h, if_pos h2]
  · rw [decide_eq_false_iff_not] at h h2
    simp only [kR, canon, canons, ekEq, numE, getW, getWord, allInts8, asInt, isK, kindEq, isArgB, strOf, cBig, cInts, cWords, allInts, allWords, r_ofLimbs, r_mkWord, Option.some.injEq, LV.wide.injEq, LV.word.injEq, LV.int.injEq, LV.bool.injEq, LV.str.injEq, LV.big.injEq, LV.tup.injEq, LV.agg.injEq, List.cons.injEq, and_true, true_and]
    rw [if_neg h, if_neg h2]
    rfl
theorem p_sDiv : SpecOk Tryz.prog globs 45 (mkSpec real [.int .i64, .word, .word] (s_sDiv ropsS)) := by
  have hfns : FnsOk Tryz.prog globs [(53, .spec (mkSpec real [.int .i64, .int .i64, .word, .word] (s_sRule ropsS))), (54, .spec (mkSpec real [.int .i64, .words] (s_nanOf ropsG))), (55, .spec (mkSpec real [.int .i64] (s_none10 ropsI))), (51, inlF Tryz.f51), (52, .spec (mkSpec real [.int .i64, .word] (s_cNeg ropsC))), (56, .spec (mkSpec real [.int .i64, .bool] (s_infW rops))), (57, .spec (mkSpec real [.int .i64, .bool] (s_noughtW rops)))] := (fnsCons (fnSpec (p_sRule)) (fnsCons (fnSpec (p_nanOf)) (fnsCons (fnSpec (p_none10)) (fnsCons (inl_ok Tryz.func51 (by kernel_rfl) (by kernel_rfl)) (fnsCons (fnSpec (p_cNeg)) (fnsCons (fnSpec (p_infW)) (fnsCons (fnSpec (p_noughtW)) fnsNil)))))))
  refine spec0 hfns (by kernel_rfl) Tryz.func45 (by kernel_rfl) (by kernel_rfl) (by kernel_rfl) 6 _ _ (.tup [.word, .int .i64, .bool]) ?_
  clear hfns
  generalize hEE : env0 [(53, .spec (mkSpec real [.int .i64, .int .i64, .word, .word] (s_sRule ropsS))), (54, .spec (mkSpec real [.int .i64, .words] (s_nanOf ropsG))), (55, .spec (mkSpec real [.int .i64] (s_none10 ropsI))), (51, inlF Tryz.f51), (52, .spec (mkSpec real [.int .i64, .word] (s_cNeg ropsC))), (56, .spec (mkSpec real [.int .i64, .bool] (s_infW rops))), (57, .spec (mkSpec real [.int .i64, .bool] (s_noughtW rops)))] = EE
  intro l r hl hr
  simp only [Forms, Form] at hl
  obtain ⟨_, _, rfl, ⟨x1, rfl, x1lo, x1hi⟩, _, _, rfl, ⟨x2, rfl⟩, _, _, rfl, ⟨x3, rfl⟩, rfl⟩ := hl
  subst hEE
  generalize hK : kR (.tup [.word, .int .i64, .bool]) r = K
  generalize hO : real = O
  generalize hS0 : rops = S0
  generalize hS1 : ropsB = S1
  generalize hS2 : ropsC = S2
  generalize hS3 : ropsD = S3
  generalize hS4 : ropsE = S4
  generalize hS5 : ropsF = S5
  generalize hS6 : ropsG = S6
  generalize hS7 : ropsH = S7
  generalize hS8 : ropsI = S8
  generalize hS9 : ropsJ = S9
  generalize hS10 : ropsK = S10
  generalize hS11 : ropsL = S11
  generalize hS12 : ropsM = S12
  generalize hS13 : ropsN = S13
  generalize hS14 : ropsP = S14
  generalize hS15 : ropsQ = S15
  generalize hS16 : ropsR = S16
  generalize hS17 : ropsS = S17
  set_option maxRecDepth 100000 in cbv
  subst hO hK hS0 hS1 hS2 hS3 hS4 hS5 hS6 hS7 hS8 hS9 hS10 hS11 hS12 hS13 hS14 hS15 hS16 hS17
  simp only [s_sDiv, R.Y] at hr
  subst hr
  try dsimp only [real, rops, ropsB, ropsC, ropsD, ropsE, ropsF, ropsG, ropsH, ropsI, ropsJ, ropsK, ropsL, ropsM, ropsN, ropsP, ropsQ, ropsR, ropsS]
  have e0 : (if (1 : Int) = 1 then sCode (divC x1 x2 x3) else if (1 : Int) = 2 then sCode (sqrC x1 x2) else bytesOf []) = sCode (divC x1 x2 x3) := if_pos rfl
  simp only [show ((2 : Int) = 1) = False from propext ⟨fun h => by omega, False.elim⟩, if_true, if_false]
  have q1 : ({ data := { toList := [110, 97, 110] } } : ByteArray) = sCode 1 := rfl
  have q2 : ({ data := { toList := [105, 110, 118, 97, 108, 105, 100] } } : ByteArray) = sCode 2 := rfl
  have q3 : ({ data := { toList := [105, 110, 102, 105, 110, 105, 116, 101] } } : ByteArray) = sCode 3 := rfl
  have q4 : ({ data := { toList := [122, 101, 114, 111] } } : ByteArray) = sCode 4 := rfl
  have q5 : ({ data := { toList := [110, 111, 117, 103, 104, 116] } } : ByteArray) = sCode 5 := rfl
  have q7 : ({ data := { toList := [115, 97, 109, 101] } } : ByteArray) = sCode 7 := rfl
  have hcr : 0 ≤ divC x1 x2 x3 ∧ divC x1 x2 x3 ≤ 7 := by have := ruleC_rng (kindOf2 x1 x2) (kindOf2 x1 x3); unfold divC; omega
  have i1 := code_is (c := divC x1 x2 x3) (k := 1) hcr (by decide)
  have i2 := code_is (c := divC x1 x2 x3) (k := 2) hcr (by decide)
  have i3 := code_is (c := divC x1 x2 x3) (k := 3) hcr (by decide)
  have i4 := code_is (c := divC x1 x2 x3) (k := 4) hcr (by decide)
  have i5 := code_is (c := divC x1 x2 x3) (k := 5) hcr (by decide)
  have i7 := code_is (c := divC x1 x2 x3) (k := 7) hcr (by decide)
  have hF : divC x1 x2 x3 ≠ 0 → (1 ≤ x1 ∧ x1 ≤ 4) := div_isF
  have hO : (1 ≤ x1 ∧ x1 ≤ 4) → fOk x1 = true := fun h => by unfold fOk; exact decide_eq_true h
  simp only [q1, q2, q3, q4, q5, q7]
  simp only [i1, i2, i3, i4, i5, i7]
  unfold divW divX divOk dvNeg
  generalize divC x1 x2 x3 = c at *
  rcases code_cases hcr with rfl | rfl | rfl | rfl | rfl | rfl | rfl | rfl
  all_goals (try (have hf := hF (by decide); have ho := hO hf))
  all_goals simp (decide := true) only [if_true, if_false, if_pos, if_neg, decide_true, decide_false, Bool.false_eq_true, Bool.true_eq_false, reduceCtorEq, false_or, true_or, or_true, or_false, and_true, true_and, Bool.or_false]
  all_goals (try (first | (refine ⟨hf, ?_⟩) | (refine ⟨trivial, hf, ?_⟩)))
  all_goals (try rw [ho])
  all_goals simp only [kR, canon, canons, ekEq, numE, getW, getWord, allInts8, asInt, isK, kindEq, isArgB, strOf, cBig, cInts, cWords, allInts, allWords, r_ofLimbs, r_mkWord, Option.some.injEq, LV.wide.injEq, LV.word.injEq, LV.int.injEq, LV.bool.injEq, LV.str.injEq, LV.big.injEq, LV.tup.injEq, LV.agg.injEq, List.cons.injEq, and_true, true_and]
  all_goals (try first | rfl | exact ⟨rfl, rfl⟩ | exact ⟨rfl, rfl, rfl⟩)
theorem p_sSqrt : SpecOk Tryz.prog globs 47 (mkSpec real [.int .i64, .word] (s_sSqrt ropsS)) := by
  have hfns : FnsOk Tryz.prog globs [(53, .spec (mkSpec real [.int .i64, .int .i64, .word, .word] (s_sRule ropsS))), (54, .spec (mkSpec real [.int .i64, .words] (s_nanOf ropsG))), (55, .spec (mkSpec real [.int .i64] (s_none10 ropsI)))] := (fnsCons (fnSpec (p_sRule)) (fnsCons (fnSpec (p_nanOf)) (fnsCons (fnSpec (p_none10)) fnsNil)))
  refine spec0 hfns (by kernel_rfl) Tryz.func47 (by kernel_rfl) (by kernel_rfl) (by kernel_rfl) 4 _ _ (.tup [.word, .int .i64, .bool]) ?_
  clear hfns
  generalize hEE : env0 [(53, .spec (mkSpec real [.int .i64, .int .i64, .word, .word] (s_sRule ropsS))), (54, .spec (mkSpec real [.int .i64, .words] (s_nanOf ropsG))), (55, .spec (mkSpec real [.int .i64] (s_none10 ropsI)))] = EE
  intro l r hl hr
  simp only [Forms, Form] at hl
  obtain ⟨_, _, rfl, ⟨x1, rfl, x1lo, x1hi⟩, _, _, rfl, ⟨x2, rfl⟩, rfl⟩ := hl
  subst hEE
  generalize hK : kR (.tup [.word, .int .i64, .bool]) r = K
  generalize hO : real = O
  generalize hS0 : rops = S0
  generalize hS1 : ropsB = S1
  generalize hS2 : ropsC = S2
  generalize hS3 : ropsD = S3
  generalize hS4 : ropsE = S4
  generalize hS5 : ropsF = S5
  generalize hS6 : ropsG = S6
  generalize hS7 : ropsH = S7
  generalize hS8 : ropsI = S8
  generalize hS9 : ropsJ = S9
  generalize hS10 : ropsK = S10
  generalize hS11 : ropsL = S11
  generalize hS12 : ropsM = S12
  generalize hS13 : ropsN = S13
  generalize hS14 : ropsP = S14
  generalize hS15 : ropsQ = S15
  generalize hS16 : ropsR = S16
  generalize hS17 : ropsS = S17
  set_option maxRecDepth 100000 in cbv
  subst hO hK hS0 hS1 hS2 hS3 hS4 hS5 hS6 hS7 hS8 hS9 hS10 hS11 hS12 hS13 hS14 hS15 hS16 hS17
  simp only [s_sSqrt, R.Y] at hr
  subst hr
  try dsimp only [real, rops, ropsB, ropsC, ropsD, ropsE, ropsF, ropsG, ropsH, ropsI, ropsJ, ropsK, ropsL, ropsM, ropsN, ropsP, ropsQ, ropsR, ropsS]
  have e0 : (if (2 : Int) = 1 then sCode (divC x1 x2 x2) else if (2 : Int) = 2 then sCode (sqrC x1 x2) else bytesOf []) = sCode (sqrC x1 x2) := by rw [if_neg (by decide), if_pos rfl]
  simp only [show ((2 : Int) = 1) = False from propext ⟨fun h => by omega, False.elim⟩, if_true, if_false]
  have q1 : ({ data := { toList := [110, 97, 110] } } : ByteArray) = sCode 1 := rfl
  have q2 : ({ data := { toList := [105, 110, 118, 97, 108, 105, 100] } } : ByteArray) = sCode 2 := rfl
  have q3 : ({ data := { toList := [105, 110, 102, 105, 110, 105, 116, 101] } } : ByteArray) = sCode 3 := rfl
  have q4 : ({ data := { toList := [122, 101, 114, 111] } } : ByteArray) = sCode 4 := rfl
  have q5 : ({ data := { toList := [110, 111, 117, 103, 104, 116] } } : ByteArray) = sCode 5 := rfl
  have q7 : ({ data := { toList := [115, 97, 109, 101] } } : ByteArray) = sCode 7 := rfl
  have hcr : 0 ≤ sqrC x1 x2 ∧ sqrC x1 x2 ≤ 7 := rootC_rng _ _
  have i1 := code_is (c := sqrC x1 x2) (k := 1) hcr (by decide)
  have i2 := code_is (c := sqrC x1 x2) (k := 2) hcr (by decide)
  have i3 := code_is (c := sqrC x1 x2) (k := 3) hcr (by decide)
  have i4 := code_is (c := sqrC x1 x2) (k := 4) hcr (by decide)
  have i5 := code_is (c := sqrC x1 x2) (k := 5) hcr (by decide)
  have i7 := code_is (c := sqrC x1 x2) (k := 7) hcr (by decide)
  have hF : sqrC x1 x2 ≠ 0 → (1 ≤ x1 ∧ x1 ≤ 4) := sqr_isF
  have hO : (1 ≤ x1 ∧ x1 ≤ 4) → fOk x1 = true := fun h => by unfold fOk; exact decide_eq_true h
  simp only [q1, q2, q3, q4, q5, q7]
  simp only [i1, i2, i3, i4, i5, i7]
  unfold sqrW sqrX sqrOk
  generalize sqrC x1 x2 = c at *
  rcases code_cases hcr with rfl | rfl | rfl | rfl | rfl | rfl | rfl | rfl
  all_goals (try (have hf := hF (by decide); have ho := hO hf))
  all_goals simp (decide := true) only [if_true, if_false, if_pos, if_neg, decide_true, decide_false, Bool.false_eq_true, Bool.true_eq_false, reduceCtorEq, false_or, true_or, or_true, or_false, and_true, true_and, Bool.or_false]
  all_goals (try (first | (refine ⟨hf, ?_⟩) | (refine ⟨trivial, hf, ?_⟩)))
  all_goals (try rw [ho])
  all_goals simp only [kR, canon, canons, ekEq, numE, getW, getWord, allInts8, asInt, isK, kindEq, isArgB, strOf, cBig, cInts, cWords, allInts, allWords, r_ofLimbs, r_mkWord, Option.some.injEq, LV.wide.injEq, LV.word.injEq, LV.int.injEq, LV.bool.injEq, LV.str.injEq, LV.big.injEq, LV.tup.injEq, LV.agg.injEq, List.cons.injEq, and_true, true_and]
  all_goals (try first | rfl | exact ⟨rfl, rfl⟩ | exact ⟨rfl, rfl, rfl⟩)
end Go.LE