import Derived.Test.YtnanihpaifaceaaGreatDoorW29
import Derived.Test.YtnanihpaifaceaaGreatDoorW40
import Derived.Test.YtnanihpaifaceaaGreatDoorLeT
set_option linter.unusedVariables false
set_option linter.unusedSimpArgs false
namespace Go.LE
open Go Go.Proofs
def eN (k : Int) : ByteArray := if k = 1 then bytesOf [114, 101, 115, 116, 111, 114, 105, 110, 103] else if k = 2 then bytesOf [115, 114, 116] else if k = 3 then bytesOf [110, 101, 119, 116, 111, 110] else if k = 4 then bytesOf [103, 111, 108, 100] else bytesOf []
def isE (k : Int) : Bool := decide (1 ≤ k ∧ k ≤ 4)
def someW (f : Int) (a : BitVec 128) : Bool := decide (cls f a = 4 ∨ cls f a = 5)
def mayR (op k f m : Int) (a b : BitVec 128) : Bool := isE k && isM m && fFits f a && (decide (op = 2) || (decide (op = 1) && fFits f b))
def qtN (f : Int) (a b : BitVec 128) : W := bif uOk f a && uOk f b then wShl (uSig f a) (fPrec f + 2) else 0
def qtD (f : Int) (a b : BitVec 128) : W := bif uOk f a && uOk f b then uSig f b else 0
def qtE (f : Int) (a b : BitVec 128) : Int := bif uOk f a && uOk f b then qvE f a b else 0
def rtOk (f : Int) (a : BitVec 128) : Bool := uOk f a && !wNeg f a
def rootN (f : Int) (a : BitVec 128) : W := bif rtOk f a then wShl (uSig f a) (rtBy f a) else 0
def rootE (f : Int) (a : BitVec 128) : Int := bif rtOk f a then rtE f a else 0
structure OpsQt where
  isE : Int → Bool
  eN : Int → ByteArray
  may : Int → Int → Int → Int → BitVec 128 → BitVec 128 → Bool
  some : Int → BitVec 128 → Bool
  isM : Int → Bool
  qtN : Int → BitVec 128 → BitVec 128 → W
  qtD : Int → BitVec 128 → BitVec 128 → W
  qtE : Int → BitVec 128 → BitVec 128 → Int
  qtO : Int → BitVec 128 → BitVec 128 → Bool
  rootN : Int → BitVec 128 → W
  rootE : Int → BitVec 128 → Int
  rootO : Int → BitVec 128 → Bool
  evR : Int → Int → Prop
  evN : W → Int → Int → W
  evE : Int → Int → Int
  nan : Int → BitVec 128 → Prop
  q : Int → BitVec 128 → BitVec 128
  okR : W → Prop
  rt : W → W
  rr : W → W
  sum2 : W → W → W
noncomputable def ropsQt : OpsQt where
  isE := isE
  eN := eN
  may := mayR
  some := someW
  isM := isM
  qtN := qtN
  qtD := qtD
  qtE := qtE
  qtO := fun f a b => uOk f a && uOk f b
  rootN := rootN
  rootE := rootE
  rootO := rtOk
  evR := fun e b => (-1048576 ≤ e ∧ e ≤ 1048576) ∧ 0 ≤ b ∧ b ≤ 200
  evN := fun s e b => wShl s (b + (e - b) % 2)
  evE := fun e b => (e - (b + (e - b) % 2)) / 2
  nan := fun f w => cls f w = 1 ∨ cls f w = 2
  q := qW
  okR := fun n => n.toNat < 2 ^ 256
  rt := fun n => BitVec.ofNat 512 (rtN n.toNat)
  rr := fun n => BitVec.ofNat 512 (n.toNat - rtN n.toNat * rtN n.toNat)
  sum2 := fun a b => a + b
def s_eIs (S : OpsQt) : List LV → R LV
  | [.int _ k] => .ok (.bool (S.isE k))
  | _ => .fail
def s_eName (S : OpsQt) : List LV → R LV
  | [.int _ k] => .ok (.str (S.eN k))
  | _ => .fail
def s_some24 (S : OpsQt) : List LV → R LV
  | [.int _ f, .word w] => .ok (.bool (S.some f w))
  | _ => .fail
def s_someT (S : OpsQt) : List LV → R LV
  | [.agg [.int _ f, .int _ m], .word a, .word b] => .ok (.bool (S.isM m && (S.some f a && S.some f b)))
  | _ => .fail
def s_may (S : OpsQt) : List LV → R LV
  | [.agg [.int _ op, .int _ k, .int _ f, .int _ m, .word a, .word b]] => .ok (.bool (S.may op k f m a b))
  | _ => .fail
def s_qparts (S : OpsQt) : List LV → R LV
  | [.int _ f, .word a, .word b] => .ok (.tup [.wide (S.qtN f a b), .wide (S.qtD f a b), .int .i64 (S.qtE f a b), .bool (S.qtO f a b)])
  | _ => .fail
def s_even (S : OpsQt) : List LV → R LV
  | [.agg [.bool _, .int _ e, .wide s], .int _ b] => .req (S.evR e b) (.ok (.tup [.wide (S.evN s e b), .int .i64 (S.evE e b)]))
  | _ => .fail
def s_rparts (S : OpsQt) : List LV → R LV
  | [.int _ f, .word a] => .ok (.tup [.wide (S.rootN f a), .int .i64 (S.rootE f a), .bool (S.rootO f a)])
  | _ => .fail
def s_quietT (S : OpsQt) : List LV → R LV
  | [.int _ f, .word w] => .req (S.nan f w) (.ok (.word (S.q f w)))
  | _ => .fail
def s_sum2 (S : OpsQt) : List LV → R LV
  | [.im [.wide a, .wide b]] => .ok (.wide (S.sum2 a b))
  | _ => .fail
def s_rtMay (S : OpsQt) : List LV → R LV
  | [.wide n] => .req (S.okR n) (.ok (.int .i64 0))
  | _ => .fail
theorem p_eIs : SpecOk Tryz.prog globs 44 (mkSpec real [.int .i64] (s_eIs ropsQt)) := by
  have hfns : FnsOk Tryz.prog globs [] := fnsNil
  refine spec0 hfns (by kernel_rfl) Tryz.func44 (by kernel_rfl) (by kernel_rfl) (by kernel_rfl) 4 _ _ (.bool) ?_
  clear hfns
  generalize hEE : env0 [] = EE
  intro l r hl hr
  simp only [Forms, Form] at hl
  obtain ⟨_, _, rfl, ⟨x1, rfl, x1lo, x1hi⟩, rfl⟩ := hl
  subst hEE
  generalize hK : kR (.bool) r = K
  generalize hO : real = O
  set_option maxRecDepth 100000 in cbv
  subst hO hK 
  simp only [s_eIs, R.Y] at hr
  subst hr
  try dsimp only [real, rops, ropsB, ropsC, ropsD, ropsE, ropsF, ropsG, ropsH, ropsI, ropsJ, ropsK, ropsL, ropsM, ropsN, ropsP, ropsQ, ropsT, ropsUm, ropsU, ropsV, ropsDv, ropsQt]
  rw [geq_dec, lss_dec]
  unfold isE
  repeat' (first | apply And.intro | (refine imp_f fun _ => ?_) | (refine imp_t fun _ => ?_))
  all_goals simp only [kR, canon, canons, ekEq, numE, getW, getWord, allInts8, asInt, isK, kindEq, isArgB, strOf, cBig, cInts, cWords, allInts, allWords, r_ofLimbs, r_mkWord, Option.some.injEq, LV.wide.injEq, LV.word.injEq, LV.int.injEq, LV.bool.injEq, LV.str.injEq, LV.big.injEq, LV.tup.injEq, LV.agg.injEq, List.cons.injEq, and_true, true_and]
  all_goals simp_all
  all_goals omega
theorem p_some24 : SpecOk Tryz.prog globs 29 (mkSpec real [.int .i64, .word] (s_some24 ropsQt)) := by
  have hfns : FnsOk Tryz.prog globs [(6, .spec (mkSpec real [.int .i64, .word] (s_class06 ropsC)))] := (fnsCons (fnSpec (p_class06)) fnsNil)
  refine spec0 hfns (by kernel_rfl) Tryz.func29 (by kernel_rfl) (by kernel_rfl) (by kernel_rfl) 4 _ _ (.bool) ?_
  clear hfns
  generalize hEE : env0 [(6, .spec (mkSpec real [.int .i64, .word] (s_class06 ropsC)))] = EE
  intro l r hl hr
  simp only [Forms, Form] at hl
  obtain ⟨_, _, rfl, ⟨x1, rfl, x1lo, x1hi⟩, _, _, rfl, ⟨x2, rfl⟩, rfl⟩ := hl
  subst hEE
  generalize hK : kR (.bool) r = K
  generalize hO : real = O
  generalize hS0 : rops = S0
  generalize hS1 : ropsB = S1
  generalize hS2 : ropsC = S2
  generalize hS3 : ropsD = S3
  generalize hS4 : ropsE = S4
  generalize hS5 : ropsF = S5
  generalize hS6 : ropsG = S6
  generalize hS7 : ropsH = S7
  generalize hS8 : ropsI = S8
  generalize hS9 : ropsJ = S9
  generalize hS10 : ropsK = S10
  generalize hS11 : ropsL = S11
  generalize hS12 : ropsM = S12
  generalize hS13 : ropsN = S13
  generalize hS14 : ropsP = S14
  generalize hS15 : ropsQ = S15
  generalize hS16 : ropsT = S16
  generalize hS17 : ropsUm = S17
  generalize hS18 : ropsU = S18
  generalize hS19 : ropsV = S19
  generalize hS20 : ropsDv = S20
  generalize hS21 : ropsQt = S21
  set_option maxRecDepth 100000 in cbv
  subst hO hK hS0 hS1 hS2 hS3 hS4 hS5 hS6 hS7 hS8 hS9 hS10 hS11 hS12 hS13 hS14 hS15 hS16 hS17 hS18 hS19 hS20 hS21
  simp only [s_some24, R.Y] at hr
  subst hr
  try dsimp only [real, rops, ropsB, ropsC, ropsD, ropsE, ropsF, ropsG, ropsH, ropsI, ropsJ, ropsK, ropsL, ropsM, ropsN, ropsP, ropsQ, ropsT, ropsUm, ropsU, ropsV, ropsDv, ropsQt]
  unfold someW
  simp only [eql_dec]
  by_cases h4 : cls x1 x2 = 4 <;> by_cases h5 : cls x1 x2 = 5 <;> simp [h4, h5, kR, canon, isArgB]
theorem p_someT : SpecOk Tryz.prog globs 14 (mkSpec real [.st [.int .i64, .int .i64], .word, .word] (s_someT ropsQt)) := by
  have hfns : FnsOk Tryz.prog globs [(7, .spec (mkSpec real [.int .i64] (s_mIs08 ropsT))), (29, .spec (mkSpec real [.int .i64, .word] (s_some24 ropsQt)))] := (fnsCons (fnSpec (p_mIs08)) (fnsCons (fnSpec (p_some24)) fnsNil))
  refine spec0 hfns (by kernel_rfl) Tryz.func14 (by kernel_rfl) (by kernel_rfl) (by kernel_rfl) 4 _ _ (.bool) ?_
  clear hfns
  generalize hEE : env0 [(7, .spec (mkSpec real [.int .i64] (s_mIs08 ropsT))), (29, .spec (mkSpec real [.int .i64, .word] (s_some24 ropsQt)))] = EE
  intro l r hl hr
  simp only [Forms, Form] at hl
  obtain ⟨_, _, rfl, ⟨_, rfl, ⟨_, _, rfl, ⟨x1_1, rfl, x1_1lo, x1_1hi⟩, _, _, rfl, ⟨x1_2, rfl, x1_2lo, x1_2hi⟩, rfl⟩⟩, _, _, rfl, ⟨x2, rfl⟩, _, _, rfl, ⟨x3, rfl⟩, rfl⟩ := hl
  subst hEE
  generalize hK : kR (.bool) r = K
  generalize hO : real = O
  generalize hS0 : rops = S0
  generalize hS1 : ropsB = S1
  generalize hS2 : ropsC = S2
  generalize hS3 : ropsD = S3
  generalize hS4 : ropsE = S4
  generalize hS5 : ropsF = S5
  generalize hS6 : ropsG = S6
  generalize hS7 : ropsH = S7
  generalize hS8 : ropsI = S8
  generalize hS9 : ropsJ = S9
  generalize hS10 : ropsK = S10
  generalize hS11 : ropsL = S11
  generalize hS12 : ropsM = S12
  generalize hS13 : ropsN = S13
  generalize hS14 : ropsP = S14
  generalize hS15 : ropsQ = S15
  generalize hS16 : ropsT = S16
  generalize hS17 : ropsUm = S17
  generalize hS18 : ropsU = S18
  generalize hS19 : ropsV = S19
  generalize hS20 : ropsDv = S20
  generalize hS21 : ropsQt = S21
  set_option maxRecDepth 100000 in cbv
  subst hO hK hS0 hS1 hS2 hS3 hS4 hS5 hS6 hS7 hS8 hS9 hS10 hS11 hS12 hS13 hS14 hS15 hS16 hS17 hS18 hS19 hS20 hS21
  simp only [s_someT, R.Y] at hr
  subst hr
  try dsimp only [real, rops, ropsB, ropsC, ropsD, ropsE, ropsF, ropsG, ropsH, ropsI, ropsJ, ropsK, ropsL, ropsM, ropsN, ropsP, ropsQ, ropsT, ropsUm, ropsU, ropsV, ropsDv, ropsQt]
  cases h1 : isM x1_2 <;> cases h2 : someW x1_1 x2 <;> cases h3 : someW x1_1 x3 <;> simp [kR, canon, isArgB]
theorem p_eName : SpecOk Tryz.prog globs 37 (mkSpec real [.int .i64] (s_eName ropsQt)) := by
  have hfns : FnsOk Tryz.prog globs [(44, inlF Tryz.f44)] := (fnsCons (inl_ok Tryz.func44 (by kernel_rfl) (by kernel_rfl)) fnsNil)
  refine spec0' hfns (by kernel_rfl) Tryz.func37 (by kernel_rfl) (by kernel_rfl) (by kernel_rfl) 4 _ _ (.str) ?_
  clear hfns
  generalize hEE : env0 [(44, inlF Tryz.f44)] = EE
  intro l r hl hr
  simp only [Forms, Form] at hl
  obtain ⟨_, _, rfl, ⟨x1, rfl, x1lo, x1hi⟩, rfl⟩ := hl
  subst hEE
  have hr : r = _ := hr.symm
  subst hr
  by_cases hq : 1 ≤ x1 ∧ x1 ≤ 4
  · rcases f_cases hq with rfl | rfl | rfl | rfl
    · refine ⟨[.lit .i64 1], ⟨same_lit _ _, trivial⟩, ?_⟩
      set_option maxRecDepth 100000 in cbv
    · refine ⟨[.lit .i64 2], ⟨same_lit _ _, trivial⟩, ?_⟩
      set_option maxRecDepth 100000 in cbv
    · refine ⟨[.lit .i64 3], ⟨same_lit _ _, trivial⟩, ?_⟩
      set_option maxRecDepth 100000 in cbv
    · refine ⟨[.lit .i64 4], ⟨same_lit _ _, trivial⟩, ?_⟩
      set_option maxRecDepth 100000 in cbv
  · refine ⟨[.int .i64 x1], ⟨same_refl _, trivial⟩, ?_⟩
    generalize hK : kR _ _ = K
    generalize hO : real = O
    set_option maxRecDepth 100000 in cbv
    subst hO hK
    dsimp only [real]
    repeat' (first | apply And.intro | (refine imp_f fun _ => ?_) | (refine imp_t fun _ => ?_))
    all_goals (try simp only [Bool.not_eq_true', Bool.not_eq_false', c_eql_t, c_eql_f, c_neq_t, c_neq_f, c_lss_t, c_lss_f, c_leq_t, c_leq_f, c_gtr_t, c_gtr_f, c_geq_t, c_geq_f] at *)
    all_goals first
      | (exfalso; omega)
      | (simp only [kR, canon, strOf, Option.some.injEq, LV.str.injEq]; dsimp only [ropsQt, eN]; rw [if_neg (by omega), if_neg (by omega), if_neg (by omega), if_neg (by omega)]; rfl)
theorem eN_ne (k : Int) : (!(eN k).toList == (⟨⟨[]⟩⟩ : ByteArray).toList) = isE k := by
  unfold eN isE
  by_cases h1 : k = 1
  · subst h1; decide +kernel
  · by_cases h2 : k = 2
    · subst h2; decide +kernel
    · by_cases h3 : k = 3
      · subst h3; decide +kernel
      · by_cases h4 : k = 4
        · subst h4; decide +kernel
        · rw [if_neg h1, if_neg h2, if_neg h3, if_neg h4, decide_eq_false (by omega)]
          decide +kernel
theorem p_may : SpecOk Tryz.prog globs 34 (mkSpec real [.st [.int .i64, .int .i64, .int .i64, .int .i64, .word, .word]] (s_may ropsQt)) := by
  have hfns : FnsOk Tryz.prog globs [(37, .spec (mkSpec real [.int .i64] (s_eName ropsQt))), (36, .spec (mkSpec real [.int .i64, .word] (s_fits ropsB))), (38, .spec (mkSpec real [.int .i64] (s_mIs ropsT)))] := (fnsCons (fnSpec (p_eName)) (fnsCons (fnSpec (p_fits)) (fnsCons (fnSpec (p_mIs)) fnsNil)))
  refine spec0 hfns (by kernel_rfl) Tryz.func34 (by kernel_rfl) (by kernel_rfl) (by kernel_rfl) 4 _ _ (.bool) ?_
  clear hfns
  generalize hEE : env0 [(37, .spec (mkSpec real [.int .i64] (s_eName ropsQt))), (36, .spec (mkSpec real [.int .i64, .word] (s_fits ropsB))), (38, .spec (mkSpec real [.int .i64] (s_mIs ropsT)))] = EE
  intro l r hl hr
  simp only [Forms, Form] at hl
  obtain ⟨_, _, rfl, ⟨_, rfl, ⟨_, _, rfl, ⟨x1_1, rfl, x1_1lo, x1_1hi⟩, _, _, rfl, ⟨x1_2, rfl, x1_2lo, x1_2hi⟩, _, _, rfl, ⟨x1_3, rfl, x1_3lo, x1_3hi⟩, _, _, rfl, ⟨x1_4, rfl, x1_4lo, x1_4hi⟩, _, _, rfl, ⟨x1_5, rfl⟩, _, _, rfl, ⟨x1_6, rfl⟩, rfl⟩⟩, rfl⟩ := hl
  subst hEE
  generalize hK : kR (.bool) r = K
  generalize hO : real = O
  generalize hS0 : rops = S0
  generalize hS1 : ropsB = S1
  generalize hS2 : ropsC = S2
  generalize hS3 : ropsD = S3
  generalize hS4 : ropsE = S4
  generalize hS5 : ropsF = S5
  generalize hS6 : ropsG = S6
  generalize hS7 : ropsH = S7
  generalize hS8 : ropsI = S8
  generalize hS9 : ropsJ = S9
  generalize hS10 : ropsK = S10
  generalize hS11 : ropsL = S11
  generalize hS12 : ropsM = S12
  generalize hS13 : ropsN = S13
  generalize hS14 : ropsP = S14
  generalize hS15 : ropsQ = S15
  generalize hS16 : ropsT = S16
  generalize hS17 : ropsUm = S17
  generalize hS18 : ropsU = S18
  generalize hS19 : ropsV = S19
  generalize hS20 : ropsDv = S20
  generalize hS21 : ropsQt = S21
  set_option maxRecDepth 100000 in cbv
  subst hO hK hS0 hS1 hS2 hS3 hS4 hS5 hS6 hS7 hS8 hS9 hS10 hS11 hS12 hS13 hS14 hS15 hS16 hS17 hS18 hS19 hS20 hS21
  simp only [s_may, R.Y] at hr
  subst hr
  try dsimp only [real, rops, ropsB, ropsC, ropsD, ropsE, ropsF, ropsG, ropsH, ropsI, ropsJ, ropsK, ropsL, ropsM, ropsN, ropsP, ropsQ, ropsT, ropsUm, ropsU, ropsV, ropsDv, ropsQt]
  rw [eN_ne]
  simp only [eql_dec]
  unfold mayR
  by_cases a1 : x1_1 = 1
  · subst a1
    cases isE x1_2 <;> cases isM x1_4 <;> cases fFits x1_3 x1_5 <;> cases fFits x1_3 x1_6 <;> simp [kR, canon, isArgB]
  · by_cases a2 : x1_1 = 2
    · subst a2
      cases isE x1_2 <;> cases isM x1_4 <;> cases fFits x1_3 x1_5 <;> cases fFits x1_3 x1_6 <;> simp [kR, canon, isArgB]
    · cases isE x1_2 <;> cases isM x1_4 <;> cases fFits x1_3 x1_5 <;> cases fFits x1_3 x1_6 <;> simp [kR, canon, isArgB, a1, a2]
theorem p_qparts : SpecOk Tryz.prog globs 59 (mkSpec real [.int .i64, .word, .word] (s_qparts ropsQt)) := by
  have hfns : FnsOk Tryz.prog globs [(86, inlF Tryz.f86), (87, inlF Tryz.f87), (117, .spec (mkSpec real [.int .i64, .word] (s_unpack ropsL))), (41, .spec (mkSpec real [.int .i64] (s_fmtOf rops))), (88, .spec (mkSpec real [.wide, .int .i64] (s_shl rops)))] := (fnsCons (inl_ok Tryz.func86 (by kernel_rfl) (by kernel_rfl)) (fnsCons (inl_ok Tryz.func87 (by kernel_rfl) (by kernel_rfl)) (fnsCons (fnSpec (p_unpack)) (fnsCons (fnSpec (p_fmtOf)) (fnsCons (fnSpec (p_shl)) fnsNil)))))
  refine spec0 hfns (by kernel_rfl) Tryz.func59 (by kernel_rfl) (by kernel_rfl) (by kernel_rfl) 8 _ _ (.tup [.wide, .wide, .int .i64, .bool]) ?_
  clear hfns
  generalize hEE : env0 [(86, inlF Tryz.f86), (87, inlF Tryz.f87), (117, .spec (mkSpec real [.int .i64, .word] (s_unpack ropsL))), (41, .spec (mkSpec real [.int .i64] (s_fmtOf rops))), (88, .spec (mkSpec real [.wide, .int .i64] (s_shl rops)))] = EE
  intro l r hl hr
  simp only [Forms, Form] at hl
  obtain ⟨_, _, rfl, ⟨x1, rfl, x1lo, x1hi⟩, _, _, rfl, ⟨x2, rfl⟩, _, _, rfl, ⟨x3, rfl⟩, rfl⟩ := hl
  subst hEE
  generalize hK : kR (.tup [.wide, .wide, .int .i64, .bool]) r = K
  generalize hO : real = O
  generalize hS0 : rops = S0
  generalize hS1 : ropsB = S1
  generalize hS2 : ropsC = S2
  generalize hS3 : ropsD = S3
  generalize hS4 : ropsE = S4
  generalize hS5 : ropsF = S5
  generalize hS6 : ropsG = S6
  generalize hS7 : ropsH = S7
  generalize hS8 : ropsI = S8
  generalize hS9 : ropsJ = S9
  generalize hS10 : ropsK = S10
  generalize hS11 : ropsL = S11
  generalize hS12 : ropsM = S12
  generalize hS13 : ropsN = S13
  generalize hS14 : ropsP = S14
  generalize hS15 : ropsQ = S15
  generalize hS16 : ropsT = S16
  generalize hS17 : ropsUm = S17
  generalize hS18 : ropsU = S18
  generalize hS19 : ropsV = S19
  generalize hS20 : ropsDv = S20
  generalize hS21 : ropsQt = S21
  set_option maxRecDepth 100000 in cbv
  subst hO hK hS0 hS1 hS2 hS3 hS4 hS5 hS6 hS7 hS8 hS9 hS10 hS11 hS12 hS13 hS14 hS15 hS16 hS17 hS18 hS19 hS20 hS21
  simp only [s_qparts, R.Y] at hr
  subst hr
  try dsimp only [real, rops, ropsB, ropsC, ropsD, ropsE, ropsF, ropsG, ropsH, ropsI, ropsJ, ropsK, ropsL, ropsM, ropsN, ropsP, ropsQ, ropsT, ropsUm, ropsU, ropsV, ropsDv, ropsQt]
  unfold qtN qtD qtE
  cases ha : uOk x1 x2 with
  | false =>
    refine ⟨imp_f fun _ => ?_, imp_t fun h => by simp at h⟩
    simp only [Bool.false_and, cond_false]
    simp only [kR, canon, canons, ekEq, numE, getW, getWord, allInts8, asInt, isK, kindEq, isArgB, strOf, cBig, cInts, cWords, allInts, allWords, r_ofLimbs, r_mkWord, Option.some.injEq, LV.wide.injEq, LV.word.injEq, LV.int.injEq, LV.bool.injEq, LV.str.injEq, LV.big.injEq, LV.tup.injEq, LV.agg.injEq, List.cons.injEq, and_true, true_and]
    exact ⟨ofLimbs_0, rfl⟩
  | true =>
    refine ⟨imp_f fun h => by simp at h, imp_t fun _ => ?_⟩
    cases hb : uOk x1 x3 with
    | false =>
      refine ⟨imp_f fun _ => ?_, imp_t fun h => by simp at h⟩
      simp only [Bool.and_false, cond_false]
      simp only [kR, canon, canons, ekEq, numE, getW, getWord, allInts8, asInt, isK, kindEq, isArgB, strOf, cBig, cInts, cWords, allInts, allWords, r_ofLimbs, r_mkWord, Option.some.injEq, LV.wide.injEq, LV.word.injEq, LV.int.injEq, LV.bool.injEq, LV.str.injEq, LV.big.injEq, LV.tup.injEq, LV.agg.injEq, List.cons.injEq, and_true, true_and]
      exact ⟨ofLimbs_0, rfl⟩
    | true =>
      refine ⟨imp_f fun h => by simp at h, imp_t fun _ => ?_⟩
      simp only [Bool.and_true, cond_true]
      obtain ⟨_, hf, _⟩ := uOk_parts ha
      have hp := p_rng x1 hf
      have xa := uExp_rng ha
      have xb := uExp_rng hb
      have e1 : arithR .add .i64 (fPrec x1) 2 = fPrec x1 + 2 := add_i64 (by omega) (by omega)
      have e2 : arithR .sub .i64 (uExp x1 x2) (uExp x1 x3) = uExp x1 x2 - uExp x1 x3 := sub_i64 (by omega) (by omega)
      have e3 : arithR .sub .i64 (uExp x1 x2 - uExp x1 x3) (fPrec x1) = uExp x1 x2 - uExp x1 x3 - fPrec x1 := sub_i64 (by omega) (by omega)
      have e4 : arithR .sub .i64 (uExp x1 x2 - uExp x1 x3 - fPrec x1) 2 = uExp x1 x2 - uExp x1 x3 - fPrec x1 - 2 := sub_i64 (by omega) (by omega)
      rw [e1, e2, e3, e4]
      unfold qvE
      simp only [kR, canon, canons, ekEq, numE, getW, getWord, allInts8, asInt, isK, kindEq, isArgB, strOf, cBig, cInts, cWords, allInts, allWords, r_ofLimbs, r_mkWord, Option.some.injEq, LV.wide.injEq, LV.word.injEq, LV.int.injEq, LV.bool.injEq, LV.str.injEq, LV.big.injEq, LV.tup.injEq, LV.agg.injEq, List.cons.injEq, and_true, true_and]
theorem p_even : SpecOk Tryz.prog globs 100 (mkSpec real [.st [.bool, .int .i64, .wide], .int .i64] (s_even ropsQt)) := by
  have hfns : FnsOk Tryz.prog globs [(88, .spec (mkSpec real [.wide, .int .i64] (s_shl rops)))] := (fnsCons (fnSpec (p_shl)) fnsNil)
  refine spec0 hfns (by kernel_rfl) Tryz.func100 (by kernel_rfl) (by kernel_rfl) (by kernel_rfl) 4 _ _ (.tup [.wide, .int .i64]) ?_
  clear hfns
  generalize hEE : env0 [(88, .spec (mkSpec real [.wide, .int .i64] (s_shl rops)))] = EE
  intro l r hl hr
  simp only [Forms, Form] at hl
  obtain ⟨_, _, rfl, ⟨_, rfl, ⟨_, _, rfl, ⟨x1_1, rfl⟩, _, _, rfl, ⟨x1_2, rfl, x1_2lo, x1_2hi⟩, _, _, rfl, ⟨x1_3, rfl⟩, rfl⟩⟩, _, _, rfl, ⟨x2, rfl, x2lo, x2hi⟩, rfl⟩ := hl
  subst hEE
  generalize hK : kR (.tup [.wide, .int .i64]) r = K
  generalize hO : real = O
  generalize hS0 : rops = S0
  generalize hS1 : ropsB = S1
  generalize hS2 : ropsC = S2
  generalize hS3 : ropsD = S3
  generalize hS4 : ropsE = S4
  generalize hS5 : ropsF = S5
  generalize hS6 : ropsG = S6
  generalize hS7 : ropsH = S7
  generalize hS8 : ropsI = S8
  generalize hS9 : ropsJ = S9
  generalize hS10 : ropsK = S10
  generalize hS11 : ropsL = S11
  generalize hS12 : ropsM = S12
  generalize hS13 : ropsN = S13
  generalize hS14 : ropsP = S14
  generalize hS15 : ropsQ = S15
  generalize hS16 : ropsT = S16
  generalize hS17 : ropsUm = S17
  generalize hS18 : ropsU = S18
  generalize hS19 : ropsV = S19
  generalize hS20 : ropsDv = S20
  generalize hS21 : ropsQt = S21
  set_option maxRecDepth 100000 in cbv
  subst hO hK hS0 hS1 hS2 hS3 hS4 hS5 hS6 hS7 hS8 hS9 hS10 hS11 hS12 hS13 hS14 hS15 hS16 hS17 hS18 hS19 hS20 hS21
  simp only [s_even, R.Y] at hr
  try dsimp only [real, rops, ropsB, ropsC, ropsD, ropsE, ropsF, ropsG, ropsH, ropsI, ropsJ, ropsK, ropsL, ropsM, ropsN, ropsP, ropsQ, ropsT, ropsUm, ropsU, ropsV, ropsDv, ropsQt]
  obtain ⟨hq, hr⟩ := hr
  subst hr
  dsimp only [real, ropsQt, rops]
  replace hq : (-1048576 ≤ x1_2 ∧ x1_2 ≤ 1048576) ∧ 0 ≤ x2 ∧ x2 ≤ 200 := hq
  have e1 : arithR .sub .i64 x1_2 x2 = x1_2 - x2 := sub_i64 (by omega) (by omega)
  have e2 : arithR .add .i64 x2 ((x1_2 - x2) % 2) = x2 + (x1_2 - x2) % 2 := add_i64 (by omega) (by omega)
  have e3 : arithR .sub .i64 x1_2 (x2 + (x1_2 - x2) % 2) = x1_2 - (x2 + (x1_2 - x2) % 2) := sub_i64 (by omega) (by omega)
  rw [e1, and1_i64, e2, e3, half_i64 (by omega) (by omega) (by omega)]
  simp only [kR, canon, canons, ekEq, numE, getW, getWord, allInts8, asInt, isK, kindEq, isArgB, strOf, cBig, cInts, cWords, allInts, allWords, r_ofLimbs, r_mkWord, Option.some.injEq, LV.wide.injEq, LV.word.injEq, LV.int.injEq, LV.bool.injEq, LV.str.injEq, LV.big.injEq, LV.tup.injEq, LV.agg.injEq, List.cons.injEq, and_true, true_and]
theorem p_rparts : SpecOk Tryz.prog globs 63 (mkSpec real [.int .i64, .word] (s_rparts ropsQt)) := by
  have hfns : FnsOk Tryz.prog globs [(98, inlF Tryz.f98), (99, inlF Tryz.f99), (100, .spec (mkSpec real [.st [.bool, .int .i64, .wide], .int .i64] (s_even ropsQt))), (117, .spec (mkSpec real [.int .i64, .word] (s_unpack ropsL))), (41, .spec (mkSpec real [.int .i64] (s_fmtOf rops)))] := (fnsCons (inl_ok Tryz.func98 (by kernel_rfl) (by kernel_rfl)) (fnsCons (inl_ok Tryz.func99 (by kernel_rfl) (by kernel_rfl)) (fnsCons (fnSpec (p_even)) (fnsCons (fnSpec (p_unpack)) (fnsCons (fnSpec (p_fmtOf)) fnsNil)))))
  refine spec0 hfns (by kernel_rfl) Tryz.func63 (by kernel_rfl) (by kernel_rfl) (by kernel_rfl) 8 _ _ (.tup [.wide, .int .i64, .bool]) ?_
  clear hfns
  generalize hEE : env0 [(98, inlF Tryz.f98), (99, inlF Tryz.f99), (100, .spec (mkSpec real [.st [.bool, .int .i64, .wide], .int .i64] (s_even ropsQt))), (117, .spec (mkSpec real [.int .i64, .word] (s_unpack ropsL))), (41, .spec (mkSpec real [.int .i64] (s_fmtOf rops)))] = EE
  intro l r hl hr
  simp only [Forms, Form] at hl
  obtain ⟨_, _, rfl, ⟨x1, rfl, x1lo, x1hi⟩, _, _, rfl, ⟨x2, rfl⟩, rfl⟩ := hl
  subst hEE
  generalize hK : kR (.tup [.wide, .int .i64, .bool]) r = K
  generalize hO : real = O
  generalize hS0 : rops = S0
  generalize hS1 : ropsB = S1
  generalize hS2 : ropsC = S2
  generalize hS3 : ropsD = S3
  generalize hS4 : ropsE = S4
  generalize hS5 : ropsF = S5
  generalize hS6 : ropsG = S6
  generalize hS7 : ropsH = S7
  generalize hS8 : ropsI = S8
  generalize hS9 : ropsJ = S9
  generalize hS10 : ropsK = S10
  generalize hS11 : ropsL = S11
  generalize hS12 : ropsM = S12
  generalize hS13 : ropsN = S13
  generalize hS14 : ropsP = S14
  generalize hS15 : ropsQ = S15
  generalize hS16 : ropsT = S16
  generalize hS17 : ropsUm = S17
  generalize hS18 : ropsU = S18
  generalize hS19 : ropsV = S19
  generalize hS20 : ropsDv = S20
  generalize hS21 : ropsQt = S21
  set_option maxRecDepth 100000 in cbv
  subst hO hK hS0 hS1 hS2 hS3 hS4 hS5 hS6 hS7 hS8 hS9 hS10 hS11 hS12 hS13 hS14 hS15 hS16 hS17 hS18 hS19 hS20 hS21
  simp only [s_rparts, R.Y] at hr
  subst hr
  try dsimp only [real, rops, ropsB, ropsC, ropsD, ropsE, ropsF, ropsG, ropsH, ropsI, ropsJ, ropsK, ropsL, ropsM, ropsN, ropsP, ropsQ, ropsT, ropsUm, ropsU, ropsV, ropsDv, ropsQt]
  unfold rootN rootE rtOk
  cases ha : uOk x1 x2 with
  | false =>
    refine ⟨imp_f fun _ => ?_, imp_t fun h => by simp at h⟩
    simp only [Bool.false_and, cond_false]
    simp only [kR, canon, canons, ekEq, numE, getW, getWord, allInts8, asInt, isK, kindEq, isArgB, strOf, cBig, cInts, cWords, allInts, allWords, r_ofLimbs, r_mkWord, Option.some.injEq, LV.wide.injEq, LV.word.injEq, LV.int.injEq, LV.bool.injEq, LV.str.injEq, LV.big.injEq, LV.tup.injEq, LV.agg.injEq, List.cons.injEq, and_true, true_and]
    exact ofLimbs_0
  | true =>
    refine ⟨imp_f fun h => by simp at h, imp_t fun _ => ?_⟩
    obtain ⟨hfin, hf, _⟩ := uOk_parts ha
    have hn : uNeg x1 x2 = wNeg x1 x2 := by unfold uNeg vNeg; rw [ha, hfin]; rfl
    rw [hn]
    have hp := p_rng x1 hf
    have xa := uExp_rng ha
    have e1 : arithR .add .i64 (fPrec x1) 4 = fPrec x1 + 4 := add_i64 (by omega) (by omega)
    rw [e1]
    cases wNeg x1 x2 with
    | true =>
      refine ⟨imp_f fun _ => ?_, imp_t fun h => by simp at h⟩
      simp only [Bool.not_true, Bool.and_false, cond_false]
      simp only [kR, canon, canons, ekEq, numE, getW, getWord, allInts8, asInt, isK, kindEq, isArgB, strOf, cBig, cInts, cWords, allInts, allWords, r_ofLimbs, r_mkWord, Option.some.injEq, LV.wide.injEq, LV.word.injEq, LV.int.injEq, LV.bool.injEq, LV.str.injEq, LV.big.injEq, LV.tup.injEq, LV.agg.injEq, List.cons.injEq, and_true, true_and]
      exact ofLimbs_0
    | false =>
      refine ⟨imp_f fun h => by simp at h, imp_t fun _ => ⟨⟨by omega, by omega⟩, ?_⟩⟩
      simp only [Bool.not_false, Bool.and_true, cond_true]
      unfold rtE rtBy
      simp only [kR, canon, canons, ekEq, numE, getW, getWord, allInts8, asInt, isK, kindEq, isArgB, strOf, cBig, cInts, cWords, allInts, allWords, r_ofLimbs, r_mkWord, Option.some.injEq, LV.wide.injEq, LV.word.injEq, LV.int.injEq, LV.bool.injEq, LV.str.injEq, LV.big.injEq, LV.tup.injEq, LV.agg.injEq, List.cons.injEq, and_true, true_and]
theorem p_quietT : SpecOk Tryz.prog globs 12 (mkSpec real [.int .i64, .word] (s_quietT ropsQt)) := by
  have hfns : FnsOk Tryz.prog globs [(23, .spec (mkSpec real [.int .i64] (s_prec rops)))] := (fnsCons (fnSpec (p_prec)) fnsNil)
  refine spec0 hfns (by kernel_rfl) Tryz.func12 (by kernel_rfl) (by kernel_rfl) (by kernel_rfl) 4 _ _ (.word) ?_
  clear hfns
  generalize hEE : env0 [(23, .spec (mkSpec real [.int .i64] (s_prec rops)))] = EE
  intro l r hl hr
  simp only [Forms, Form] at hl
  obtain ⟨_, _, rfl, ⟨x1, rfl, x1lo, x1hi⟩, _, _, rfl, ⟨x2, rfl⟩, rfl⟩ := hl
  subst hEE
  generalize hK : kR (.word) r = K
  generalize hO : real = O
  generalize hS0 : rops = S0
  generalize hS1 : ropsB = S1
  generalize hS2 : ropsC = S2
  generalize hS3 : ropsD = S3
  generalize hS4 : ropsE = S4
  generalize hS5 : ropsF = S5
  generalize hS6 : ropsG = S6
  generalize hS7 : ropsH = S7
  generalize hS8 : ropsI = S8
  generalize hS9 : ropsJ = S9
  generalize hS10 : ropsK = S10
  generalize hS11 : ropsL = S11
  generalize hS12 : ropsM = S12
  generalize hS13 : ropsN = S13
  generalize hS14 : ropsP = S14
  generalize hS15 : ropsQ = S15
  generalize hS16 : ropsT = S16
  generalize hS17 : ropsUm = S17
  generalize hS18 : ropsU = S18
  generalize hS19 : ropsV = S19
  generalize hS20 : ropsDv = S20
  generalize hS21 : ropsQt = S21
  set_option maxRecDepth 100000 in cbv
  subst hO hK hS0 hS1 hS2 hS3 hS4 hS5 hS6 hS7 hS8 hS9 hS10 hS11 hS12 hS13 hS14 hS15 hS16 hS17 hS18 hS19 hS20 hS21
  simp only [s_quietT, R.Y] at hr
  try dsimp only [real, rops, ropsB, ropsC, ropsD, ropsE, ropsF, ropsG, ropsH, ropsI, ropsJ, ropsK, ropsL, ropsM, ropsN, ropsP, ropsQ, ropsT, ropsUm, ropsU, ropsV, ropsDv, ropsQt]
  obtain ⟨hq, hr⟩ := hr
  subst hr
  obtain ⟨hf, q1, q2⟩ := quiet_or hq
  dsimp only [real, ropsQt, rops]
  have hp := p_rng x1 hf
  rw [(sub_prec hf).2.1, geq_dec]
  refine ⟨imp_f fun h2 => ?_, imp_t fun h2 => ?_⟩
  · rw [decide_eq_true_eq] at h2
    have e5 : arithR .sub .i64 (fPrec x1 - 2) 64 = fPrec x1 - 2 - 64 := sub_i64 (by omega) (by omega)
    rw [e5]
    refine ⟨by show 0 ≤ fPrec x1 - 2 - 64; omega, ?_⟩
    simp only [kR, canon, canons, ekEq, numE, getW, getWord, allInts8, asInt, isK, kindEq, isArgB, strOf, cBig, cInts, cWords, allInts, allWords, r_ofLimbs, r_mkWord, Option.some.injEq, LV.wide.injEq, LV.word.injEq, LV.int.injEq, LV.bool.injEq, LV.str.injEq, LV.big.injEq, LV.tup.injEq, LV.agg.injEq, List.cons.injEq, and_true, true_and]
    exact q1 h2
  · rw [decide_eq_false_iff_not] at h2
    refine ⟨by show 0 ≤ fPrec x1 - 2; omega, ?_⟩
    simp only [kR, canon, canons, ekEq, numE, getW, getWord, allInts8, asInt, isK, kindEq, isArgB, strOf, cBig, cInts, cWords, allInts, allWords, r_ofLimbs, r_mkWord, Option.some.injEq, LV.wide.injEq, LV.word.injEq, LV.int.injEq, LV.bool.injEq, LV.str.injEq, LV.big.injEq, LV.tup.injEq, LV.agg.injEq, List.cons.injEq, and_true, true_and]
    exact q2 (by omega)
set_option exponentiation.threshold 600 in
theorem p_rtMay : SpecOk Tryz.prog globs 221 (mkSpec real [.wide] (s_rtMay ropsQt)) := by
  have hfns : FnsOk Tryz.prog globs [(42, .spec (mkSpec real [.wide] (s_wLen rops)))] := (fnsCons (fnSpec (p_wLen)) fnsNil)
  refine spec0 hfns (by kernel_rfl) Tryz.func221 (by kernel_rfl) (by kernel_rfl) (by kernel_rfl) 4 _ _ (.int .i64) ?_
  clear hfns
  generalize hEE : env0 [(42, .spec (mkSpec real [.wide] (s_wLen rops)))] = EE
  intro l r hl hr
  simp only [Forms, Form] at hl
  obtain ⟨_, _, rfl, ⟨x1, rfl⟩, rfl⟩ := hl
  subst hEE
  generalize hK : kR (.int .i64) r = K
  generalize hO : real = O
  generalize hS0 : rops = S0
  generalize hS1 : ropsB = S1
  generalize hS2 : ropsC = S2
  generalize hS3 : ropsD = S3
  generalize hS4 : ropsE = S4
  generalize hS5 : ropsF = S5
  generalize hS6 : ropsG = S6
  generalize hS7 : ropsH = S7
  generalize hS8 : ropsI = S8
  generalize hS9 : ropsJ = S9
  generalize hS10 : ropsK = S10
  generalize hS11 : ropsL = S11
  generalize hS12 : ropsM = S12
  generalize hS13 : ropsN = S13
  generalize hS14 : ropsP = S14
  generalize hS15 : ropsQ = S15
  generalize hS16 : ropsT = S16
  generalize hS17 : ropsUm = S17
  generalize hS18 : ropsU = S18
  generalize hS19 : ropsV = S19
  generalize hS20 : ropsDv = S20
  generalize hS21 : ropsQt = S21
  set_option maxRecDepth 100000 in cbv
  subst hO hK hS0 hS1 hS2 hS3 hS4 hS5 hS6 hS7 hS8 hS9 hS10 hS11 hS12 hS13 hS14 hS15 hS16 hS17 hS18 hS19 hS20 hS21
  simp only [s_rtMay, R.Y] at hr
  obtain ⟨hreq, hr⟩ := hr
  try dsimp only [rops, ropsB, ropsC, ropsD, ropsE, ropsF, ropsG, ropsH, ropsI, ropsJ, ropsK, ropsL, ropsM, ropsN, ropsP, ropsQ, ropsT, ropsUm, ropsU, ropsV, ropsDv, ropsQt] at hreq
  subst hr
  try dsimp only [real, rops, ropsB, ropsC, ropsD, ropsE, ropsF, ropsG, ropsH, ropsI, ropsJ, ropsK, ropsL, ropsM, ropsN, ropsP, ropsQ, ropsT, ropsUm, ropsU, ropsV, ropsDv, ropsQt]
  rw [gtr_dec]
  have hl : wLen x1 ≤ 256 := by rw [← bitN_wLen]; have := bitN_le.2 hreq; omega
  refine ⟨imp_f fun h => ?_, imp_t fun h => ?_⟩
  · rw [decide_eq_true_eq] at h; omega
  · simp only [kR, canon, canons, ekEq, numE, getW, getWord, allInts8, asInt, isK, kindEq, isArgB, strOf, cBig, cInts, cWords, allInts, allWords, r_ofLimbs, r_mkWord, Option.some.injEq, LV.wide.injEq, LV.word.injEq, LV.int.injEq, LV.bool.injEq, LV.str.injEq, LV.big.injEq, LV.tup.injEq, LV.agg.injEq, List.cons.injEq, and_true, true_and]
end Go.LE