import Derived.Test.YtcmicmbpcgminaaGreatDoorW21
import Derived.Test.YtcmicmbpcgminaaGreatDoorLeQ
set_option linter.unusedVariables false
set_option linter.unusedSimpArgs false
namespace Go.LE
open Go Go.Proofs
structure OpsQ where
  cmpI : Int → Int → Int
  lss : Int → Int → Int → Int → Int → Int → Int → Int → Int → Int → Int → Int → Int → Int → Int → Int → Bool
  rgt : Int → Prop
  usz : W → Int → W → Int → Int
  sg : Bool → W → Int
  ucmp : Bool → Int → W → Bool → Int → W → Int
  usame : Bool → Int → W → Bool → Int → W → Bool
noncomputable def ropsQ : OpsQ where
  cmpI := fun x y => sgI (x - y)
  lss := fun a0 a1 a2 a3 a4 a5 a6 a7 b0 b1 b2 b3 b4 b5 b6 b7 => decide ((ofLimbsR a0 a1 a2 a3 a4 a5 a6 a7).toNat < (ofLimbsR b0 b1 b2 b3 b4 b5 b6 b7).toNat)
  rgt := fun e => rgtE e = true
  usz := fun a e b g => sgI (sizeN a.toNat e b.toNat g)
  sg := fun b s => sgN b s.toNat
  ucmp := ucmp
  usame := usame
def s_compare (S : OpsQ) : List LV → R LV
  | [.int _ x, .int _ y] => .ok (.int .i64 (S.cmpI x y))
  | _ => .fail
def s_less (S : OpsQ) : List LV → R LV
  | [.im [.int _ a0, .int _ a1, .int _ a2, .int _ a3, .int _ a4, .int _ a5, .int _ a6, .int _ a7], .im [.int _ b0, .int _ b1, .int _ b2, .int _ b3, .int _ b4, .int _ b5, .int _ b6, .int _ b7]] => .ok (.bool (S.lss a0 a1 a2 a3 a4 a5 a6 a7 b0 b1 b2 b3 b4 b5 b6 b7))
  | _ => .fail
def s_usize (S : OpsQ) : List LV → R LV
  | [.agg [_, .int _ e, .wide a], .agg [_, .int _ g, .wide b]] => .req (S.rgt e) (.req (S.rgt g) (.ok (.int .i64 (S.usz a e b g))))
  | _ => .fail
def s_usign (S : OpsQ) : List LV → R LV
  | [.agg [.bool b, _, .wide a]] => .ok (.int .i64 (S.sg b a))
  | _ => .fail
def s_ucmp (S : OpsQ) : List LV → R LV
  | [.agg [.bool b, .int _ e, .wide s], .agg [.bool c, .int _ g, .wide t]] => .ok (.int .i64 (S.ucmp b e s c g t))
  | _ => .fail
def s_usame (S : OpsQ) : List LV → R LV
  | [.agg [.bool b, .int _ e, .wide s], .agg [.bool c, .int _ g, .wide t]] => .ok (.bool (S.usame b e s c g t))
  | _ => .fail
def s_UnpackCmp (_ : OpsQ) : List LV → R LV := fun _ => .ok (.bool true)
def s_UnpackOrder (_ : OpsQ) : List LV → R LV := fun _ => .ok (.bool true)
theorem p_less : SpecOk Tryz.prog globs 162 (mkSpec real [.lst [.int .u64, .int .u64, .int .u64, .int .u64, .int .u64, .int .u64, .int .u64, .int .u64], .lst [.int .u64, .int .u64, .int .u64, .int .u64, .int .u64, .int .u64, .int .u64, .int .u64]] (s_less ropsQ)) := by
  have hfns : FnsOk Tryz.prog globs [(190, inlF Tryz.f190)] := (fnsCons (inl_ok Tryz.func190 (by kernel_rfl) (by kernel_rfl)) fnsNil)
  refine spec0 hfns (by kernel_rfl) Tryz.func162 (by kernel_rfl) (by kernel_rfl) (by kernel_rfl) 4 _ _ (.bool) ?_
  clear hfns
  generalize hEE : env0 [(190, inlF Tryz.f190)] = EE
  intro l r hl hr
  simp only [Forms, Form] at hl
  obtain ⟨_, _, rfl, ⟨_, rfl, ⟨_, _, rfl, ⟨x1_1, rfl, x1_1lo, x1_1hi⟩, _, _, rfl, ⟨x1_2, rfl, x1_2lo, x1_2hi⟩, _, _, rfl, ⟨x1_3, rfl, x1_3lo, x1_3hi⟩, _, _, rfl, ⟨x1_4, rfl, x1_4lo, x1_4hi⟩, _, _, rfl, ⟨x1_5, rfl, x1_5lo, x1_5hi⟩, _, _, rfl, ⟨x1_6, rfl, x1_6lo, x1_6hi⟩, _, _, rfl, ⟨x1_7, rfl, x1_7lo, x1_7hi⟩, _, _, rfl, ⟨x1_8, rfl, x1_8lo, x1_8hi⟩, rfl⟩⟩, _, _, rfl, ⟨_, rfl, ⟨_, _, rfl, ⟨x2_1, rfl, x2_1lo, x2_1hi⟩, _, _, rfl, ⟨x2_2, rfl, x2_2lo, x2_2hi⟩, _, _, rfl, ⟨x2_3, rfl, x2_3lo, x2_3hi⟩, _, _, rfl, ⟨x2_4, rfl, x2_4lo, x2_4hi⟩, _, _, rfl, ⟨x2_5, rfl, x2_5lo, x2_5hi⟩, _, _, rfl, ⟨x2_6, rfl, x2_6lo, x2_6hi⟩, _, _, rfl, ⟨x2_7, rfl, x2_7lo, x2_7hi⟩, _, _, rfl, ⟨x2_8, rfl, x2_8lo, x2_8hi⟩, rfl⟩⟩, rfl⟩ := hl
  subst hEE
  generalize hK : kR (.bool) r = K
  generalize hO : real = O
  set_option maxRecDepth 100000 in cbv
  subst hO hK 
  simp only [s_less, R.Y] at hr
  subst hr
  try dsimp only [real, rops, ropsB, ropsC, ropsD, ropsE, ropsF, ropsG, ropsH, ropsI, ropsJ, ropsK, ropsL, ropsM, ropsN, ropsP, ropsQ]
  have rg : ∀ x : Int, IntKind.u64.min ≤ x → x ≤ IntKind.u64.max → 0 ≤ x ∧ x < 18446744073709551616 := fun x h1 h2 => by
    have e1 : IntKind.u64.min = 0 := rfl
    have e2 : IntKind.u64.max = 18446744073709551615 := rfl
    rw [e1] at h1
    rw [e2] at h2
    omega
  rw [less8 (rg _ x1_1lo x1_1hi) (rg _ x1_2lo x1_2hi) (rg _ x1_3lo x1_3hi) (rg _ x1_4lo x1_4hi) (rg _ x1_5lo x1_5hi) (rg _ x1_6lo x1_6hi) (rg _ x1_7lo x1_7hi) (rg _ x1_8lo x1_8hi) (rg _ x2_1lo x2_1hi) (rg _ x2_2lo x2_2hi) (rg _ x2_3lo x2_3hi) (rg _ x2_4lo x2_4hi) (rg _ x2_5lo x2_5hi) (rg _ x2_6lo x2_6hi) (rg _ x2_7lo x2_7hi) (rg _ x2_8lo x2_8hi)]
  iterate 7 (
    refine ⟨imp_f fun h => ?_, imp_t fun h => ?_⟩
    · rw [c_neq_t] at h
      rw [if_pos h]
      simp only [kR, canon, canons, ekEq, numE, getW, getWord, allInts8, asInt, isK, kindEq, isArgB, strOf, cBig, cInts, cWords, allInts, allWords, r_ofLimbs, r_mkWord, Option.some.injEq, LV.wide.injEq, LV.word.injEq, LV.int.injEq, LV.bool.injEq, LV.str.injEq, LV.big.injEq, LV.tup.injEq, LV.agg.injEq, List.cons.injEq, and_true, true_and]
    rw [c_neq_f] at h
    rw [if_neg (fun hh => hh h)])
  refine ⟨imp_f fun h => ?_, imp_t fun h => ?_⟩
  · rw [c_neq_t] at h
    rw [if_pos h]
    simp only [kR, canon, canons, ekEq, numE, getW, getWord, allInts8, asInt, isK, kindEq, isArgB, strOf, cBig, cInts, cWords, allInts, allWords, r_ofLimbs, r_mkWord, Option.some.injEq, LV.wide.injEq, LV.word.injEq, LV.int.injEq, LV.bool.injEq, LV.str.injEq, LV.big.injEq, LV.tup.injEq, LV.agg.injEq, List.cons.injEq, and_true, true_and]
  · rw [c_neq_f] at h
    rw [if_neg (fun hh => hh h)]
    simp only [kR, canon, canons, ekEq, numE, getW, getWord, allInts8, asInt, isK, kindEq, isArgB, strOf, cBig, cInts, cWords, allInts, allWords, r_ofLimbs, r_mkWord, Option.some.injEq, LV.wide.injEq, LV.word.injEq, LV.int.injEq, LV.bool.injEq, LV.str.injEq, LV.big.injEq, LV.tup.injEq, LV.agg.injEq, List.cons.injEq, and_true, true_and]
theorem p_wCmp : SpecOk Tryz.prog globs 115 (mkSpec real [.wide, .wide] (s_wCmp rops)) := by
  have hfns : FnsOk Tryz.prog globs [(162, .spec (mkSpec real [.lst [.int .u64, .int .u64, .int .u64, .int .u64, .int .u64, .int .u64, .int .u64, .int .u64], .lst [.int .u64, .int .u64, .int .u64, .int .u64, .int .u64, .int .u64, .int .u64, .int .u64]] (s_less ropsQ)))] := (fnsCons (fnSpec (p_less)) fnsNil)
  refine spec0 hfns (by kernel_rfl) Tryz.func115 (by kernel_rfl) (by kernel_rfl) (by kernel_rfl) 4 _ _ (.int .i64) ?_
  clear hfns
  generalize hEE : env0 [(162, .spec (mkSpec real [.lst [.int .u64, .int .u64, .int .u64, .int .u64, .int .u64, .int .u64, .int .u64, .int .u64], .lst [.int .u64, .int .u64, .int .u64, .int .u64, .int .u64, .int .u64, .int .u64, .int .u64]] (s_less ropsQ)))] = EE
  intro l r hl hr
  simp only [Forms, Form] at hl
  obtain ⟨_, _, rfl, ⟨x1, rfl⟩, _, _, rfl, ⟨x2, rfl⟩, rfl⟩ := hl
  subst hEE
  generalize hK : kR (.int .i64) r = K
  generalize hO : real = O
  generalize hS0 : rops = S0
  generalize hS1 : ropsB = S1
  generalize hS2 : ropsC = S2
  generalize hS3 : ropsD = S3
  generalize hS4 : ropsE = S4
  generalize hS5 : ropsF = S5
  generalize hS6 : ropsG = S6
  generalize hS7 : ropsH = S7
  generalize hS8 : ropsI = S8
  generalize hS9 : ropsJ = S9
  generalize hS10 : ropsK = S10
  generalize hS11 : ropsL = S11
  generalize hS12 : ropsM = S12
  generalize hS13 : ropsN = S13
  generalize hS14 : ropsP = S14
  generalize hS15 : ropsQ = S15
  set_option maxRecDepth 100000 in cbv
  subst hO hK hS0 hS1 hS2 hS3 hS4 hS5 hS6 hS7 hS8 hS9 hS10 hS11 hS12 hS13 hS14 hS15
  simp only [s_wCmp, R.Y] at hr
  subst hr
  try dsimp only [real, rops, ropsB, ropsC, ropsD, ropsE, ropsF, ropsG, ropsH, ropsI, ropsJ, ropsK, ropsL, ropsM, ropsN, ropsP, ropsQ]
  rw [ofLimbs_limbs, ofLimbs_limbs]
  unfold wCmp
  refine ⟨imp_f fun h => ?_, imp_t fun h => ⟨imp_f fun h2 => ?_, imp_t fun h2 => ?_⟩⟩
  · rw [decide_eq_true_eq] at h
    simp only [kR, canon, canons, ekEq, numE, getW, getWord, allInts8, asInt, isK, kindEq, isArgB, strOf, cBig, cInts, cWords, allInts, allWords, r_ofLimbs, r_mkWord, Option.some.injEq, LV.wide.injEq, LV.word.injEq, LV.int.injEq, LV.bool.injEq, LV.str.injEq, LV.big.injEq, LV.tup.injEq, LV.agg.injEq, List.cons.injEq, and_true, true_and]
    rw [if_pos h]
  · rw [decide_eq_false_iff_not] at h
    rw [decide_eq_true_eq] at h2
    simp only [kR, canon, canons, ekEq, numE, getW, getWord, allInts8, asInt, isK, kindEq, isArgB, strOf, cBig, cInts, cWords, allInts, allWords, r_ofLimbs, r_mkWord, Option.some.injEq, LV.wide.injEq, LV.word.injEq, LV.int.injEq, LV.bool.injEq, LV.str.injEq, LV.big.injEq, LV.tup.injEq, LV.agg.injEq, List.cons.injEq, and_true, true_and]
    rw [if_neg h, if_pos h2]
  · rw [decide_eq_false_iff_not] at h h2
    simp only [kR, canon, canons, ekEq, numE, getW, getWord, allInts8, asInt, isK, kindEq, isArgB, strOf, cBig, cInts, cWords, allInts, allWords, r_ofLimbs, r_mkWord, Option.some.injEq, LV.wide.injEq, LV.word.injEq, LV.int.injEq, LV.bool.injEq, LV.str.injEq, LV.big.injEq, LV.tup.injEq, LV.agg.injEq, List.cons.injEq, and_true, true_and]
    rw [if_neg h, if_neg h2]
end Go.LE