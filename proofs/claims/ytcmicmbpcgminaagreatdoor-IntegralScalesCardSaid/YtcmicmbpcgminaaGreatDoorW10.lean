import Derived.Test.YtcmicmbpcgminaaGreatDoorW9
import Derived.Test.YtcmicmbpcgminaaGreatDoorLeN
set_option linter.unusedVariables false
set_option linter.unusedSimpArgs false
namespace Go.LE
open Go Go.Proofs
structure OpsD where
  mkOk : Int → Int → W → Bool
  mkW : Int → Bool → Int → W → BitVec 128
  kind : Int → Int → Int → W → Int
  abs : Int → BitVec 128 → BitVec 128
  flip : Int → BitVec 128 → BitVec 128
  bnot : Bool → Bool
noncomputable def ropsD : OpsD where
  mkOk := mkOk
  mkW := mkW
  kind := kindOf
  abs := wAbs
  flip := wFlip
  bnot := fun b => !b
def s_make (S : OpsD) : List LV → R LV
  | [.int _ f, .bool b, .int _ fld, .wide frc] => .ok (.tup [.word (S.mkW f b fld frc), .bool (S.mkOk f fld frc)])
  | _ => .fail
def s_negP (_ : OpsD) : List LV → R LV
  | [.agg [_, .bool b, _, _]] => .ok (.bool b)
  | _ => .fail
def s_fldP (_ : OpsD) : List LV → R LV
  | [.agg [_, _, .int _ n, _]] => .ok (.int .i64 n)
  | _ => .fail
def s_frcP (_ : OpsD) : List LV → R LV
  | [.agg [_, _, _, .wide a]] => .ok (.wide a)
  | _ => .fail
def s_kindP (S : OpsD) : List LV → R LV
  | [.agg [.agg [_, .int _ p, .int _ e, _, _], _, .int _ n, .wide a]] => .ok (.int .i64 (S.kind p e n a))
  | _ => .fail
def s_cNeg (S : OpsC) : List LV → R LV
  | [.int _ f, .word w] => .ok (.bool (S.wneg f w))
  | _ => .fail
def s_cField (S : OpsC) : List LV → R LV
  | [.int _ f, .word w] => .ok (.int .i64 (S.wfld f w))
  | _ => .fail
def s_cFrac (S : OpsC) : List LV → R LV
  | [.int _ f, .word w] => .ok (.wide (S.wfrc f w))
  | _ => .fail
def s_cOf (S : OpsC) : List LV → R LV
  | [.int _ f, .word w] => .ok (.int .i64 (S.cls f w))
  | _ => .fail
def s_noSign (_ : OpsD) : List LV → R LV
  | [.bool _] => .ok (.bool false)
  | _ => .fail
def s_other (S : OpsD) : List LV → R LV
  | [.bool b] => .ok (.bool (S.bnot b))
  | _ => .fail
def s_signedA (S : OpsD) : List LV → R LV
  | [.agg [_, .bool _, .int _ n, .wide a], .cell (.int _ f), _] => .ok (.word (S.mkW f false n a))
  | _ => .fail
def s_signedF (S : OpsD) : List LV → R LV
  | [.agg [_, .bool b, .int _ n, .wide a], .cell (.int _ f), _] => .ok (.word (S.mkW f (S.bnot b) n a))
  | _ => .fail
def s_cAbs (S : OpsD) : List LV → R LV
  | [.int _ f, .word w] => .ok (.word (S.abs f w))
  | _ => .fail
def s_cFlip (S : OpsD) : List LV → R LV
  | [.int _ f, .word w] => .ok (.word (S.flip f w))
  | _ => .fail
theorem p_class06 : SpecOk Tryz.prog globs 9 (mkSpec real [.int .i64, .word] (s_class06 ropsC)) := by
  have hfns : FnsOk Tryz.prog globs [(22, .spec (mkSpec real [.int .i64, .word] (s_fits05 ropsB))), (39, .spec (mkSpec real [.int .i64, .word] (s_field06 ropsC))), (40, .spec (mkSpec real [.int .i64, .word] (s_frac06 ropsC))), (41, .spec (mkSpec real [.int .i64] (s_emax rops))), (43, .spec (mkSpec real [.int .i64] (s_prec rops))), (42, .spec (mkSpec real [.word, .int .i64] (s_bit05 ropsB)))] := (fnsCons (fnSpec (p_fits05)) (fnsCons (fnSpec (p_field06)) (fnsCons (fnSpec (p_frac06)) (fnsCons (fnSpec (p_emax)) (fnsCons (fnSpec (p_prec)) (fnsCons (fnSpec (p_bit05)) fnsNil))))))
  refine spec0 hfns (by kernel_rfl) Tryz.func9 (by kernel_rfl) (by kernel_rfl) (by kernel_rfl) 4 _ _ (.int .i64) ?_
  clear hfns
  generalize hEE : env0 [(22, .spec (mkSpec real [.int .i64, .word] (s_fits05 ropsB))), (39, .spec (mkSpec real [.int .i64, .word] (s_field06 ropsC))), (40, .spec (mkSpec real [.int .i64, .word] (s_frac06 ropsC))), (41, .spec (mkSpec real [.int .i64] (s_emax rops))), (43, .spec (mkSpec real [.int .i64] (s_prec rops))), (42, .spec (mkSpec real [.word, .int .i64] (s_bit05 ropsB)))] = EE
  intro l r hl hr
  simp only [Forms, Form] at hl
  obtain ⟨_, _, rfl, ⟨x1, rfl, x1lo, x1hi⟩, _, _, rfl, ⟨x2, rfl⟩, rfl⟩ := hl
  subst hEE
  generalize hK : kR (.int .i64) r = K
  generalize hO : real = O
  generalize hS0 : rops = S0
  generalize hS1 : ropsB = S1
  generalize hS2 : ropsC = S2
  generalize hS3 : ropsD = S3
  set_option maxRecDepth 100000 in cbv
  subst hO hK hS0 hS1 hS2 hS3
  simp only [s_class06, R.Y] at hr
  subst hr
  try dsimp only [real, rops, ropsB, ropsC, ropsD]
  refine ⟨imp_f fun h => ?_, imp_t fun h => ?_⟩
  · have h : fFits x1 x2 = false := by simpa using h
    simp only [kR, canon, isK, asInt, kindEq, Option.some.injEq, LV.int.injEq, true_and]
    exact (cls_none h).symm
  · have h : fFits x1 x2 = true := by simpa using h
    obtain ⟨hf, _⟩ := fits_lt h
    have hp := p_rng x1 hf
    obtain ⟨_, e2, _, _⟩ := sub_prec hf
    simp only [mul_emax hf, e2, ofLimbs_0]
    have hc := cls_fits h
    have hnn : 0 ≤ bFld x1 x2 := Int.natCast_nonneg _
    repeat' (first | apply And.intro | (refine imp_f fun _ => ?_) | (refine imp_t fun _ => ?_))
    all_goals (try simp only [c_eql_t, c_eql_f, c_neq_t, c_neq_f, c_lss_t, c_lss_f, c_leq_t, c_leq_f, c_gtr_t, c_gtr_f, c_geq_t, c_geq_f, decide_eq_true_eq, decide_eq_false_iff_not] at *)
    all_goals first
      | exact hf.1
      | exact hf.2
      | omega
      | (simp only [kR, canon, isK, asInt, kindEq, Option.some.injEq, LV.int.injEq, true_and]; rw [hc]; (repeat (first | rw [if_pos (by assumption)] | rw [if_neg (by assumption)] | rw [if_neg (ne_true_of_eq_false (by assumption))] | rw [if_pos (by omega)] | rw [if_neg (by omega)])))
theorem p_make : SpecOk Tryz.prog globs 84 (mkSpec real [.int .i64, .bool, .int .i64, .wide] (s_make ropsD)) := by
  have hfns : FnsOk Tryz.prog globs [(79, .spec (mkSpec real [.int .i64] (s_fmtOf rops))), (99, .spec (mkSpec real [.wide] (s_wLen rops))), (132, .spec (mkSpec real [.ints .u64] (s_of rops))), (83, .spec (mkSpec real [.wide, .int .i64] (s_shl rops))), (124, .spec (mkSpec real [.wide, .wide] (s_wAdd rops))), (86, .spec (mkSpec real [.int .i64] (s_power rops))), (133, .spec (mkSpec real [.wide] (s_low rops)))] := (fnsCons (fnSpec (p_fmtOf)) (fnsCons (fnSpec (p_wLen)) (fnsCons (fnSpec (p_of)) (fnsCons (fnSpec (p_shl)) (fnsCons (fnSpec (p_wAdd)) (fnsCons (fnSpec (p_power)) (fnsCons (fnSpec (p_low)) fnsNil)))))))
  refine spec0 hfns (by kernel_rfl) Tryz.func84 (by kernel_rfl) (by kernel_rfl) (by kernel_rfl) 4 _ _ (.tup [.word, .bool]) ?_
  clear hfns
  generalize hEE : env0 [(79, .spec (mkSpec real [.int .i64] (s_fmtOf rops))), (99, .spec (mkSpec real [.wide] (s_wLen rops))), (132, .spec (mkSpec real [.ints .u64] (s_of rops))), (83, .spec (mkSpec real [.wide, .int .i64] (s_shl rops))), (124, .spec (mkSpec real [.wide, .wide] (s_wAdd rops))), (86, .spec (mkSpec real [.int .i64] (s_power rops))), (133, .spec (mkSpec real [.wide] (s_low rops)))] = EE
  intro l r hl hr
  simp only [Forms, Form] at hl
  obtain ⟨_, _, rfl, ⟨x1, rfl, x1lo, x1hi⟩, _, _, rfl, ⟨x2, rfl⟩, _, _, rfl, ⟨x3, rfl, x3lo, x3hi⟩, _, _, rfl, ⟨x4, rfl⟩, rfl⟩ := hl
  subst hEE
  generalize hK : kR (.tup [.word, .bool]) r = K
  generalize hO : real = O
  generalize hS0 : rops = S0
  generalize hS1 : ropsB = S1
  generalize hS2 : ropsC = S2
  generalize hS3 : ropsD = S3
  set_option maxRecDepth 100000 in cbv
  subst hO hK hS0 hS1 hS2 hS3
  simp only [s_make, R.Y] at hr
  subst hr
  try dsimp only [real, rops, ropsB, ropsC, ropsD]
  have hno : mkOk x1 x3 x4 = false → kR (AT.tup [AT.word, AT.bool]) (LV.tup [LV.word (mkW x1 x2 x3 x4), LV.bool (mkOk x1 x3 x4)]) (LV.tup [LV.agg [LV.lit IntKind.u64 0, LV.lit IntKind.u64 0], LV.blit false]) := by
    intro h
    have e : mkW x1 x2 x3 x4 = 0 := by unfold mkW; rw [h]; rfl
    rw [h, e]
    simp only [kR, canon, canons, ekEq, numE, getW, getWord, allInts8, asInt, isK, kindEq, isArgB, strOf, cBig, cInts, cWords, allInts, allWords, r_ofLimbs, r_mkWord, Option.some.injEq, LV.wide.injEq, LV.word.injEq, LV.int.injEq, LV.bool.injEq, LV.str.injEq, LV.big.injEq, LV.tup.injEq, LV.agg.injEq, List.cons.injEq, and_true, true_and]
    rfl
  refine ⟨imp_f fun h => ?_, imp_t fun h => ?_⟩
  · have h : fOk x1 = false := by simpa using h
    exact hno (by unfold mkOk; rw [h]; rfl)
  have h : fOk x1 = true := by simpa using h
  have hf : 1 ≤ x1 ∧ x1 ≤ 4 := by unfold fOk at h; simpa using h
  obtain ⟨e1, _, e3, _⟩ := sub_prec hf
  rw [mul_emax hf, e1, e3]
  refine ⟨imp_f fun h1 => ?_, imp_t fun h1 => ⟨imp_f fun h2 => ?_, imp_t fun h2 => ⟨imp_f fun h3 => ?_, imp_t fun h3 => ?_⟩⟩⟩
  · rw [c_lss_t] at h1
    exact hno (by unfold mkOk; rw [h, decide_eq_false (by omega)]; simp)
  · rw [c_gtr_t] at h2
    exact hno (by unfold mkOk; rw [h, decide_eq_false (by omega)]; simp)
  · rw [c_gtr_t] at h3
    exact hno (by unfold mkOk; rw [h, decide_eq_false (p := wLen x4 ≤ _) (by omega)]; simp)
  · rw [c_lss_f] at h1
    rw [c_gtr_f] at h2 h3
    have hok : mkOk x1 x3 x4 = true := by unfold mkOk; rw [h, decide_eq_true (by omega), decide_eq_true h3]; rfl
    obtain ⟨g1, g2⟩ := make_leaf hok
    refine ⟨imp_f fun hn => ?_, imp_t fun hn => ?_⟩
    · simp only [kR, canon, canons, ekEq, numE, getW, getWord, allInts8, asInt, isK, kindEq, isArgB, strOf, cBig, cInts, cWords, allInts, allWords, r_ofLimbs, r_mkWord, Option.some.injEq, LV.wide.injEq, LV.word.injEq, LV.int.injEq, LV.bool.injEq, LV.str.injEq, LV.big.injEq, LV.tup.injEq, LV.agg.injEq, List.cons.injEq, and_true, true_and]
      refine ⟨?_, hok.symm⟩
      rw [g2]; unfold mkW; rw [hok, hn]; rfl
    · simp only [kR, canon, canons, ekEq, numE, getW, getWord, allInts8, asInt, isK, kindEq, isArgB, strOf, cBig, cInts, cWords, allInts, allWords, r_ofLimbs, r_mkWord, Option.some.injEq, LV.wide.injEq, LV.word.injEq, LV.int.injEq, LV.bool.injEq, LV.str.injEq, LV.big.injEq, LV.tup.injEq, LV.agg.injEq, List.cons.injEq, and_true, true_and]
      refine ⟨?_, hok.symm⟩
      rw [g1]; unfold mkW; rw [hok, hn]; rfl
theorem p_negP : SpecOk Tryz.prog globs 143 (mkSpec real [.st [.st [.int .i64, .int .i64, .int .i64, .int .i64, .int .i64], .bool, .int .i64, .wide]] (s_negP ropsD)) := by
  have hfns : FnsOk Tryz.prog globs [] := fnsNil
  refine spec0 hfns (by kernel_rfl) Tryz.func143 (by kernel_rfl) (by kernel_rfl) (by kernel_rfl) 4 _ _ (.bool) ?_
  clear hfns
  generalize hEE : env0 [] = EE
  intro l r hl hr
  simp only [Forms, Form] at hl
  obtain ⟨_, _, rfl, ⟨_, rfl, ⟨_, _, rfl, ⟨_, rfl, ⟨_, _, rfl, ⟨x1_1_1, rfl, x1_1_1lo, x1_1_1hi⟩, _, _, rfl, ⟨x1_1_2, rfl, x1_1_2lo, x1_1_2hi⟩, _, _, rfl, ⟨x1_1_3, rfl, x1_1_3lo, x1_1_3hi⟩, _, _, rfl, ⟨x1_1_4, rfl, x1_1_4lo, x1_1_4hi⟩, _, _, rfl, ⟨x1_1_5, rfl, x1_1_5lo, x1_1_5hi⟩, rfl⟩⟩, _, _, rfl, ⟨x1_2, rfl⟩, _, _, rfl, ⟨x1_3, rfl, x1_3lo, x1_3hi⟩, _, _, rfl, ⟨x1_4, rfl⟩, rfl⟩⟩, rfl⟩ := hl
  subst hEE
  generalize hK : kR (.bool) r = K
  generalize hO : real = O
  set_option maxRecDepth 100000 in cbv
  subst hO hK 
  simp only [s_negP, R.Y] at hr
  subst hr
  try dsimp only [real, rops, ropsB, ropsC, ropsD]
  simp only [kR, canon, canons, ekEq, numE, getW, getWord, allInts8, asInt, isK, kindEq, isArgB, strOf, cBig, cInts, cWords, allInts, allWords, r_ofLimbs, r_mkWord, Option.some.injEq, LV.wide.injEq, LV.word.injEq, LV.int.injEq, LV.bool.injEq, LV.str.injEq, LV.big.injEq, LV.tup.injEq, LV.agg.injEq, List.cons.injEq, and_true, true_and]
theorem p_fldP : SpecOk Tryz.prog globs 168 (mkSpec real [.st [.st [.int .i64, .int .i64, .int .i64, .int .i64, .int .i64], .bool, .int .i64, .wide]] (s_fldP ropsD)) := by
  have hfns : FnsOk Tryz.prog globs [] := fnsNil
  refine spec0 hfns (by kernel_rfl) Tryz.func168 (by kernel_rfl) (by kernel_rfl) (by kernel_rfl) 4 _ _ (.int .i64) ?_
  clear hfns
  generalize hEE : env0 [] = EE
  intro l r hl hr
  simp only [Forms, Form] at hl
  obtain ⟨_, _, rfl, ⟨_, rfl, ⟨_, _, rfl, ⟨_, rfl, ⟨_, _, rfl, ⟨x1_1_1, rfl, x1_1_1lo, x1_1_1hi⟩, _, _, rfl, ⟨x1_1_2, rfl, x1_1_2lo, x1_1_2hi⟩, _, _, rfl, ⟨x1_1_3, rfl, x1_1_3lo, x1_1_3hi⟩, _, _, rfl, ⟨x1_1_4, rfl, x1_1_4lo, x1_1_4hi⟩, _, _, rfl, ⟨x1_1_5, rfl, x1_1_5lo, x1_1_5hi⟩, rfl⟩⟩, _, _, rfl, ⟨x1_2, rfl⟩, _, _, rfl, ⟨x1_3, rfl, x1_3lo, x1_3hi⟩, _, _, rfl, ⟨x1_4, rfl⟩, rfl⟩⟩, rfl⟩ := hl
  subst hEE
  generalize hK : kR (.int .i64) r = K
  generalize hO : real = O
  set_option maxRecDepth 100000 in cbv
  subst hO hK 
  simp only [s_fldP, R.Y] at hr
  subst hr
  try dsimp only [real, rops, ropsB, ropsC, ropsD]
  simp only [kR, canon, canons, ekEq, numE, getW, getWord, allInts8, asInt, isK, kindEq, isArgB, strOf, cBig, cInts, cWords, allInts, allWords, r_ofLimbs, r_mkWord, Option.some.injEq, LV.wide.injEq, LV.word.injEq, LV.int.injEq, LV.bool.injEq, LV.str.injEq, LV.big.injEq, LV.tup.injEq, LV.agg.injEq, List.cons.injEq, and_true, true_and]
theorem p_frcP : SpecOk Tryz.prog globs 170 (mkSpec real [.st [.st [.int .i64, .int .i64, .int .i64, .int .i64, .int .i64], .bool, .int .i64, .wide]] (s_frcP ropsD)) := by
  have hfns : FnsOk Tryz.prog globs [] := fnsNil
  refine spec0 hfns (by kernel_rfl) Tryz.func170 (by kernel_rfl) (by kernel_rfl) (by kernel_rfl) 4 _ _ (.wide) ?_
  clear hfns
  generalize hEE : env0 [] = EE
  intro l r hl hr
  simp only [Forms, Form] at hl
  obtain ⟨_, _, rfl, ⟨_, rfl, ⟨_, _, rfl, ⟨_, rfl, ⟨_, _, rfl, ⟨x1_1_1, rfl, x1_1_1lo, x1_1_1hi⟩, _, _, rfl, ⟨x1_1_2, rfl, x1_1_2lo, x1_1_2hi⟩, _, _, rfl, ⟨x1_1_3, rfl, x1_1_3lo, x1_1_3hi⟩, _, _, rfl, ⟨x1_1_4, rfl, x1_1_4lo, x1_1_4hi⟩, _, _, rfl, ⟨x1_1_5, rfl, x1_1_5lo, x1_1_5hi⟩, rfl⟩⟩, _, _, rfl, ⟨x1_2, rfl⟩, _, _, rfl, ⟨x1_3, rfl, x1_3lo, x1_3hi⟩, _, _, rfl, ⟨x1_4, rfl⟩, rfl⟩⟩, rfl⟩ := hl
  subst hEE
  generalize hK : kR (.wide) r = K
  generalize hO : real = O
  set_option maxRecDepth 100000 in cbv
  subst hO hK 
  simp only [s_frcP, R.Y] at hr
  subst hr
  try dsimp only [real, rops, ropsB, ropsC, ropsD]
  simp only [kR, canon, canons, ekEq, numE, getW, getWord, allInts8, asInt, isK, kindEq, isArgB, strOf, cBig, cInts, cWords, allInts, allWords, r_ofLimbs, r_mkWord, Option.some.injEq, LV.wide.injEq, LV.word.injEq, LV.int.injEq, LV.bool.injEq, LV.str.injEq, LV.big.injEq, LV.tup.injEq, LV.agg.injEq, List.cons.injEq, and_true, true_and]
theorem p_kindP : SpecOk Tryz.prog globs 145 (mkSpec real [.st [.st [.int .i64, .int .i64, .int .i64, .int .i64, .int .i64], .bool, .int .i64, .wide]] (s_kindP ropsD)) := by
  have hfns : FnsOk Tryz.prog globs [(127, .spec (mkSpec real [.wide, .int .i64] (s_wBit rops)))] := (fnsCons (fnSpec (p_wBit)) fnsNil)
  refine spec0 hfns (by kernel_rfl) Tryz.func145 (by kernel_rfl) (by kernel_rfl) (by kernel_rfl) 4 _ _ (.int .i64) ?_
  clear hfns
  generalize hEE : env0 [(127, .spec (mkSpec real [.wide, .int .i64] (s_wBit rops)))] = EE
  intro l r hl hr
  simp only [Forms, Form] at hl
  obtain ⟨_, _, rfl, ⟨_, rfl, ⟨_, _, rfl, ⟨_, rfl, ⟨_, _, rfl, ⟨x1_1_1, rfl, x1_1_1lo, x1_1_1hi⟩, _, _, rfl, ⟨x1_1_2, rfl, x1_1_2lo, x1_1_2hi⟩, _, _, rfl, ⟨x1_1_3, rfl, x1_1_3lo, x1_1_3hi⟩, _, _, rfl, ⟨x1_1_4, rfl, x1_1_4lo, x1_1_4hi⟩, _, _, rfl, ⟨x1_1_5, rfl, x1_1_5lo, x1_1_5hi⟩, rfl⟩⟩, _, _, rfl, ⟨x1_2, rfl⟩, _, _, rfl, ⟨x1_3, rfl, x1_3lo, x1_3hi⟩, _, _, rfl, ⟨x1_4, rfl⟩, rfl⟩⟩, rfl⟩ := hl
  subst hEE
  generalize hK : kR (.int .i64) r = K
  generalize hO : real = O
  generalize hS0 : rops = S0
  generalize hS1 : ropsB = S1
  generalize hS2 : ropsC = S2
  generalize hS3 : ropsD = S3
  set_option maxRecDepth 100000 in cbv
  subst hO hK hS0 hS1 hS2 hS3
  simp only [s_kindP, R.Y] at hr
  subst hr
  try dsimp only [real, rops, ropsB, ropsC, ropsD]
  simp only [ofLimbs_0]
  repeat' (first | apply And.intro | (refine imp_f fun _ => ?_) | (refine imp_t fun _ => ?_))
  all_goals (try simp only [c_eql_t, c_eql_f, c_neq_t, c_neq_f, c_lss_t, c_lss_f, c_leq_t, c_leq_f, c_gtr_t, c_gtr_f, c_geq_t, c_geq_f, decide_eq_true_eq, decide_eq_false_iff_not] at *)
  all_goals (simp only [kR, canon, canons, ekEq, numE, getW, getWord, allInts8, asInt, isK, kindEq, isArgB, strOf, cBig, cInts, cWords, allInts, allWords, r_ofLimbs, r_mkWord, Option.some.injEq, LV.wide.injEq, LV.word.injEq, LV.int.injEq, LV.bool.injEq, LV.str.injEq, LV.big.injEq, LV.tup.injEq, LV.agg.injEq, List.cons.injEq, and_true, true_and]; unfold kindOf; (repeat (first | rw [if_pos (by assumption)] | rw [if_neg (by assumption)] | rw [if_neg (ne_true_of_eq_false (by assumption))] | rw [if_pos (by omega)] | rw [if_neg (by omega)])))
theorem p_cNeg : SpecOk Tryz.prog globs 94 (mkSpec real [.int .i64, .word] (s_cNeg ropsC)) := by
  have hfns : FnsOk Tryz.prog globs [(142, inlF Tryz.f142), (143, .spec (mkSpec real [.st [.st [.int .i64, .int .i64, .int .i64, .int .i64, .int .i64], .bool, .int .i64, .wide]] (s_negP ropsD))), (88, .spec (mkSpec real [.int .i64, .word] (s_fits ropsB))), (79, .spec (mkSpec real [.int .i64] (s_fmtOf rops))), (136, .spec (mkSpec real [.word] (s_from rops))), (104, .spec (mkSpec real [.wide, .int .i64] (s_shr rops))), (83, .spec (mkSpec real [.wide, .int .i64] (s_shl rops))), (85, .spec (mkSpec real [.wide, .wide] (s_wSub rops))), (127, .spec (mkSpec real [.wide, .int .i64] (s_wBit rops)))] := (fnsCons (inl_ok Tryz.func142 (by kernel_rfl) (by kernel_rfl)) (fnsCons (fnSpec (p_negP)) (fnsCons (fnSpec (p_fits)) (fnsCons (fnSpec (p_fmtOf)) (fnsCons (fnSpec (p_from)) (fnsCons (fnSpec (p_shr)) (fnsCons (fnSpec (p_shl)) (fnsCons (fnSpec (p_wSub)) (fnsCons (fnSpec (p_wBit)) fnsNil)))))))))
  refine spec0 hfns (by kernel_rfl) Tryz.func94 (by kernel_rfl) (by kernel_rfl) (by kernel_rfl) 6 _ _ (.bool) ?_
  clear hfns
  generalize hEE : env0 [(142, inlF Tryz.f142), (143, .spec (mkSpec real [.st [.st [.int .i64, .int .i64, .int .i64, .int .i64, .int .i64], .bool, .int .i64, .wide]] (s_negP ropsD))), (88, .spec (mkSpec real [.int .i64, .word] (s_fits ropsB))), (79, .spec (mkSpec real [.int .i64] (s_fmtOf rops))), (136, .spec (mkSpec real [.word] (s_from rops))), (104, .spec (mkSpec real [.wide, .int .i64] (s_shr rops))), (83, .spec (mkSpec real [.wide, .int .i64] (s_shl rops))), (85, .spec (mkSpec real [.wide, .wide] (s_wSub rops))), (127, .spec (mkSpec real [.wide, .int .i64] (s_wBit rops)))] = EE
  intro l r hl hr
  simp only [Forms, Form] at hl
  obtain ⟨_, _, rfl, ⟨x1, rfl, x1lo, x1hi⟩, _, _, rfl, ⟨x2, rfl⟩, rfl⟩ := hl
  subst hEE
  generalize hK : kR (.bool) r = K
  generalize hO : real = O
  generalize hS0 : rops = S0
  generalize hS1 : ropsB = S1
  generalize hS2 : ropsC = S2
  generalize hS3 : ropsD = S3
  set_option maxRecDepth 100000 in cbv
  subst hO hK hS0 hS1 hS2 hS3
  simp only [s_cNeg, R.Y] at hr
  subst hr
  try dsimp only [real, rops, ropsB, ropsC, ropsD]
  refine ⟨imp_f fun h => ?_, imp_t fun h => ?_⟩
  · have h : fFits x1 x2 = false := by simpa using h
    simp only [kR, canon, canons, ekEq, numE, getW, getWord, allInts8, asInt, isK, kindEq, isArgB, strOf, cBig, cInts, cWords, allInts, allWords, r_ofLimbs, r_mkWord, Option.some.injEq, LV.wide.injEq, LV.word.injEq, LV.int.injEq, LV.bool.injEq, LV.str.injEq, LV.big.injEq, LV.tup.injEq, LV.agg.injEq, List.cons.injEq, and_true, true_and]
    exact (wneg_none h).symm
  · have h : fFits x1 x2 = true := by simpa using h
    obtain ⟨hf, _⟩ := fits_lt h
    refine ⟨by rcases f_cases hf with rfl | rfl | rfl | rfl <;> decide, ?_⟩
    simp only [kR, canon, canons, ekEq, numE, getW, getWord, allInts8, asInt, isK, kindEq, isArgB, strOf, cBig, cInts, cWords, allInts, allWords, r_ofLimbs, r_mkWord, Option.some.injEq, LV.wide.injEq, LV.word.injEq, LV.int.injEq, LV.bool.injEq, LV.str.injEq, LV.big.injEq, LV.tup.injEq, LV.agg.injEq, List.cons.injEq, and_true, true_and]
    exact (neg_leaf h).trans (wneg_fits h).symm
theorem p_cField : SpecOk Tryz.prog globs 122 (mkSpec real [.int .i64, .word] (s_cField ropsC)) := by
  have hfns : FnsOk Tryz.prog globs [(144, inlF Tryz.f144), (168, .spec (mkSpec real [.st [.st [.int .i64, .int .i64, .int .i64, .int .i64, .int .i64], .bool, .int .i64, .wide]] (s_fldP ropsD))), (88, .spec (mkSpec real [.int .i64, .word] (s_fits ropsB))), (79, .spec (mkSpec real [.int .i64] (s_fmtOf rops))), (136, .spec (mkSpec real [.word] (s_from rops))), (104, .spec (mkSpec real [.wide, .int .i64] (s_shr rops))), (83, .spec (mkSpec real [.wide, .int .i64] (s_shl rops))), (85, .spec (mkSpec real [.wide, .wide] (s_wSub rops))), (127, .spec (mkSpec real [.wide, .int .i64] (s_wBit rops)))] := (fnsCons (inl_ok Tryz.func144 (by kernel_rfl) (by kernel_rfl)) (fnsCons (fnSpec (p_fldP)) (fnsCons (fnSpec (p_fits)) (fnsCons (fnSpec (p_fmtOf)) (fnsCons (fnSpec (p_from)) (fnsCons (fnSpec (p_shr)) (fnsCons (fnSpec (p_shl)) (fnsCons (fnSpec (p_wSub)) (fnsCons (fnSpec (p_wBit)) fnsNil)))))))))
  refine spec0 hfns (by kernel_rfl) Tryz.func122 (by kernel_rfl) (by kernel_rfl) (by kernel_rfl) 6 _ _ (.int .i64) ?_
  clear hfns
  generalize hEE : env0 [(144, inlF Tryz.f144), (168, .spec (mkSpec real [.st [.st [.int .i64, .int .i64, .int .i64, .int .i64, .int .i64], .bool, .int .i64, .wide]] (s_fldP ropsD))), (88, .spec (mkSpec real [.int .i64, .word] (s_fits ropsB))), (79, .spec (mkSpec real [.int .i64] (s_fmtOf rops))), (136, .spec (mkSpec real [.word] (s_from rops))), (104, .spec (mkSpec real [.wide, .int .i64] (s_shr rops))), (83, .spec (mkSpec real [.wide, .int .i64] (s_shl rops))), (85, .spec (mkSpec real [.wide, .wide] (s_wSub rops))), (127, .spec (mkSpec real [.wide, .int .i64] (s_wBit rops)))] = EE
  intro l r hl hr
  simp only [Forms, Form] at hl
  obtain ⟨_, _, rfl, ⟨x1, rfl, x1lo, x1hi⟩, _, _, rfl, ⟨x2, rfl⟩, rfl⟩ := hl
  subst hEE
  generalize hK : kR (.int .i64) r = K
  generalize hO : real = O
  generalize hS0 : rops = S0
  generalize hS1 : ropsB = S1
  generalize hS2 : ropsC = S2
  generalize hS3 : ropsD = S3
  set_option maxRecDepth 100000 in cbv
  subst hO hK hS0 hS1 hS2 hS3
  simp only [s_cField, R.Y] at hr
  subst hr
  try dsimp only [real, rops, ropsB, ropsC, ropsD]
  refine ⟨imp_f fun h => ?_, imp_t fun h => ?_⟩
  · have h : fFits x1 x2 = false := by simpa using h
    simp only [kR, canon, canons, ekEq, numE, getW, getWord, allInts8, asInt, isK, kindEq, isArgB, strOf, cBig, cInts, cWords, allInts, allWords, r_ofLimbs, r_mkWord, Option.some.injEq, LV.wide.injEq, LV.word.injEq, LV.int.injEq, LV.bool.injEq, LV.str.injEq, LV.big.injEq, LV.tup.injEq, LV.agg.injEq, List.cons.injEq, and_true, true_and]
    unfold wFld; rw [h]; rfl
  · have h : fFits x1 x2 = true := by simpa using h
    obtain ⟨hf, _⟩ := fits_lt h
    refine ⟨by rcases f_cases hf with rfl | rfl | rfl | rfl <;> decide, ?_⟩
    simp only [kR, canon, canons, ekEq, numE, getW, getWord, allInts8, asInt, isK, kindEq, isArgB, strOf, cBig, cInts, cWords, allInts, allWords, r_ofLimbs, r_mkWord, Option.some.injEq, LV.wide.injEq, LV.word.injEq, LV.int.injEq, LV.bool.injEq, LV.str.injEq, LV.big.injEq, LV.tup.injEq, LV.agg.injEq, List.cons.injEq, and_true, true_and]
    unfold wFld; rw [h]; exact fld_leaf h
theorem p_cFrac : SpecOk Tryz.prog globs 123 (mkSpec real [.int .i64, .word] (s_cFrac ropsC)) := by
  have hfns : FnsOk Tryz.prog globs [(169, inlF Tryz.f169), (170, .spec (mkSpec real [.st [.st [.int .i64, .int .i64, .int .i64, .int .i64, .int .i64], .bool, .int .i64, .wide]] (s_frcP ropsD))), (88, .spec (mkSpec real [.int .i64, .word] (s_fits ropsB))), (79, .spec (mkSpec real [.int .i64] (s_fmtOf rops))), (136, .spec (mkSpec real [.word] (s_from rops))), (104, .spec (mkSpec real [.wide, .int .i64] (s_shr rops))), (83, .spec (mkSpec real [.wide, .int .i64] (s_shl rops))), (85, .spec (mkSpec real [.wide, .wide] (s_wSub rops))), (127, .spec (mkSpec real [.wide, .int .i64] (s_wBit rops)))] := (fnsCons (inl_ok Tryz.func169 (by kernel_rfl) (by kernel_rfl)) (fnsCons (fnSpec (p_frcP)) (fnsCons (fnSpec (p_fits)) (fnsCons (fnSpec (p_fmtOf)) (fnsCons (fnSpec (p_from)) (fnsCons (fnSpec (p_shr)) (fnsCons (fnSpec (p_shl)) (fnsCons (fnSpec (p_wSub)) (fnsCons (fnSpec (p_wBit)) fnsNil)))))))))
  refine spec0 hfns (by kernel_rfl) Tryz.func123 (by kernel_rfl) (by kernel_rfl) (by kernel_rfl) 6 _ _ (.wide) ?_
  clear hfns
  generalize hEE : env0 [(169, inlF Tryz.f169), (170, .spec (mkSpec real [.st [.st [.int .i64, .int .i64, .int .i64, .int .i64, .int .i64], .bool, .int .i64, .wide]] (s_frcP ropsD))), (88, .spec (mkSpec real [.int .i64, .word] (s_fits ropsB))), (79, .spec (mkSpec real [.int .i64] (s_fmtOf rops))), (136, .spec (mkSpec real [.word] (s_from rops))), (104, .spec (mkSpec real [.wide, .int .i64] (s_shr rops))), (83, .spec (mkSpec real [.wide, .int .i64] (s_shl rops))), (85, .spec (mkSpec real [.wide, .wide] (s_wSub rops))), (127, .spec (mkSpec real [.wide, .int .i64] (s_wBit rops)))] = EE
  intro l r hl hr
  simp only [Forms, Form] at hl
  obtain ⟨_, _, rfl, ⟨x1, rfl, x1lo, x1hi⟩, _, _, rfl, ⟨x2, rfl⟩, rfl⟩ := hl
  subst hEE
  generalize hK : kR (.wide) r = K
  generalize hO : real = O
  generalize hS0 : rops = S0
  generalize hS1 : ropsB = S1
  generalize hS2 : ropsC = S2
  generalize hS3 : ropsD = S3
  set_option maxRecDepth 100000 in cbv
  subst hO hK hS0 hS1 hS2 hS3
  simp only [s_cFrac, R.Y] at hr
  subst hr
  try dsimp only [real, rops, ropsB, ropsC, ropsD]
  refine ⟨imp_f fun h => ?_, imp_t fun h => ?_⟩
  · have h : fFits x1 x2 = false := by simpa using h
    simp only [kR, canon, canons, ekEq, numE, getW, getWord, allInts8, asInt, isK, kindEq, isArgB, strOf, cBig, cInts, cWords, allInts, allWords, r_ofLimbs, r_mkWord, Option.some.injEq, LV.wide.injEq, LV.word.injEq, LV.int.injEq, LV.bool.injEq, LV.str.injEq, LV.big.injEq, LV.tup.injEq, LV.agg.injEq, List.cons.injEq, and_true, true_and]
    unfold wFrc; rw [h]; rfl
  · have h : fFits x1 x2 = true := by simpa using h
    obtain ⟨hf, _⟩ := fits_lt h
    refine ⟨by rcases f_cases hf with rfl | rfl | rfl | rfl <;> decide, ?_⟩
    simp only [kR, canon, canons, ekEq, numE, getW, getWord, allInts8, asInt, isK, kindEq, isArgB, strOf, cBig, cInts, cWords, allInts, allWords, r_ofLimbs, r_mkWord, Option.some.injEq, LV.wide.injEq, LV.word.injEq, LV.int.injEq, LV.bool.injEq, LV.str.injEq, LV.big.injEq, LV.tup.injEq, LV.agg.injEq, List.cons.injEq, and_true, true_and]
    unfold wFrc; rw [h]; exact frc_leaf h
theorem p_cOf : SpecOk Tryz.prog globs 95 (mkSpec real [.int .i64, .word] (s_cOf ropsC)) := by
  have hfns : FnsOk Tryz.prog globs [(144, inlF Tryz.f144), (145, .spec (mkSpec real [.st [.st [.int .i64, .int .i64, .int .i64, .int .i64, .int .i64], .bool, .int .i64, .wide]] (s_kindP ropsD))), (88, .spec (mkSpec real [.int .i64, .word] (s_fits ropsB))), (79, .spec (mkSpec real [.int .i64] (s_fmtOf rops))), (136, .spec (mkSpec real [.word] (s_from rops))), (104, .spec (mkSpec real [.wide, .int .i64] (s_shr rops))), (83, .spec (mkSpec real [.wide, .int .i64] (s_shl rops))), (85, .spec (mkSpec real [.wide, .wide] (s_wSub rops))), (127, .spec (mkSpec real [.wide, .int .i64] (s_wBit rops)))] := (fnsCons (inl_ok Tryz.func144 (by kernel_rfl) (by kernel_rfl)) (fnsCons (fnSpec (p_kindP)) (fnsCons (fnSpec (p_fits)) (fnsCons (fnSpec (p_fmtOf)) (fnsCons (fnSpec (p_from)) (fnsCons (fnSpec (p_shr)) (fnsCons (fnSpec (p_shl)) (fnsCons (fnSpec (p_wSub)) (fnsCons (fnSpec (p_wBit)) fnsNil)))))))))
  refine spec0 hfns (by kernel_rfl) Tryz.func95 (by kernel_rfl) (by kernel_rfl) (by kernel_rfl) 6 _ _ (.int .i64) ?_
  clear hfns
  generalize hEE : env0 [(144, inlF Tryz.f144), (145, .spec (mkSpec real [.st [.st [.int .i64, .int .i64, .int .i64, .int .i64, .int .i64], .bool, .int .i64, .wide]] (s_kindP ropsD))), (88, .spec (mkSpec real [.int .i64, .word] (s_fits ropsB))), (79, .spec (mkSpec real [.int .i64] (s_fmtOf rops))), (136, .spec (mkSpec real [.word] (s_from rops))), (104, .spec (mkSpec real [.wide, .int .i64] (s_shr rops))), (83, .spec (mkSpec real [.wide, .int .i64] (s_shl rops))), (85, .spec (mkSpec real [.wide, .wide] (s_wSub rops))), (127, .spec (mkSpec real [.wide, .int .i64] (s_wBit rops)))] = EE
  intro l r hl hr
  simp only [Forms, Form] at hl
  obtain ⟨_, _, rfl, ⟨x1, rfl, x1lo, x1hi⟩, _, _, rfl, ⟨x2, rfl⟩, rfl⟩ := hl
  subst hEE
  generalize hK : kR (.int .i64) r = K
  generalize hO : real = O
  generalize hS0 : rops = S0
  generalize hS1 : ropsB = S1
  generalize hS2 : ropsC = S2
  generalize hS3 : ropsD = S3
  set_option maxRecDepth 100000 in cbv
  subst hO hK hS0 hS1 hS2 hS3
  simp only [s_cOf, R.Y] at hr
  subst hr
  try dsimp only [real, rops, ropsB, ropsC, ropsD]
  refine ⟨imp_f fun h => ?_, imp_t fun h => ?_⟩
  · have h : fFits x1 x2 = false := by simpa using h
    simp only [kR, canon, canons, ekEq, numE, getW, getWord, allInts8, asInt, isK, kindEq, isArgB, strOf, cBig, cInts, cWords, allInts, allWords, r_ofLimbs, r_mkWord, Option.some.injEq, LV.wide.injEq, LV.word.injEq, LV.int.injEq, LV.bool.injEq, LV.str.injEq, LV.big.injEq, LV.tup.injEq, LV.agg.injEq, List.cons.injEq, and_true, true_and]
    exact (cls_none h).symm
  · have h : fFits x1 x2 = true := by simpa using h
    obtain ⟨hf, _⟩ := fits_lt h
    refine ⟨by rcases f_cases hf with rfl | rfl | rfl | rfl <;> decide, ?_⟩
    simp only [kR, canon, canons, ekEq, numE, getW, getWord, allInts8, asInt, isK, kindEq, isArgB, strOf, cBig, cInts, cWords, allInts, allWords, r_ofLimbs, r_mkWord, Option.some.injEq, LV.wide.injEq, LV.word.injEq, LV.int.injEq, LV.bool.injEq, LV.str.injEq, LV.big.injEq, LV.tup.injEq, LV.agg.injEq, List.cons.injEq, and_true, true_and]
    have e1 := fld_leaf h
    have e2 := frc_leaf h
    unfold frW at e1 e2
    rw [e1, e2]; exact kind_cls h
theorem p_signed06 : SpecOk Tryz.prog globs 37 (mkSpec real [.int .i64, .word, .bool] (s_signed06 ropsC)) := by
  have hfns : FnsOk Tryz.prog globs [(58, .spec (mkSpec real [.int .i64] (s_bits rops))), (72, .spec (mkSpec real [.bool] (s_sign05 rops))), (42, .spec (mkSpec real [.word, .int .i64] (s_bit05 ropsB))), (73, .spec (mkSpec real [.str] (s_bword rops)))] := (fnsCons (fnSpec (p_bits)) (fnsCons (fnSpec (p_sign05)) (fnsCons (fnSpec (p_bit05)) (fnsCons (fnSpec (p_bword)) fnsNil))))
  refine specL (fun _ => [0,4,6,7,8]) hfns (by kernel_rfl) Tryz.func37 (by kernel_rfl) (by kernel_rfl) (by kernel_rfl) 4 _ _ (.word) ?_
  clear hfns
  generalize hEE : envL (fun _ => [0,4,6,7,8]) [(58, .spec (mkSpec real [.int .i64] (s_bits rops))), (72, .spec (mkSpec real [.bool] (s_sign05 rops))), (42, .spec (mkSpec real [.word, .int .i64] (s_bit05 ropsB))), (73, .spec (mkSpec real [.str] (s_bword rops)))] = EE
  intro l r hl hr
  simp only [Forms, Form] at hl
  obtain ⟨_, _, rfl, ⟨x1, rfl, x1lo, x1hi⟩, _, _, rfl, ⟨x2, rfl⟩, _, _, rfl, ⟨x3, rfl⟩, rfl⟩ := hl
  subst hEE
  generalize hK : kR (.word) r = K
  generalize hO : real = O
  generalize hS0 : rops = S0
  generalize hS1 : ropsB = S1
  generalize hS2 : ropsC = S2
  generalize hS3 : ropsD = S3
  set_option maxRecDepth 100000 in cbv
  obtain ⟨hf, hr⟩ := hr
  have hr : r = _ := hr.symm
  subst hO hK hS0 hS1 hS2 hS3
  subst hr
  replace hf : 1 ≤ x1 ∧ x1 ≤ 4 := hf
  have hb := b_len x1 hf
  refine ⟨hf, ?_⟩
  obtain ⟨_, _, _, e0⟩ := sub_prec hf
  refine loop_rule (α := ByteArray × Int × BitVec 128) (fun x => ⟨[.int .i64 x1, .undef, .undef, .undef, .ptr 0 0, .undef, .ptr 1 0, .str x.1, .int .i64 x.2.1, .undef, .undef, .undef, .undef, .undef, .undef, .undef, .undef, .undef, .undef, .undef, .undef, .undef, .undef, .undef, .undef, .undef], ofL [some (wordT, .word x2), some (wordT, .word x.2.2), none, none, none, none, none, none, none], 9⟩)
    (fun m x => -1 ≤ x.2.1 ∧ x.2.1 ≤ fBits x1 - 2 ∧ (x.1.size : Int) = fBits x1 - 1 - x.2.1 ∧ (bWord x.1).toNat = sgnAt x1 x2.toNat x3 x.2.1 ∧ x.2.1 + 1 ≤ m) ?_ 127 (bif x3 then bytesOf [49] else bytesOf [48], arithR .sub .i64 (fBits x1) 2, mkWordR 0 0) ⟨by rw [e0]; show (-1 : Int) ≤ fBits x1 - 2; omega, by rw [e0]; exact Int.le_refl _, by rw [e0]; show (((bif x3 then bytesOf [49] else bytesOf [48]).size : Nat) : Int) = fBits x1 - 1 - (fBits x1 - 2); rw [sign_size]; omega, by rw [e0]; exact (bWord_sign x3).trans (sgnAt_0 _ _ _).symm, by rw [e0]; show fBits x1 - 2 + 1 ≤ (127 : Int); omega⟩
  rintro m ⟨s, i, z⟩ X ⟨h1, h2, h3, h4, h6⟩ hX
  replace h1 : -1 ≤ i := h1
  replace h2 : i ≤ fBits x1 - 2 := h2
  replace h3 : (s.size : Int) = fBits x1 - 1 - i := h3
  replace h4 : (bWord s).toNat = sgnAt x1 x2.toNat x3 i := h4
  (generalize hK : kR _ _ = K; generalize hO : real = O; generalize hS0 : rops = S0; generalize hS1 : ropsB = S1; generalize hS2 : ropsC = S2; generalize hS3 : ropsD = S3; set_option maxRecDepth 100000 in cbv; subst hO hK hS0 hS1 hS2 hS3; dsimp only [real, rops, ropsB, ropsC, ropsD])
  have h5 : i + 1 ≤ ((m : Nat) : Int) := h6
  have h7 : ((s.size : Nat) : Int) = fBits x1 - 1 - i := h3
  clear h6 h3
  refine ⟨imp_f fun h => ?_, imp_t fun h => ?_⟩
  · rw [c_geq_t] at h
    have g3 : arithR .sub .i64 i 1 = i - 1 := sub_i64 (by omega) (by omega)
    have hm : m = (m - 1) + 1 := by omega
    have hc : i - 1 + 1 ≤ ((m - 1 : Nat) : Int) := by omega
    have hs := sgnAt_step (w := x2) (f := x1) (neg := x3) (i := i) (by omega) h2
    have hlt := sgnAt_lt hf x2.toNat x3 (i := i - 1) (by omega)
    have hw := bWord_app s (wdBit x2 i)
    rw [h4, ← hs, Nat.mod_eq_of_lt hlt] at hw
    refine ⟨by omega, ?_, ?_⟩
    · rw [sign_size, i64_max]; omega
    · have := hX (m - 1) (s ++ (bif wdBit x2 i then bytesOf [49] else bytesOf [48]), i - 1, z) hm ⟨by show -1 ≤ i - 1; omega, by show i - 1 ≤ _; omega, by show (((s ++ _ : ByteArray).size : Nat) : Int) = _; rw [size_app, sign_size]; show _ = fBits x1 - 1 - (i - 1); omega, hw, hc⟩
      rw [g3]
      exact this
  · rw [c_geq_f] at h
    simp only [kR, canon, canons, ekEq, numE, getW, getWord, allInts8, asInt, isK, kindEq, isArgB, strOf, cBig, cInts, cWords, allInts, allWords, r_ofLimbs, r_mkWord, Option.some.injEq, LV.wide.injEq, LV.word.injEq, LV.int.injEq, LV.bool.injEq, LV.str.injEq, LV.big.injEq, LV.tup.injEq, LV.agg.injEq, List.cons.injEq, and_true, true_and]
    rw [← sgnAt_last hf x2 x3, ← show i = -1 by omega, ← h4]
    simp
end Go.LE