import Derived.Test.YtapdblddamhdfaaDoorW9
import Derived.Test.YtapdblddamhdfaaDoorLeN
set_option linter.unusedVariables false
set_option linter.unusedSimpArgs false
namespace Go.LE
open Go Go.Proofs
structure OpsD where
  mkOk : Int → Int → W → Bool
  mkW : Int → Bool → Int → W → BitVec 128
  kind : Int → Int → Int → W → Int
  abs : Int → BitVec 128 → BitVec 128
  flip : Int → BitVec 128 → BitVec 128
  bnot : Bool → Bool
noncomputable def ropsD : OpsD where
  mkOk := mkOk
  mkW := mkW
  kind := kindOf
  abs := wAbs
  flip := wFlip
  bnot := fun b => !b
def s_make (S : OpsD) : List LV → R LV
  | [.int _ f, .bool b, .int _ fld, .wide frc] => .ok (.tup [.word (S.mkW f b fld frc), .bool (S.mkOk f fld frc)])
  | _ => .fail
def s_negP (_ : OpsD) : List LV → R LV
  | [.agg [_, .bool b, _, _]] => .ok (.bool b)
  | _ => .fail
def s_fldP (_ : OpsD) : List LV → R LV
  | [.agg [_, _, .int _ n, _]] => .ok (.int .i64 n)
  | _ => .fail
def s_frcP (_ : OpsD) : List LV → R LV
  | [.agg [_, _, _, .wide a]] => .ok (.wide a)
  | _ => .fail
def s_kindP (S : OpsD) : List LV → R LV
  | [.agg [.agg [_, .int _ p, .int _ e, _, _], _, .int _ n, .wide a]] => .ok (.int .i64 (S.kind p e n a))
  | _ => .fail
def s_cNeg (S : OpsC) : List LV → R LV
  | [.int _ f, .word w] => .ok (.bool (S.wneg f w))
  | _ => .fail
def s_cField (S : OpsC) : List LV → R LV
  | [.int _ f, .word w] => .ok (.int .i64 (S.wfld f w))
  | _ => .fail
def s_cFrac (S : OpsC) : List LV → R LV
  | [.int _ f, .word w] => .ok (.wide (S.wfrc f w))
  | _ => .fail
def s_cOf (S : OpsC) : List LV → R LV
  | [.int _ f, .word w] => .ok (.int .i64 (S.cls f w))
  | _ => .fail
def s_noSign (_ : OpsD) : List LV → R LV
  | [.bool _] => .ok (.bool false)
  | _ => .fail
def s_other (S : OpsD) : List LV → R LV
  | [.bool b] => .ok (.bool (S.bnot b))
  | _ => .fail
def s_signedA (S : OpsD) : List LV → R LV
  | [.agg [_, .bool _, .int _ n, .wide a], .cell (.int _ f), _] => .ok (.word (S.mkW f false n a))
  | _ => .fail
def s_signedF (S : OpsD) : List LV → R LV
  | [.agg [_, .bool b, .int _ n, .wide a], .cell (.int _ f), _] => .ok (.word (S.mkW f (S.bnot b) n a))
  | _ => .fail
def s_cAbs (S : OpsD) : List LV → R LV
  | [.int _ f, .word w] => .ok (.word (S.abs f w))
  | _ => .fail
def s_cFlip (S : OpsD) : List LV → R LV
  | [.int _ f, .word w] => .ok (.word (S.flip f w))
  | _ => .fail
theorem p_make : SpecOk Tryd.prog globs 34 (mkSpec real [.int .i64, .bool, .int .i64, .wide] (s_make ropsD)) := by
  have hfns : FnsOk Tryd.prog globs [(11, .spec (mkSpec real [.int .i64] (s_fmtOf rops))), (16, .spec (mkSpec real [.wide] (s_wLen rops))), (43, .spec (mkSpec real [.ints .u64] (s_of rops))), (22, .spec (mkSpec real [.wide, .int .i64] (s_shl rops))), (42, .spec (mkSpec real [.wide, .wide] (s_wAdd rops))), (44, .spec (mkSpec real [.int .i64] (s_power rops))), (45, .spec (mkSpec real [.wide] (s_low rops)))] := (fnsCons (fnSpec (p_fmtOf)) (fnsCons (fnSpec (p_wLen)) (fnsCons (fnSpec (p_of)) (fnsCons (fnSpec (p_shl)) (fnsCons (fnSpec (p_wAdd)) (fnsCons (fnSpec (p_power)) (fnsCons (fnSpec (p_low)) fnsNil)))))))
  refine spec0 hfns (by kernel_rfl) Tryd.func34 (by kernel_rfl) (by kernel_rfl) (by kernel_rfl) 4 _ _ (.tup [.word, .bool]) ?_
  clear hfns
  generalize hEE : env0 [(11, .spec (mkSpec real [.int .i64] (s_fmtOf rops))), (16, .spec (mkSpec real [.wide] (s_wLen rops))), (43, .spec (mkSpec real [.ints .u64] (s_of rops))), (22, .spec (mkSpec real [.wide, .int .i64] (s_shl rops))), (42, .spec (mkSpec real [.wide, .wide] (s_wAdd rops))), (44, .spec (mkSpec real [.int .i64] (s_power rops))), (45, .spec (mkSpec real [.wide] (s_low rops)))] = EE
  intro l r hl hr
  simp only [Forms, Form] at hl
  obtain ⟨_, _, rfl, ⟨x1, rfl, x1lo, x1hi⟩, _, _, rfl, ⟨x2, rfl⟩, _, _, rfl, ⟨x3, rfl, x3lo, x3hi⟩, _, _, rfl, ⟨x4, rfl⟩, rfl⟩ := hl
  subst hEE
  generalize hK : kR (.tup [.word, .bool]) r = K
  generalize hO : real = O
  generalize hS0 : rops = S0
  generalize hS1 : ropsB = S1
  generalize hS2 : ropsC = S2
  generalize hS3 : ropsD = S3
  set_option maxRecDepth 100000 in cbv
  subst hO hK hS0 hS1 hS2 hS3
  simp only [s_make, R.Y] at hr
  subst hr
  try dsimp only [real, rops, ropsB, ropsC, ropsD]
  have hno : mkOk x1 x3 x4 = false → kR (AT.tup [AT.word, AT.bool]) (LV.tup [LV.word (mkW x1 x2 x3 x4), LV.bool (mkOk x1 x3 x4)]) (LV.tup [LV.agg [LV.lit IntKind.u64 0, LV.lit IntKind.u64 0], LV.blit false]) := by
    intro h
    have e : mkW x1 x2 x3 x4 = 0 := by unfold mkW; rw [h]; rfl
    rw [h, e]
    simp only [kR, canon, canons, ekEq, numE, getW, getWord, allInts8, asInt, isK, kindEq, isArgB, strOf, cBig, cInts, cWords, allInts, allWords, r_ofLimbs, r_mkWord, Option.some.injEq, LV.wide.injEq, LV.word.injEq, LV.int.injEq, LV.bool.injEq, LV.str.injEq, LV.big.injEq, LV.tup.injEq, LV.agg.injEq, List.cons.injEq, and_true, true_and]
    rfl
  refine ⟨imp_f fun h => ?_, imp_t fun h => ?_⟩
  · have h : fOk x1 = false := by simpa using h
    exact hno (by unfold mkOk; rw [h]; rfl)
  have h : fOk x1 = true := by simpa using h
  have hf : 1 ≤ x1 ∧ x1 ≤ 4 := by unfold fOk at h; simpa using h
  obtain ⟨e1, _, e3, _⟩ := sub_prec hf
  rw [mul_emax hf, e1, e3]
  refine ⟨imp_f fun h1 => ?_, imp_t fun h1 => ⟨imp_f fun h2 => ?_, imp_t fun h2 => ⟨imp_f fun h3 => ?_, imp_t fun h3 => ?_⟩⟩⟩
  · rw [c_lss_t] at h1
    exact hno (by unfold mkOk; rw [h, decide_eq_false (by omega)]; simp)
  · rw [c_gtr_t] at h2
    exact hno (by unfold mkOk; rw [h, decide_eq_false (by omega)]; simp)
  · rw [c_gtr_t] at h3
    exact hno (by unfold mkOk; rw [h, decide_eq_false (p := wLen x4 ≤ _) (by omega)]; simp)
  · rw [c_lss_f] at h1
    rw [c_gtr_f] at h2 h3
    have hok : mkOk x1 x3 x4 = true := by unfold mkOk; rw [h, decide_eq_true (by omega), decide_eq_true h3]; rfl
    obtain ⟨g1, g2⟩ := make_leaf hok
    refine ⟨imp_f fun hn => ?_, imp_t fun hn => ?_⟩
    · simp only [kR, canon, canons, ekEq, numE, getW, getWord, allInts8, asInt, isK, kindEq, isArgB, strOf, cBig, cInts, cWords, allInts, allWords, r_ofLimbs, r_mkWord, Option.some.injEq, LV.wide.injEq, LV.word.injEq, LV.int.injEq, LV.bool.injEq, LV.str.injEq, LV.big.injEq, LV.tup.injEq, LV.agg.injEq, List.cons.injEq, and_true, true_and]
      refine ⟨?_, hok.symm⟩
      rw [g2]; unfold mkW; rw [hok, hn]; rfl
    · simp only [kR, canon, canons, ekEq, numE, getW, getWord, allInts8, asInt, isK, kindEq, isArgB, strOf, cBig, cInts, cWords, allInts, allWords, r_ofLimbs, r_mkWord, Option.some.injEq, LV.wide.injEq, LV.word.injEq, LV.int.injEq, LV.bool.injEq, LV.str.injEq, LV.big.injEq, LV.tup.injEq, LV.agg.injEq, List.cons.injEq, and_true, true_and]
      refine ⟨?_, hok.symm⟩
      rw [g1]; unfold mkW; rw [hok, hn]; rfl
end Go.LE