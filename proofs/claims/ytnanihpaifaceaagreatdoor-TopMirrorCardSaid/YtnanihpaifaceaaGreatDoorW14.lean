import Derived.Test.YtnanihpaifaceaaGreatDoorW13
import Derived.Test.YtnanihpaifaceaaGreatDoorLeO
set_option linter.unusedVariables false
set_option linter.unusedSimpArgs false
namespace Go.LE
open Go Go.Proofs
structure OpsI where
  nanW : Int → BitVec 128
  inv : Int → Int
noncomputable def ropsI : OpsI where
  nanW := fun f => fNaN f
  inv := fun f => bif fOk f then 1 else 0
def s_none10 (S : OpsI) : List LV → R LV
  | [.int _ f] => .ok (.tup [.word (S.nanW f), .int .i64 (S.inv f)])
  | _ => .fail
def s_awake10 (_ : OpsI) : List LV → R LV := fun _ => .ok (.bool true)
def s_NanQuiets (_ : OpsI) : List LV → R LV := fun _ => .ok (.bool true)
def s_NanOf (_ : OpsI) : List LV → R LV := fun _ => .ok (.bool true)
def s_of10 (S : OpsG) : List LV → R LV
  | [.int _ f, .words l] => .ok (.tup [.word (S.nanV f l), .int .i64 (S.nanX f l), .bool (S.nanIs f l)])
  | _ => .fail
theorem p_none10 : SpecOk Tryz.prog globs 55 (mkSpec real [.int .i64] (s_none10 ropsI)) := by
  have hfns : FnsOk Tryz.prog globs [(41, .spec (mkSpec real [.int .i64] (s_fmtOf rops))), (80, .spec (mkSpec real [.int .i64] (s_nanW rops)))] := (fnsCons (fnSpec (p_fmtOf)) (fnsCons (fnSpec (p_nanW)) fnsNil))
  refine spec0 hfns (by kernel_rfl) Tryz.func55 (by kernel_rfl) (by kernel_rfl) (by kernel_rfl) 4 _ _ (.tup [.word, .int .i64]) ?_
  clear hfns
  generalize hEE : env0 [(41, .spec (mkSpec real [.int .i64] (s_fmtOf rops))), (80, .spec (mkSpec real [.int .i64] (s_nanW rops)))] = EE
  intro l r hl hr
  simp only [Forms, Form] at hl
  obtain ⟨_, _, rfl, ⟨x1, rfl, x1lo, x1hi⟩, rfl⟩ := hl
  subst hEE
  generalize hK : kR (.tup [.word, .int .i64]) r = K
  generalize hO : real = O
  generalize hS0 : rops = S0
  generalize hS1 : ropsB = S1
  generalize hS2 : ropsC = S2
  generalize hS3 : ropsD = S3
  generalize hS4 : ropsE = S4
  generalize hS5 : ropsF = S5
  generalize hS6 : ropsG = S6
  generalize hS7 : ropsH = S7
  generalize hS8 : ropsI = S8
  set_option maxRecDepth 100000 in cbv
  subst hO hK hS0 hS1 hS2 hS3 hS4 hS5 hS6 hS7 hS8
  simp only [s_none10, R.Y] at hr
  subst hr
  try dsimp only [real, rops, ropsB, ropsC, ropsD, ropsE, ropsF, ropsG, ropsH, ropsI]
  refine ⟨imp_f fun h => ?_, imp_t fun h => ?_⟩
  · have h : fOk x1 = false := by simpa using h
    have e : fNaN x1 = 0 := by
      unfold fNaN fWordOf
      rw [if_neg (by unfold fOk at h; simpa using h)]
    rw [h, e]
    simp only [kR, canon, canons, ekEq, numE, getW, getWord, allInts8, asInt, isK, kindEq, isArgB, strOf, cBig, cInts, cWords, allInts, allWords, r_ofLimbs, r_mkWord, Option.some.injEq, LV.wide.injEq, LV.word.injEq, LV.int.injEq, LV.bool.injEq, LV.str.injEq, LV.big.injEq, LV.tup.injEq, LV.agg.injEq, List.cons.injEq, and_true, true_and]
    exact ⟨rfl, rfl⟩
  · have h : fOk x1 = true := by simpa using h
    rw [h]
    simp only [kR, canon, canons, ekEq, numE, getW, getWord, allInts8, asInt, isK, kindEq, isArgB, strOf, cBig, cInts, cWords, allInts, allWords, r_ofLimbs, r_mkWord, Option.some.injEq, LV.wide.injEq, LV.word.injEq, LV.int.injEq, LV.bool.injEq, LV.str.injEq, LV.big.injEq, LV.tup.injEq, LV.agg.injEq, List.cons.injEq, and_true, true_and]
    rfl
end Go.LE
namespace Go.LE
open Go Go.Proofs
structure OpsJ where
  cnt : Int → List (BitVec 128) → Int → Int
noncomputable def ropsJ : OpsJ where
  cnt := cntC
def cntT : Ty := .arr 7 (.int .i64)
def s_count (S : OpsJ) : List LV → R LV
  | [.int _ f, .words l] => .ok (.agg [.int .i64 (S.cnt f l 0), .int .i64 (S.cnt f l 1), .int .i64 (S.cnt f l 2), .int .i64 (S.cnt f l 3), .int .i64 (S.cnt f l 4), .int .i64 (S.cnt f l 5), .int .i64 (S.cnt f l 6)])
  | _ => .fail
def s_ClassCounts (_ : OpsJ) : List LV → R LV := fun _ => .ok (.bool true)
end Go.LE
namespace Go.LE
open Go Go.Proofs
structure OpsK where
  wn : W → Nat
  pow : Int → Nat
  rgt : Int → Bool
  yes : Int → Prop
  isC : Int → BitVec 128 → Int → Prop
  okS : Int → Prop
  wthW : Int → Bool → W → BitVec 128
  wthOk : Int → W → Bool
noncomputable def ropsK : OpsK where
  wn := fun a => a.toNat
  pow := fun n => 2 ^ n.toNat
  rgt := fun e => decide (-1048576 ≤ e ∧ e ≤ 1048576)
  yes := fun f => fOk f = true
  isC := fun f w c => cls f w = c
  okS := fun n => 0 ≤ n ∧ n ≤ 17179869184
  wthW := wthW
  wthOk := wthOk
def s_big02 (S : OpsK) : List LV → R LV
  | [.wide a] => .ok (.big (S.wn a))
  | _ => .fail
def s_power02 (S : OpsK) : List LV → R LV
  | [.int _ n] => .req (S.okS n) (.ok (.big (S.pow n)))
  | _ => .fail
def s_with10 (S : OpsK) : List LV → R LV
  | [.int _ f, .bool b, .wide p] => .ok (.tup [.word (S.wthW f b p), .bool (S.wthOk f p)])
  | _ => .fail
def s_right07 (S : OpsK) : List LV → R LV
  | [.agg [_, .int _ e, _]] => .ok (.bool (S.rgt e))
  | _ => .fail
def s_right (S : OpsK) : List LV → R LV
  | [.agg [_, .int _ e, _]] => .ok (.bool (S.rgt e))
  | _ => .fail
def s_ClassMakes (_ : OpsK) : List LV → R LV := fun _ => .ok (.bool true)
def s_NanPayloads (_ : OpsK) : List LV → R LV := fun _ => .ok (.bool true)
theorem rgt_leq {e : Int} (h : -1048576 ≤ e) : cmpR .leq e 1048576 = decide (-1048576 ≤ e ∧ e ≤ 1048576) := by
  cases h2 : cmpR .leq e 1048576 with
  | true => rw [c_leq_t] at h2; exact (decide_eq_true ⟨h, h2⟩).symm
  | false => rw [c_leq_f] at h2; exact (decide_eq_false (by omega)).symm
theorem rgt_no {e : Int} (h : e < -1048576) : decide (-1048576 ≤ e ∧ e ≤ 1048576) = false := decide_eq_false (by omega)
theorem p_right : SpecOk Tryz.prog globs 125 (mkSpec real [.st [.bool, .int .i64, .wide]] (s_right ropsK)) := by
  have hfns : FnsOk Tryz.prog globs [] := fnsNil
  refine spec0 hfns (by kernel_rfl) Tryz.func125 (by kernel_rfl) (by kernel_rfl) (by kernel_rfl) 4 _ _ (.bool) ?_
  clear hfns
  generalize hEE : env0 [] = EE
  intro l r hl hr
  simp only [Forms, Form] at hl
  obtain ⟨_, _, rfl, ⟨_, rfl, ⟨_, _, rfl, ⟨x1_1, rfl⟩, _, _, rfl, ⟨x1_2, rfl, x1_2lo, x1_2hi⟩, _, _, rfl, ⟨x1_3, rfl⟩, rfl⟩⟩, rfl⟩ := hl
  subst hEE
  generalize hK : kR (.bool) r = K
  generalize hO : real = O
  set_option maxRecDepth 100000 in cbv
  subst hO hK 
  simp only [s_right, R.Y] at hr
  subst hr
  try dsimp only [real, rops, ropsB, ropsC, ropsD, ropsE, ropsF, ropsG, ropsH, ropsI, ropsJ, ropsK]
  refine ⟨imp_f fun h => ?_, imp_t fun h => ?_⟩
  · rw [c_geq_t] at h
    simp only [kR, canon, canons, ekEq, numE, getW, getWord, allInts8, asInt, isK, kindEq, isArgB, strOf, cBig, cInts, cWords, allInts, allWords, r_ofLimbs, r_mkWord, Option.some.injEq, LV.wide.injEq, LV.word.injEq, LV.int.injEq, LV.bool.injEq, LV.str.injEq, LV.big.injEq, LV.tup.injEq, LV.agg.injEq, List.cons.injEq, and_true, true_and]
    exact rgt_leq h
  · rw [c_geq_f] at h
    simp only [kR, canon, canons, ekEq, numE, getW, getWord, allInts8, asInt, isK, kindEq, isArgB, strOf, cBig, cInts, cWords, allInts, allWords, r_ofLimbs, r_mkWord, Option.some.injEq, LV.wide.injEq, LV.word.injEq, LV.int.injEq, LV.bool.injEq, LV.str.injEq, LV.big.injEq, LV.tup.injEq, LV.agg.injEq, List.cons.injEq, and_true, true_and]
    exact (rgt_no h).symm
def s_ClassMakesN (S : OpsB) : List LV → R LV
  | [.agg [.int _ f, _, _, _], _] => .req (S.notF f) (.ok (.bool true))
  | _ => .fail
def s_ClassMakesY (c : Int) (S : OpsK) : List LV → R LV
  | [.agg [.int _ f, _, _, _], .word w] => .req (S.yes f) (.req (S.isC f w c) (.ok (.bool true)))
  | _ => .fail
def s_ClassMakesYes (S : OpsK) : List LV → R LV
  | [.agg [.int _ f, _, _, _], .word w] => .req (S.yes f) (.ok (.bool true))
  | _ => .fail
end Go.LE
namespace Go.LE
open Go Go.Proofs
end Go.LE