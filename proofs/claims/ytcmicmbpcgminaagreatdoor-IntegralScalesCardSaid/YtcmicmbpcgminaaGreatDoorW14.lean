import Derived.Test.YtcmicmbpcgminaaGreatDoorW13
import Derived.Test.YtcmicmbpcgminaaGreatDoorLeO
set_option linter.unusedVariables false
set_option linter.unusedSimpArgs false
namespace Go.LE
open Go Go.Proofs
structure OpsI where
  nanW : Int → BitVec 128
  inv : Int → Int
noncomputable def ropsI : OpsI where
  nanW := fun f => fNaN f
  inv := fun f => bif fOk f then 1 else 0
def s_none10 (S : OpsI) : List LV → R LV
  | [.int _ f] => .ok (.tup [.word (S.nanW f), .int .i64 (S.inv f)])
  | _ => .fail
def s_awake10 (_ : OpsI) : List LV → R LV := fun _ => .ok (.bool true)
def s_NanQuiets (_ : OpsI) : List LV → R LV := fun _ => .ok (.bool true)
def s_NanOf (_ : OpsI) : List LV → R LV := fun _ => .ok (.bool true)
def s_of10 (S : OpsG) : List LV → R LV
  | [.int _ f, .words l] => .ok (.tup [.word (S.nanV f l), .int .i64 (S.nanX f l), .bool (S.nanIs f l)])
  | _ => .fail
theorem p_none10 : SpecOk Tryz.prog globs 114 (mkSpec real [.int .i64] (s_none10 ropsI)) := by
  have hfns : FnsOk Tryz.prog globs [(79, .spec (mkSpec real [.int .i64] (s_fmtOf rops))), (161, .spec (mkSpec real [.int .i64] (s_nanW rops)))] := (fnsCons (fnSpec (p_fmtOf)) (fnsCons (fnSpec (p_nanW)) fnsNil))
  refine spec0 hfns (by kernel_rfl) Tryz.func114 (by kernel_rfl) (by kernel_rfl) (by kernel_rfl) 4 _ _ (.tup [.word, .int .i64]) ?_
  clear hfns
  generalize hEE : env0 [(79, .spec (mkSpec real [.int .i64] (s_fmtOf rops))), (161, .spec (mkSpec real [.int .i64] (s_nanW rops)))] = EE
  intro l r hl hr
  simp only [Forms, Form] at hl
  obtain ⟨_, _, rfl, ⟨x1, rfl, x1lo, x1hi⟩, rfl⟩ := hl
  subst hEE
  generalize hK : kR (.tup [.word, .int .i64]) r = K
  generalize hO : real = O
  generalize hS0 : rops = S0
  generalize hS1 : ropsB = S1
  generalize hS2 : ropsC = S2
  generalize hS3 : ropsD = S3
  generalize hS4 : ropsE = S4
  generalize hS5 : ropsF = S5
  generalize hS6 : ropsG = S6
  generalize hS7 : ropsH = S7
  generalize hS8 : ropsI = S8
  set_option maxRecDepth 100000 in cbv
  subst hO hK hS0 hS1 hS2 hS3 hS4 hS5 hS6 hS7 hS8
  simp only [s_none10, R.Y] at hr
  subst hr
  try dsimp only [real, rops, ropsB, ropsC, ropsD, ropsE, ropsF, ropsG, ropsH, ropsI]
  refine ⟨imp_f fun h => ?_, imp_t fun h => ?_⟩
  · have h : fOk x1 = false := by simpa using h
    have e : fNaN x1 = 0 := by
      unfold fNaN fWordOf
      rw [if_neg (by unfold fOk at h; simpa using h)]
    rw [h, e]
    simp only [kR, canon, canons, ekEq, numE, getW, getWord, allInts8, asInt, isK, kindEq, isArgB, strOf, cBig, cInts, cWords, allInts, allWords, r_ofLimbs, r_mkWord, Option.some.injEq, LV.wide.injEq, LV.word.injEq, LV.int.injEq, LV.bool.injEq, LV.str.injEq, LV.big.injEq, LV.tup.injEq, LV.agg.injEq, List.cons.injEq, and_true, true_and]
    exact ⟨rfl, rfl⟩
  · have h : fOk x1 = true := by simpa using h
    rw [h]
    simp only [kR, canon, canons, ekEq, numE, getW, getWord, allInts8, asInt, isK, kindEq, isArgB, strOf, cBig, cInts, cWords, allInts, allWords, r_ofLimbs, r_mkWord, Option.some.injEq, LV.wide.injEq, LV.word.injEq, LV.int.injEq, LV.bool.injEq, LV.str.injEq, LV.big.injEq, LV.tup.injEq, LV.agg.injEq, List.cons.injEq, and_true, true_and]
    rfl
theorem p_of10 : SpecOk Tryz.prog globs 60 (mkSpec real [.int .i64, .words] (s_of10 ropsG)) := by
  have hfns : FnsOk Tryz.prog globs [(9, .spec (mkSpec real [.int .i64, .word] (s_class06 ropsC))), (109, .spec (mkSpec real [.int .i64, .word] (s_quieted10 ropsF)))] := (fnsCons (fnSpec (p_class06)) (fnsCons (fnSpec (p_quieted10)) fnsNil))
  refine specL (fun _ => [0,1,4,7,8,9,10]) hfns (by kernel_rfl) Tryz.func60 (by kernel_rfl) (by kernel_rfl) (by kernel_rfl) 4 _ _ (.tup [.word, .int .i64, .bool]) ?_
  clear hfns
  generalize hEE : envL (fun _ => [0,1,4,7,8,9,10]) [(9, .spec (mkSpec real [.int .i64, .word] (s_class06 ropsC))), (109, .spec (mkSpec real [.int .i64, .word] (s_quieted10 ropsF)))] = EE
  intro l r hl hr
  simp only [Forms, Form] at hl
  obtain ⟨_, _, rfl, ⟨x1, rfl, x1lo, x1hi⟩, _, _, rfl, ⟨x2, rfl, x2len⟩, rfl⟩ := hl
  subst hEE
  generalize hK : kR (.tup [.word, .int .i64, .bool]) r = K
  generalize hO : real = O
  generalize hS0 : rops = S0
  generalize hS1 : ropsB = S1
  generalize hS2 : ropsC = S2
  generalize hS3 : ropsD = S3
  generalize hS4 : ropsE = S4
  generalize hS5 : ropsF = S5
  generalize hS6 : ropsG = S6
  generalize hS7 : ropsH = S7
  generalize hS8 : ropsI = S8
  set_option maxRecDepth 100000 in cbv
  have hr : r = _ := hr.symm
  subst hO hK hS0 hS1 hS2 hS3 hS4 hS5 hS6 hS7 hS8
  subst hr
  have h7 : ((x2.length : Nat) : Int) < 4611686018427387904 := x2len
  have hst : arithR .sub .i64 ((x2.length : Nat) : Int) 1 = ((x2.length : Nat) : Int) - 1 := sub_i64 (by omega) (by omega)
  refine loop_rule (α := BitVec 128 × BitVec 128 × Int × Bool × Int) (fun p => ⟨[.int .i64 x1, .words x2, .undef, .undef, .ptr 0 0, .undef, .undef, .ptr 3 0, .int .i64 p.2.2.1, .bool p.2.2.2.1, .int .i64 p.2.2.2.2, .undef, .undef, .undef, .undef, .undef, .undef, .undef, .undef, .undef, .undef, .undef, .undef, .undef, .undef, .undef, .undef, .undef, .undef, .undef, .undef, .undef, .undef, .undef, .undef, .undef, .undef, .undef, .undef, .undef, .undef, .undef], ofL [some (wordT, .word p.1), none, none, some (wordT, .word p.2.1), none, none, none, none, none, none], 10⟩)
    (fun m p => -1 ≤ p.2.2.2.2 ∧ p.2.2.2.2 < ((x2.length : Nat) : Int) ∧ p.2.1 = nanV x1 (x2.drop (p.2.2.2.2 + 1).toNat) ∧ p.2.2.1 = nanX x1 (x2.drop (p.2.2.2.2 + 1).toNat) ∧ p.2.2.2.1 = nanIs x1 (x2.drop (p.2.2.2.2 + 1).toNat) ∧ p.2.2.2.2 < ((m : Nat) : Int)) ?_ x2.length (real.mkWord 0 0, real.mkWord 0 0, 0, false, real.arith .sub .i64 (real.lenW x2) 1) ?_
  · rintro m ⟨b0, b3, fl, is, i⟩ X ⟨h1, h2, h3, h4, h5, h6⟩ hX
    (generalize hK : kR _ _ = K; generalize hO : real = O; generalize hS0 : rops = S0; generalize hS1 : ropsB = S1; generalize hS2 : ropsC = S2; generalize hS3 : ropsD = S3; generalize hS4 : ropsE = S4; generalize hS5 : ropsF = S5; generalize hS6 : ropsG = S6; generalize hS7 : ropsH = S7; generalize hS8 : ropsI = S8; set_option maxRecDepth 100000 in cbv; subst hO hK hS0 hS1 hS2 hS3 hS4 hS5 hS6 hS7 hS8; dsimp only [real, rops, ropsB, ropsC, ropsD, ropsE, ropsF, ropsG, ropsH, ropsI])
    have k1 : -1 ≤ i := h1
    have k2 : i < ((x2.length : Nat) : Int) := h2
    have k3 : b3 = nanV x1 (x2.drop (i + 1).toNat) := h3
    have k4 : fl = nanX x1 (x2.drop (i + 1).toNat) := h4
    have k5 : is = nanIs x1 (x2.drop (i + 1).toNat) := h5
    have k6 : i < ((m : Nat) : Int) := h6
    have k7 : ((x2.length : Nat) : Int) < 4611686018427387904 := x2len
    clear h1 h2 h3 h4 h5 h6
    refine ⟨imp_f fun h => ?_, imp_t fun h => ?_⟩
    · rw [c_geq_t] at h
      have e3 : arithR .sub .i64 i 1 = i - 1 := sub_i64 (by omega) (by omega)
      rw [e3]
      have hm : m = (m - 1) + 1 := by omega
      have hc2 : i - 1 < ((m - 1 : Nat) : Int) := by omega
      have hd : x2.drop (i - 1 + 1).toNat = x2.getD i.toNat 0#128 :: x2.drop (i + 1).toNat := by
        have := drop_at (l := x2) (i := i.toNat) (by omega)
        rw [show (i - 1 + 1).toNat = i.toNat by omega, this, show (i + 1).toNat = i.toNat + 1 by omega]
      obtain ⟨s1, s2, s3⟩ := nan_step (f := x1) (w := x2.getD i.toNat 0#128) (x2.drop (i + 1).toNat)
      have go : ∀ v x n, v = nanV x1 (x2.getD i.toNat 0#128 :: x2.drop (i + 1).toNat) → x = nanX x1 (x2.getD i.toNat 0#128 :: x2.drop (i + 1).toNat) → n = nanIs x1 (x2.getD i.toNat 0#128 :: x2.drop (i + 1).toNat) → X ⟨[.int .i64 x1, .words x2, .undef, .undef, .ptr 0 0, .undef, .undef, .ptr 3 0, .int .i64 x, .bool n, .int .i64 (i - 1), .undef, .undef, .undef, .undef, .undef, .undef, .undef, .undef, .undef, .undef, .undef, .undef, .undef, .undef, .undef, .undef, .undef, .undef, .undef, .undef, .undef, .undef, .undef, .undef, .undef, .undef, .undef, .undef, .undef, .undef, .undef], ofL [some (wordT, .word b0), none, none, some (wordT, .word v), none, none, none, none, none, none], 10⟩ := fun v x n e1 e2 e3 =>
        hX (m - 1) (b0, v, x, n, i - 1) hm ⟨by show -1 ≤ i - 1; omega, by show i - 1 < ((x2.length : Nat) : Int); omega, by show v = nanV x1 (x2.drop (i - 1 + 1).toNat); rw [hd]; exact e1, by show x = nanX x1 (x2.drop (i - 1 + 1).toNat); rw [hd]; exact e2, by show n = nanIs x1 (x2.drop (i - 1 + 1).toNat); rw [hd]; exact e3, hc2⟩
      have hii : 0 ≤ i ∧ i < ((x2.length : Nat) : Int) := ⟨h, k2⟩
      refine ⟨hii, imp_f fun g1 => ?_, imp_t fun g1 => ?_⟩
      · rw [c_eql_t] at g1
        obtain ⟨e1, e2, e3⟩ := s1 g1
        refine ⟨imp_f fun _ => ⟨hii, go _ _ _ e1.symm e2.symm e3.symm⟩, imp_t fun g2 => ?_⟩
        rw [c_eql_f] at g2; exact absurd g1 g2
      · rw [c_eql_f] at g1
        refine ⟨imp_f fun g2 => ?_, imp_t fun g2 => ⟨imp_f fun g3 => ?_, imp_t fun g3 => ?_⟩⟩
        · rw [c_eql_t] at g2; exact absurd g2 g1
        · rw [c_eql_t] at g3
          obtain ⟨e1, e2, e3⟩ := s2 g3
          exact ⟨hii, go _ _ _ e1.symm (k4.trans e2.symm) e3.symm⟩
        · rw [c_eql_f] at g3
          obtain ⟨e1, e2, e3⟩ := s3 g1 g3
          exact go _ _ _ (k3.trans e1.symm) (k4.trans e2.symm) (k5.trans e3.symm)
    · rw [c_geq_f] at h
      have hi : i = -1 := by omega
      subst hi
      simp only [kR, canon, canons, ekEq, numE, getW, getWord, allInts8, asInt, isK, kindEq, isArgB, strOf, cBig, cInts, cWords, allInts, allWords, r_ofLimbs, r_mkWord, Option.some.injEq, LV.wide.injEq, LV.word.injEq, LV.int.injEq, LV.bool.injEq, LV.str.injEq, LV.big.injEq, LV.tup.injEq, LV.agg.injEq, List.cons.injEq, and_true, true_and]
      rw [k3, k4, k5]
      exact ⟨rfl, rfl, rfl⟩
  · have hv : ∀ v : Int, v = ((x2.length : Nat) : Int) - 1 → (-1 ≤ v ∧ v < ((x2.length : Nat) : Int) ∧ real.mkWord 0 0 = nanV x1 (x2.drop (v + 1).toNat) ∧ (0 : Int) = nanX x1 (x2.drop (v + 1).toNat) ∧ false = nanIs x1 (x2.drop (v + 1).toNat) ∧ v < ((x2.length : Nat) : Int)) := by
      intro v hv
      subst hv
      have : x2.drop (((x2.length : Nat) : Int) - 1 + 1).toNat = [] := by rw [List.drop_eq_nil_iff]; omega
      rw [this]
      exact ⟨by omega, by omega, rfl, rfl, rfl, by omega⟩
    exact hv _ hst
end Go.LE
namespace Go.LE
open Go Go.Proofs
structure OpsJ where
  cnt : Int → List (BitVec 128) → Int → Int
noncomputable def ropsJ : OpsJ where
  cnt := cntC
def cntT : Ty := .arr 7 (.int .i64)
def s_count (S : OpsJ) : List LV → R LV
  | [.int _ f, .words l] => .ok (.agg [.int .i64 (S.cnt f l 0), .int .i64 (S.cnt f l 1), .int .i64 (S.cnt f l 2), .int .i64 (S.cnt f l 3), .int .i64 (S.cnt f l 4), .int .i64 (S.cnt f l 5), .int .i64 (S.cnt f l 6)])
  | _ => .fail
def s_ClassCounts (_ : OpsJ) : List LV → R LV := fun _ => .ok (.bool true)
end Go.LE
namespace Go.LE
open Go Go.Proofs
structure OpsK where
  wn : W → Nat
  pow : Int → Nat
  rgt : Int → Bool
  yes : Int → Prop
  isC : Int → BitVec 128 → Int → Prop
  okS : Int → Prop
  wthW : Int → Bool → W → BitVec 128
  wthOk : Int → W → Bool
noncomputable def ropsK : OpsK where
  wn := fun a => a.toNat
  pow := fun n => 2 ^ n.toNat
  rgt := fun e => decide (-1048576 ≤ e ∧ e ≤ 1048576)
  yes := fun f => fOk f = true
  isC := fun f w c => cls f w = c
  okS := fun n => 0 ≤ n ∧ n ≤ 17179869184
  wthW := wthW
  wthOk := wthOk
def s_big02 (S : OpsK) : List LV → R LV
  | [.wide a] => .ok (.big (S.wn a))
  | _ => .fail
def s_power02 (S : OpsK) : List LV → R LV
  | [.int _ n] => .req (S.okS n) (.ok (.big (S.pow n)))
  | _ => .fail
def s_with10 (S : OpsK) : List LV → R LV
  | [.int _ f, .bool b, .wide p] => .ok (.tup [.word (S.wthW f b p), .bool (S.wthOk f p)])
  | _ => .fail
def s_right07 (S : OpsK) : List LV → R LV
  | [.agg [_, .int _ e, _]] => .ok (.bool (S.rgt e))
  | _ => .fail
def s_right (S : OpsK) : List LV → R LV
  | [.agg [_, .int _ e, _]] => .ok (.bool (S.rgt e))
  | _ => .fail
def s_ClassMakes (_ : OpsK) : List LV → R LV := fun _ => .ok (.bool true)
def s_NanPayloads (_ : OpsK) : List LV → R LV := fun _ => .ok (.bool true)
theorem rgt_leq {e : Int} (h : -1048576 ≤ e) : cmpR .leq e 1048576 = decide (-1048576 ≤ e ∧ e ≤ 1048576) := by
  cases h2 : cmpR .leq e 1048576 with
  | true => rw [c_leq_t] at h2; exact (decide_eq_true ⟨h, h2⟩).symm
  | false => rw [c_leq_f] at h2; exact (decide_eq_false (by omega)).symm
theorem rgt_no {e : Int} (h : e < -1048576) : decide (-1048576 ≤ e ∧ e ≤ 1048576) = false := decide_eq_false (by omega)
set_option exponentiation.threshold 600 in
theorem p_big02 : SpecOk Tryz.prog globs 20 (mkSpec real [.wide] (s_big02 ropsK)) := by
  have hfns : FnsOk Tryz.prog globs [(57, .spec (mkSpec real [.int .u64] (s_small01 ropsH))), (56, .spec (mkSpec real [.big, .int .i64] (s_shl01 ropsH))), (55, .spec (mkSpec real [.big, .big] (s_add01 ropsH)))] := (fnsCons (fnSpec (p_small01)) (fnsCons (fnSpec (p_shl01)) (fnsCons (fnSpec (p_add01)) fnsNil)))
  refine spec0 hfns (by kernel_rfl) Tryz.func20 (by kernel_rfl) (by kernel_rfl) (by kernel_rfl) 4 _ _ (.big) ?_
  clear hfns
  generalize hEE : env0 [(57, .spec (mkSpec real [.int .u64] (s_small01 ropsH))), (56, .spec (mkSpec real [.big, .int .i64] (s_shl01 ropsH))), (55, .spec (mkSpec real [.big, .big] (s_add01 ropsH)))] = EE
  intro l r hl hr
  simp only [Forms, Form] at hl
  obtain ⟨_, _, rfl, ⟨x1, rfl⟩, rfl⟩ := hl
  subst hEE
  generalize hK : kR (.big) r = K
  generalize hO : real = O
  generalize hS0 : rops = S0
  generalize hS1 : ropsB = S1
  generalize hS2 : ropsC = S2
  generalize hS3 : ropsD = S3
  generalize hS4 : ropsE = S4
  generalize hS5 : ropsF = S5
  generalize hS6 : ropsG = S6
  generalize hS7 : ropsH = S7
  generalize hS8 : ropsI = S8
  generalize hS9 : ropsJ = S9
  generalize hS10 : ropsK = S10
  set_option maxRecDepth 100000 in cbv
  subst hO hK hS0 hS1 hS2 hS3 hS4 hS5 hS6 hS7 hS8 hS9 hS10
  simp only [s_big02, R.Y] at hr
  subst hr
  try dsimp only [real, rops, ropsB, ropsC, ropsD, ropsE, ropsF, ropsG, ropsH, ropsI, ropsJ, ropsK]
  have l0 := small_low x1 0
  have s0 := small_limbs x1 0
  rw [wideLow_0] at l0
  simp only [Nat.mul_zero, Nat.pow_zero, Nat.mul_one] at s0
  have e0 := wideLow_step x1 0
  rw [wideLow_0] at e0
  simp only [Nat.mul_zero, Nat.pow_zero, Nat.mul_one] at e0
  have c1 : Int.toNat 64 = 64 := rfl
  have c2 : Int.toNat 128 = 128 := rfl
  have c3 : Int.toNat 192 = 192 := rfl
  have c4 : Int.toNat 256 = 256 := rfl
  have c5 : Int.toNat 320 = 320 := rfl
  have c6 : Int.toNat 384 = 384 := rfl
  have c7 : Int.toNat 448 = 448 := rfl
  have c0 : Int.toNat 0 = 0 := rfl
  rw [c0, c1, c2, c3, c4, c5, c6, c7, Nat.pow_zero, Nat.mul_one, e0, show (64 : Nat) = 64 * 1 from rfl, show (128 : Nat) = 64 * 2 from rfl, show (192 : Nat) = 64 * 3 from rfl, show (256 : Nat) = 64 * 4 from rfl, show (320 : Nat) = 64 * 5 from rfl, show (384 : Nat) = 64 * 6 from rfl, show (448 : Nat) = 64 * 7 from rfl]
  rw [wideLow_step, wideLow_step, wideLow_step, wideLow_step, wideLow_step, wideLow_step, wideLow_step, wideLow_8]
  have h2 := fun i => small_low x1 i
  have h3 := fun i => small_limb x1 i
  have h4 := fun i => small_limbs x1 i
  refine ⟨h3 0, by decide, l0, s0, h3 1, by decide, h2 _, h4 1, h3 2, by decide, h2 _, h4 2, h3 3, by decide, h2 _, h4 3, h3 4, by decide, h2 _, h4 4, h3 5, by decide, h2 _, h4 5, h3 6, by decide, h2 _, h4 6, h3 7, by decide, h2 _, h4 7, ?_⟩
  simp only [kR, canon, canons, ekEq, numE, getW, getWord, allInts8, asInt, isK, kindEq, isArgB, strOf, cBig, cInts, cWords, allInts, allWords, r_ofLimbs, r_mkWord, Option.some.injEq, LV.wide.injEq, LV.word.injEq, LV.int.injEq, LV.bool.injEq, LV.str.injEq, LV.big.injEq, LV.tup.injEq, LV.agg.injEq, List.cons.injEq, and_true, true_and]
theorem p_right : SpecOk Tryz.prog globs 80 (mkSpec real [.st [.bool, .int .i64, .wide]] (s_right ropsK)) := by
  have hfns : FnsOk Tryz.prog globs [] := fnsNil
  refine spec0 hfns (by kernel_rfl) Tryz.func80 (by kernel_rfl) (by kernel_rfl) (by kernel_rfl) 4 _ _ (.bool) ?_
  clear hfns
  generalize hEE : env0 [] = EE
  intro l r hl hr
  simp only [Forms, Form] at hl
  obtain ⟨_, _, rfl, ⟨_, rfl, ⟨_, _, rfl, ⟨x1_1, rfl⟩, _, _, rfl, ⟨x1_2, rfl, x1_2lo, x1_2hi⟩, _, _, rfl, ⟨x1_3, rfl⟩, rfl⟩⟩, rfl⟩ := hl
  subst hEE
  generalize hK : kR (.bool) r = K
  generalize hO : real = O
  set_option maxRecDepth 100000 in cbv
  subst hO hK 
  simp only [s_right, R.Y] at hr
  subst hr
  try dsimp only [real, rops, ropsB, ropsC, ropsD, ropsE, ropsF, ropsG, ropsH, ropsI, ropsJ, ropsK]
  refine ⟨imp_f fun h => ?_, imp_t fun h => ?_⟩
  · rw [c_geq_t] at h
    simp only [kR, canon, canons, ekEq, numE, getW, getWord, allInts8, asInt, isK, kindEq, isArgB, strOf, cBig, cInts, cWords, allInts, allWords, r_ofLimbs, r_mkWord, Option.some.injEq, LV.wide.injEq, LV.word.injEq, LV.int.injEq, LV.bool.injEq, LV.str.injEq, LV.big.injEq, LV.tup.injEq, LV.agg.injEq, List.cons.injEq, and_true, true_and]
    exact rgt_leq h
  · rw [c_geq_f] at h
    simp only [kR, canon, canons, ekEq, numE, getW, getWord, allInts8, asInt, isK, kindEq, isArgB, strOf, cBig, cInts, cWords, allInts, allWords, r_ofLimbs, r_mkWord, Option.some.injEq, LV.wide.injEq, LV.word.injEq, LV.int.injEq, LV.bool.injEq, LV.str.injEq, LV.big.injEq, LV.tup.injEq, LV.agg.injEq, List.cons.injEq, and_true, true_and]
    exact (rgt_no h).symm
def s_ClassMakesN (S : OpsB) : List LV → R LV
  | [.agg [.int _ f, _, _, _], _] => .req (S.notF f) (.ok (.bool true))
  | _ => .fail
def s_ClassMakesY (c : Int) (S : OpsK) : List LV → R LV
  | [.agg [.int _ f, _, _, _], .word w] => .req (S.yes f) (.req (S.isC f w c) (.ok (.bool true)))
  | _ => .fail
def s_ClassMakesYes (S : OpsK) : List LV → R LV
  | [.agg [.int _ f, _, _, _], .word w] => .req (S.yes f) (.ok (.bool true))
  | _ => .fail
end Go.LE
namespace Go.LE
open Go Go.Proofs
theorem p_with10 : SpecOk Tryz.prog globs 138 (mkSpec real [.int .i64, .bool, .wide] (s_with10 ropsK)) := by
  have hfns : FnsOk Tryz.prog globs [(79, .spec (mkSpec real [.int .i64] (s_fmtOf rops))), (99, .spec (mkSpec real [.wide] (s_wLen rops))), (175, .spec (mkSpec real [.int .i64] (s_high ropsF))), (86, .spec (mkSpec real [.int .i64] (s_power rops))), (124, .spec (mkSpec real [.wide, .wide] (s_wAdd rops))), (84, .spec (mkSpec real [.int .i64, .bool, .int .i64, .wide] (s_make ropsD)))] := (fnsCons (fnSpec (p_fmtOf)) (fnsCons (fnSpec (p_wLen)) (fnsCons (fnSpec (p_high)) (fnsCons (fnSpec (p_power)) (fnsCons (fnSpec (p_wAdd)) (fnsCons (fnSpec (p_make)) fnsNil))))))
  refine spec0 hfns (by kernel_rfl) Tryz.func138 (by kernel_rfl) (by kernel_rfl) (by kernel_rfl) 4 _ _ (.tup [.word, .bool]) ?_
  clear hfns
  generalize hEE : env0 [(79, .spec (mkSpec real [.int .i64] (s_fmtOf rops))), (99, .spec (mkSpec real [.wide] (s_wLen rops))), (175, .spec (mkSpec real [.int .i64] (s_high ropsF))), (86, .spec (mkSpec real [.int .i64] (s_power rops))), (124, .spec (mkSpec real [.wide, .wide] (s_wAdd rops))), (84, .spec (mkSpec real [.int .i64, .bool, .int .i64, .wide] (s_make ropsD)))] = EE
  intro l r hl hr
  simp only [Forms, Form] at hl
  obtain ⟨_, _, rfl, ⟨x1, rfl, x1lo, x1hi⟩, _, _, rfl, ⟨x2, rfl⟩, _, _, rfl, ⟨x3, rfl⟩, rfl⟩ := hl
  subst hEE
  generalize hK : kR (.tup [.word, .bool]) r = K
  generalize hO : real = O
  generalize hS0 : rops = S0
  generalize hS1 : ropsB = S1
  generalize hS2 : ropsC = S2
  generalize hS3 : ropsD = S3
  generalize hS4 : ropsE = S4
  generalize hS5 : ropsF = S5
  generalize hS6 : ropsG = S6
  generalize hS7 : ropsH = S7
  generalize hS8 : ropsI = S8
  generalize hS9 : ropsJ = S9
  generalize hS10 : ropsK = S10
  set_option maxRecDepth 100000 in cbv
  subst hO hK hS0 hS1 hS2 hS3 hS4 hS5 hS6 hS7 hS8 hS9 hS10
  simp only [s_with10, R.Y] at hr
  subst hr
  try dsimp only [real, rops, ropsB, ropsC, ropsD, ropsE, ropsF, ropsG, ropsH, ropsI, ropsJ, ropsK]
  have hno : wthOk x1 x3 = false → kR (AT.tup [AT.word, AT.bool]) (LV.tup [LV.word (wthW x1 x2 x3), LV.bool (wthOk x1 x3)]) (LV.tup [LV.agg [LV.lit IntKind.u64 0, LV.lit IntKind.u64 0], LV.blit false]) := by
    intro h
    have e : wthW x1 x2 x3 = 0 := by unfold wthW; rw [h]; rfl
    rw [h, e]
    simp only [kR, canon, canons, ekEq, numE, getW, getWord, allInts8, asInt, isK, kindEq, isArgB, strOf, cBig, cInts, cWords, allInts, allWords, r_ofLimbs, r_mkWord, Option.some.injEq, LV.wide.injEq, LV.word.injEq, LV.int.injEq, LV.bool.injEq, LV.str.injEq, LV.big.injEq, LV.tup.injEq, LV.agg.injEq, List.cons.injEq, and_true, true_and]
    rfl
  cases h : fOk x1 with
  | false => exact ⟨.inr (hno (by unfold wthOk; rw [h]; rfl)), .inl rfl⟩
  | true =>
    have hf : 1 ≤ x1 ∧ x1 ≤ 4 := by unfold fOk at h; simpa using h
    rw [(sub_prec hf).2.1, mul_emax hf]
    refine ⟨.inl rfl, .inr ⟨imp_f fun g => ?_, imp_t fun g => ?_⟩⟩
    · rw [c_gtr_t] at g
      exact hno (by unfold wthOk; rw [decide_eq_false (by omega), Bool.and_false])
    · rw [c_gtr_f] at g
      have ho : wthOk x1 x3 = true := by unfold wthOk; rw [h, decide_eq_true g]; rfl
      obtain ⟨_, _, _, hm⟩ := wth_leaf ho
      have e : wthW x1 x2 x3 = mkW x1 x2 (2 * fEMax x1 + 1) (x3 + wPower (fPrec x1 - 2)) := by unfold wthW; rw [ho]; rfl
      rw [hm, ho, e]
      simp only [kR, canon, canons, ekEq, numE, getW, getWord, allInts8, asInt, isK, kindEq, isArgB, strOf, cBig, cInts, cWords, allInts, allWords, r_ofLimbs, r_mkWord, Option.some.injEq, LV.wide.injEq, LV.word.injEq, LV.int.injEq, LV.bool.injEq, LV.str.injEq, LV.big.injEq, LV.tup.injEq, LV.agg.injEq, List.cons.injEq, and_true, true_and]
end Go.LE