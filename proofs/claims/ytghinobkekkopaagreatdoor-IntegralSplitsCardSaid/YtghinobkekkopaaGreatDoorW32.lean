import Derived.Test.YtghinobkekkopaaGreatDoorW31
import Derived.Test.YtghinobkekkopaaGreatDoorLeS
set_option linter.unusedVariables false
set_option linter.unusedSimpArgs false
namespace Go.LE
open Go Go.Proofs
structure OpsX where
  isF : Int → Prop
  rg : Int → Prop
  intB : Int → Bool → W → Int → Nat
  intX : W → Int → Bool
  fitN : Nat → Bool → Bool
  shr : Nat → Int → Nat
  okSh : Int → Prop
  small : Nat → Prop
  whS : Int → Bool → W → Int → W
  whE : Int → Int
  whX : Int → W → Int → Bool
  whI : Int → BitVec 128 → Bool
  odI : Int → BitVec 128 → Bool
  irW : Int → Int → BitVec 128 → BitVec 128
  irX : Int → Int → BitVec 128 → Int
  irE : Int → Int → BitVec 128 → Int
  some_ : Int → BitVec 128 → Bool
  someP : Int → BitVec 128 → Prop
  othW : Int → BitVec 128 → BitVec 128
  othX : Int → BitVec 128 → Int
  rrW : Int → Int → BitVec 128 → BitVec 128
  rrX : Int → Int → BitVec 128 → Int
  isMt : Int → Prop
noncomputable def ropsX : OpsX where
  isF := fun f => 1 ≤ f ∧ f ≤ 4
  rg := fun e => -1048576 ≤ e ∧ e ≤ 1048576
  intB := intB
  intX := intX
  fitN := fun n neg => bif neg then decide (n ≤ 2 ^ 63) else decide (n < 2 ^ 63)
  shr := fun a n => a / 2 ^ n.toNat
  okSh := fun n => 0 ≤ n ∧ n ≤ 17179869184
  small := small
  whS := whS
  whE := whE
  whX := whX
  whI := whI
  odI := odI
  irW := irW
  irX := irX
  irE := irE
  some_ := irSome
  someP := fun f w => irSome f w = true
  othW := fun f w => bif nanIs f [w] then nanV f [w] else w
  othX := fun f w => bif nanIs f [w] then nanX f [w] else 0
  rrW := fun f m w => fWordOf f (wNeg f w) (irMag f m w)
  rrX := fun f _ w => bif intX (vSig f w) (vExp f w) then 16 else 0
  isMt := fun m => isM m = true
def s_int29 (S : OpsX) : List LV → R LV
  | [.agg [.bool b, .int _ e, .wide s], .int _ m] => .req (S.rg e) (.ok (.tup [.big (S.intB m b s e), .bool (S.intX s e)]))
  | _ => .fail
def s_fits29 (S : OpsX) : List LV → R LV
  | [.big n, .bool b] => .req (S.small n) (.ok (.bool (S.fitN n b)))
  | _ => .fail
def s_shr01 (S : OpsX) : List LV → R LV
  | [.big a, .int _ n] => .req (S.small a) (.req (S.okSh n) (.ok (.big (S.shr a n))))
  | _ => .fail
def s_iwhole (S : OpsX) : List LV → R LV
  | [.agg [.bool b, .int _ e, .wide s], .int _ m] => .req (S.rg e) (.ok (.tup [.agg [.bool b, .int .i64 (S.whE e), .wide (S.whS m b s e)], .bool (S.whX m s e)]))
  | _ => .fail
def s_iround (S : OpsX) : List LV → R LV
  | [.int _ f, .int _ m, .word w] => .ok (.tup [.word (S.irW f m w), .int .i64 (S.irX f m w), .int .i64 (S.irE f m w)])
  | _ => .fail
def s_iis (S : OpsX) : List LV → R LV
  | [.int _ f, .word w] => .ok (.bool (S.whI f w))
  | _ => .fail
def s_iodd (S : OpsX) : List LV → R LV
  | [.int _ f, .word w] => .ok (.bool (S.odI f w))
  | _ => .fail
def s_whole32 (S : OpsX) : List LV → R LV
  | [.int _ f, .word w] => .ok (.tup [.bool (S.whI f w), .bool (S.odI f w)])
  | _ => .fail
def s_some32 (S : OpsX) : List LV → R LV
  | [.int _ f, .word w] => .ok (.bool (S.some_ f w))
  | _ => .fail
def s_other32 (S : OpsX) : List LV → R LV
  | [.int _ f, .word w] => .ok (.tup [.word (S.othW f w), .int .i64 (S.othX f w)])
  | _ => .fail
def s_round32 (S : OpsX) : List LV → R LV
  | [.int _ f, .int _ m, .word w] => .req (S.someP f w) (.req (S.isMt m) (.ok (.tup [.word (S.rrW f m w), .int .i64 (S.rrX f m w)])))
  | _ => .fail
def s_awake32 (_ : OpsX) : List LV → R LV := fun _ => .ok (.bool true)
def s_IntegralRounds (_ : OpsX) : List LV → R LV := fun _ => .ok (.bool true)
theorem p_shr01 : SpecOk Tryz.prog globs 46 (mkSpec real [.big, .int .i64] (s_shr01 ropsX)) := by
  have hfns : FnsOk Tryz.prog globs [(62, .spec (mkSpec real [.big, .int .i64] (s_digit ropsH))), (63, .spec (mkSpec real [.ints .u32] (s_trim ropsH)))] := (fnsCons (fnSpec (p_digit)) (fnsCons (fnSpec (p_trim)) fnsNil))
  refine specL (fun _ => [0,1,5,6,100005]) hfns (by kernel_rfl) Tryz.func46 (by kernel_rfl) (by kernel_rfl) (by kernel_rfl) 4 _ _ (.big) ?_
  clear hfns
  generalize hEE : envL (fun _ => [0,1,5,6,100005]) [(62, .spec (mkSpec real [.big, .int .i64] (s_digit ropsH))), (63, .spec (mkSpec real [.ints .u32] (s_trim ropsH)))] = EE
  intro l r hl hr
  simp only [Forms, Form] at hl
  obtain ⟨_, _, rfl, ⟨x1, rfl, x1len⟩, _, _, rfl, ⟨x2, rfl, x2lo, x2hi⟩, rfl⟩ := hl
  subst hEE
  generalize hK : kR (.big) r = K
  generalize hO : real = O
  generalize hS0 : rops = S0
  generalize hS1 : ropsB = S1
  generalize hS2 : ropsC = S2
  generalize hS3 : ropsD = S3
  generalize hS4 : ropsE = S4
  generalize hS5 : ropsF = S5
  generalize hS6 : ropsG = S6
  generalize hS7 : ropsH = S7
  generalize hS8 : ropsI = S8
  generalize hS9 : ropsJ = S9
  generalize hS10 : ropsK = S10
  generalize hS11 : ropsL = S11
  generalize hS12 : ropsM = S12
  generalize hS13 : ropsN = S13
  generalize hS14 : ropsP = S14
  generalize hS15 : ropsQ = S15
  generalize hS16 : ropsT = S16
  generalize hS17 : ropsU = S17
  generalize hS18 : ropsV = S18
  generalize hS19 : ropsW = S19
  generalize hS20 : ropsX = S20
  set_option maxRecDepth 100000 in cbv
  simp only [s_shr01, R.Y] at hr
  obtain ⟨hs1, hn, hr⟩ := hr
  subst hO hK hS0 hS1 hS2 hS3 hS4 hS5 hS6 hS7 hS8 hS9 hS10 hS11 hS12 hS13 hS14 hS15 hS16 hS17 hS18 hS19 hS20
  subst hr
  have h1l : (dig x1).length ≤ 1073741824 := hs1
  have hn : 0 ≤ x2 ∧ x2 ≤ 17179869184 := hn
  have hq : arithR .quo .i64 x2 32 = ((x2.toNat / 32 : Nat) : Int) := by rw [quo_32 hn.1 (by omega)]; omega
  have hq1 : x2.toNat / 32 ≤ 536870912 := by omega
  have hrm : arithR .rem .i64 x2 32 = ((x2.toNat % 32 : Nat) : Int) := by rw [rem_32 hn.1]; omega
  refine loop_rule (α := List Int × Int) (fun p => ⟨[.big x1, .int .i64 x2, .undef, .undef, .undef, .own .u32 p.1, .int .i64 p.2, .undef, .undef, .undef, .undef, .undef, .undef, .undef, .undef, .undef, .undef, .undef, .undef, .undef, .undef, .undef, .undef, .undef, .undef, .undef, .undef, .undef, .undef, .undef, .undef, .undef, .undef], flagOn (ofL [none, none, none, none, none]), 5⟩)
    (fun m p => shrP x1 x2.toNat p.1 p.2 ∧ (p.2 ≤ (((dig x1).length : Nat) : Int) ∨ p.2 = ((x2.toNat / 32 : Nat) : Int)) ∧ (((dig x1).length : Nat) : Int) - p.2 ≤ ((m : Nat) : Int)) ?_ (dig x1).length ([], _) ⟨by show shrP x1 x2.toNat [] (arithR .quo .i64 x2 32); rw [hq]; exact shrP_zero _ _, .inr hq, by show _ - (arithR .quo .i64 x2 32) ≤ _; rw [hq]; omega⟩
  rintro m ⟨l, i⟩ X ⟨h1, h2, h3⟩ hX
  (generalize hK : kR _ _ = K; generalize hO : real = O; generalize hS0 : rops = S0; generalize hS1 : ropsB = S1; generalize hS2 : ropsC = S2; generalize hS3 : ropsD = S3; generalize hS4 : ropsE = S4; generalize hS5 : ropsF = S5; generalize hS6 : ropsG = S6; generalize hS7 : ropsH = S7; generalize hS8 : ropsI = S8; generalize hS9 : ropsJ = S9; generalize hS10 : ropsK = S10; generalize hS11 : ropsL = S11; generalize hS12 : ropsM = S12; generalize hS13 : ropsN = S13; generalize hS14 : ropsP = S14; generalize hS15 : ropsQ = S15; generalize hS16 : ropsT = S16; generalize hS17 : ropsU = S17; generalize hS18 : ropsV = S18; generalize hS19 : ropsW = S19; generalize hS20 : ropsX = S20; set_option maxRecDepth 100000 in cbv; subst hO hK hS0 hS1 hS2 hS3 hS4 hS5 hS6 hS7 hS8 hS9 hS10 hS11 hS12 hS13 hS14 hS15 hS16 hS17 hS18 hS19 hS20; dsimp only [real, rops, ropsB, ropsC, ropsD, ropsE, ropsF, ropsG, ropsH, ropsI, ropsJ, ropsK, ropsL, ropsM, ropsN, ropsP, ropsQ, ropsT, ropsU, ropsV, ropsW, ropsX])
  have h4 : shrP x1 x2.toNat l i := h1
  have h5 : i ≤ (((dig x1).length : Nat) : Int) ∨ i = ((x2.toNat / 32 : Nat) : Int) := h2
  have h6 : (((dig x1).length : Nat) : Int) - i ≤ ((m : Nat) : Int) := h3
  have h7 : x2.toNat / 32 ≤ 536870912 := hq1
  clear h1 h2 h3
  have h0 := h4.1
  have hll : ((l.length : Nat) : Int) = i - ((x2.toNat / 32 : Nat) : Int) := h4.2.1
  refine ⟨imp_f fun h => ?_, imp_t fun h => ?_⟩
  · replace h : cmpR .lss i (((dig x1).length : Nat) : Int) = true := h
    rw [c_lss_t] at h
    have hda := digA_rng x1 i
    have hdb := digA_rng x1 (i + 1)
    have e1 : arithR .add .i64 i 1 = i + 1 := add_i64 (by omega) (by omega)
    have e2 := or_high hda hdb
    have e3 : arithR .shr .u64 (digA x1 i + 4294967296 * digA x1 (i + 1)) ((x2.toNat % 32 : Nat) : Int) = (((digA x1 i + 4294967296 * digA x1 (i + 1)).toNat / 2 ^ (x2.toNat % 32) : Nat) : Int) := by
      rw [shr_any (by omega) (by omega), Int.toNat_natCast]
    rw [e1, e2, hrm, e3, wrap_u32]
    refine ⟨Int.natCast_nonneg _, by show ((l.length + 1 : Nat) : Int) ≤ _; omega, ?_⟩
    have hm : m = (m - 1) + 1 := by omega
    have hc1 : i + 1 ≤ (((dig x1).length : Nat) : Int) ∨ i + 1 = ((x2.toNat / 32 : Nat) : Int) := by omega
    have hc2 : (((dig x1).length : Nat) : Int) - (i + 1) ≤ ((m - 1 : Nat) : Int) := by omega
    have := hX (m - 1) (l ++ [(((digA x1 i + 4294967296 * digA x1 (i + 1)).toNat / 2 ^ (x2.toNat % 32) : Nat) : Int) % 4294967296], i + 1) hm ⟨shrP_step h4, hc1, hc2⟩
    exact this
  · replace h : cmpR .lss i (((dig x1).length : Nat) : Int) = false := h
    rw [c_lss_f] at h
    simp only [kR, canon, canons, getW, getWord, allInts8, asInt, isK, kindEq, isArgB, strOf, cBig, cInts, cWords, allInts, allWords, r_ofLimbs, r_mkWord, Option.some.injEq, LV.wide.injEq, LV.word.injEq, LV.int.injEq, LV.bool.injEq, LV.str.injEq, LV.big.injEq, LV.tup.injEq, LV.agg.injEq, List.cons.injEq, and_true, true_and]
    exact shrP_end h4 h
theorem p_int29 : SpecOk Tryz.prog globs 37 (mkSpec real [.st [.bool, .int .i64, .wide], .int .i64] (s_int29 ropsX)) := by
  have hfns : FnsOk Tryz.prog globs [(43, .spec (mkSpec real [.wide] (s_big02 ropsK))), (24, .spec (mkSpec real [.big, .int .i64] (s_shl01 ropsH))), (44, .spec (mkSpec real [.big] (s_len01 ropsH))), (81, .spec (mkSpec real [.st [.bool, .int .i64, .wide], .bool] (s_of09 ropsU))), (83, .spec (mkSpec real [.st [.bool, .int .i64, .big, .big, .int .i64]] (s_top09 ropsU))), (84, .spec (mkSpec real [.st [.bool, .int .i64, .big, .big, .int .i64], .int .i64, .int .i64, .int .i64] (s_at09 ropsU)))] := (fnsCons (fnSpec (p_big02)) (fnsCons (fnSpec (p_shl01)) (fnsCons (fnSpec (p_len01)) (fnsCons (fnSpec (p_of09)) (fnsCons (fnSpec (p_top09)) (fnsCons (fnSpec (p_at09)) fnsNil))))))
  refine spec0 hfns (by kernel_rfl) Tryz.func37 (by kernel_rfl) (by kernel_rfl) (by kernel_rfl) 4 _ _ (.tup [.big, .bool]) ?_
  clear hfns
  generalize hEE : env0 [(43, .spec (mkSpec real [.wide] (s_big02 ropsK))), (24, .spec (mkSpec real [.big, .int .i64] (s_shl01 ropsH))), (44, .spec (mkSpec real [.big] (s_len01 ropsH))), (81, .spec (mkSpec real [.st [.bool, .int .i64, .wide], .bool] (s_of09 ropsU))), (83, .spec (mkSpec real [.st [.bool, .int .i64, .big, .big, .int .i64]] (s_top09 ropsU))), (84, .spec (mkSpec real [.st [.bool, .int .i64, .big, .big, .int .i64], .int .i64, .int .i64, .int .i64] (s_at09 ropsU)))] = EE
  intro l r hl hr
  simp only [Forms, Form] at hl
  obtain ⟨_, _, rfl, ⟨_, rfl, ⟨_, _, rfl, ⟨x1_1, rfl⟩, _, _, rfl, ⟨x1_2, rfl, x1_2lo, x1_2hi⟩, _, _, rfl, ⟨x1_3, rfl⟩, rfl⟩⟩, _, _, rfl, ⟨x2, rfl, x2lo, x2hi⟩, rfl⟩ := hl
  subst hEE
  generalize hK : kR (.tup [.big, .bool]) r = K
  generalize hO : real = O
  generalize hS0 : rops = S0
  generalize hS1 : ropsB = S1
  generalize hS2 : ropsC = S2
  generalize hS3 : ropsD = S3
  generalize hS4 : ropsE = S4
  generalize hS5 : ropsF = S5
  generalize hS6 : ropsG = S6
  generalize hS7 : ropsH = S7
  generalize hS8 : ropsI = S8
  generalize hS9 : ropsJ = S9
  generalize hS10 : ropsK = S10
  generalize hS11 : ropsL = S11
  generalize hS12 : ropsM = S12
  generalize hS13 : ropsN = S13
  generalize hS14 : ropsP = S14
  generalize hS15 : ropsQ = S15
  generalize hS16 : ropsT = S16
  generalize hS17 : ropsU = S17
  generalize hS18 : ropsV = S18
  generalize hS19 : ropsW = S19
  generalize hS20 : ropsX = S20
  set_option maxRecDepth 100000 in cbv
  subst hO hK hS0 hS1 hS2 hS3 hS4 hS5 hS6 hS7 hS8 hS9 hS10 hS11 hS12 hS13 hS14 hS15 hS16 hS17 hS18 hS19 hS20
  simp only [s_int29, R.Y] at hr
  try dsimp only [real, rops, ropsB, ropsC, ropsD, ropsE, ropsF, ropsG, ropsH, ropsI, ropsJ, ropsK, ropsL, ropsM, ropsN, ropsP, ropsQ, ropsT, ropsU, ropsV, ropsW, ropsX]
  obtain ⟨he, hr⟩ := hr
  subst hr
  dsimp only [ropsX]
  replace he : -1048576 ≤ x1_2 ∧ x1_2 ≤ 1048576 := he
  have sw := small_wide x1_3
  refine ⟨imp_f fun h => ?_, imp_t fun h => ⟨sw, imp_f fun h2 => ?_, imp_t fun h2 => ?_⟩⟩
  · rw [c_geq_t] at h
    obtain ⟨i1, i2⟩ := int_pos (m := x2) (b := x1_1) (s := x1_3) h
    refine ⟨sw, ⟨h, by omega⟩, ?_⟩
    rw [i1, i2]
    simp only [kR, canon, canons, getW, getWord, allInts8, asInt, isK, kindEq, isArgB, strOf, cBig, cInts, cWords, allInts, allWords, r_ofLimbs, r_mkWord, Option.some.injEq, LV.wide.injEq, LV.word.injEq, LV.int.injEq, LV.bool.injEq, LV.str.injEq, LV.big.injEq, LV.tup.injEq, LV.agg.injEq, List.cons.injEq, and_true, true_and]
  · rw [c_eql_t] at h2
    have hz : x1_3 = 0 := by rw [w_zero]; exact bitN_eq0.1 (by have h2 : ((bitN x1_3.toNat : Nat) : Int) = 0 := h2; omega)
    obtain ⟨i1, i2⟩ := int_zero (m := x2) (b := x1_1) (e := x1_2) hz
    rw [i1, i2, show x1_3.toNat = 0 by rw [← w_zero]; exact hz]
    simp only [kR, canon, canons, getW, getWord, allInts8, asInt, isK, kindEq, isArgB, strOf, cBig, cInts, cWords, allInts, allWords, r_ofLimbs, r_mkWord, Option.some.injEq, LV.wide.injEq, LV.word.injEq, LV.int.injEq, LV.bool.injEq, LV.str.injEq, LV.big.injEq, LV.tup.injEq, LV.agg.injEq, List.cons.injEq, and_true, true_and]
  · rw [c_geq_f] at h
    rw [c_eql_f] at h2
    have hn : x1_3.toNat ≠ 0 := fun hh => h2 (by show ((bitN x1_3.toNat : Nat) : Int) = 0; rw [hh]; rfl)
    have hw := bitN_wide x1_3
    have okr : okR (moreA x1_3.toNat false) (moreG x1_2 false) := ⟨hn, by show bitN x1_3.toNat ≤ _; omega, by show _ ≤ x1_2; omega, by show x1_2 ≤ _; omega⟩
    have hT := okR_top okr
    have e1 : arithR .add .i64 (topQ (moreA x1_3.toNat false) (moreG x1_2 false)) 1 = topQ (moreA x1_3.toNat false) (moreG x1_2 false) + 1 := add_i64 (by omega) (by omega)
    have hmx : (if topQ (moreA x1_3.toNat false) (moreG x1_2 false) + 1 > 1 then topQ (moreA x1_3.toNat false) (moreG x1_2 false) + 1 else 1) = max 1 (topQ (moreA x1_3.toNat false) (moreG x1_2 false) + 1) := by split <;> omega
    rw [e1, hmx]
    have hfl := floor_low (a := moreA x1_3.toNat false) hn (g := moreG x1_2 false) (p := 0) (P := (max 1 (topQ (moreA x1_3.toNat false) (moreG x1_2 false) + 1)).toNat) (by omega)
    refine ⟨⟨by omega, by omega⟩, ⟨rfl, rfl⟩, okr, ⟨rfl, rfl⟩, ⟨okr, by decide, ⟨by omega, by omega⟩, hfl⟩, ?_⟩
    simp only [kR, canon, canons, getW, getWord, allInts8, asInt, isK, kindEq, isArgB, strOf, cBig, cInts, cWords, allInts, allWords, r_ofLimbs, r_mkWord, Option.some.injEq, LV.wide.injEq, LV.word.injEq, LV.int.injEq, LV.bool.injEq, LV.str.injEq, LV.big.injEq, LV.tup.injEq, LV.agg.injEq, List.cons.injEq, and_true, true_and]
    exact ⟨rfl, rfl⟩
theorem p_fits29 : SpecOk Tryz.prog globs 38 (mkSpec real [.big, .bool] (s_fits29 ropsX)) := by
  have hfns : FnsOk Tryz.prog globs [(34, .spec (mkSpec real [.int .i64] (s_power02 ropsK))), (25, .spec (mkSpec real [.big, .big] (s_cmp01 ropsH))), (44, .spec (mkSpec real [.big] (s_len01 ropsH)))] := (fnsCons (fnSpec (p_power02)) (fnsCons (fnSpec (p_cmp01)) (fnsCons (fnSpec (p_len01)) fnsNil)))
  refine spec0 hfns (by kernel_rfl) Tryz.func38 (by kernel_rfl) (by kernel_rfl) (by kernel_rfl) 4 _ _ (.bool) ?_
  clear hfns
  generalize hEE : env0 [(34, .spec (mkSpec real [.int .i64] (s_power02 ropsK))), (25, .spec (mkSpec real [.big, .big] (s_cmp01 ropsH))), (44, .spec (mkSpec real [.big] (s_len01 ropsH)))] = EE
  intro l r hl hr
  simp only [Forms, Form] at hl
  obtain ⟨_, _, rfl, ⟨x1, rfl, x1len⟩, _, _, rfl, ⟨x2, rfl⟩, rfl⟩ := hl
  subst hEE
  generalize hK : kR (.bool) r = K
  generalize hO : real = O
  generalize hS0 : rops = S0
  generalize hS1 : ropsB = S1
  generalize hS2 : ropsC = S2
  generalize hS3 : ropsD = S3
  generalize hS4 : ropsE = S4
  generalize hS5 : ropsF = S5
  generalize hS6 : ropsG = S6
  generalize hS7 : ropsH = S7
  generalize hS8 : ropsI = S8
  generalize hS9 : ropsJ = S9
  generalize hS10 : ropsK = S10
  generalize hS11 : ropsL = S11
  generalize hS12 : ropsM = S12
  generalize hS13 : ropsN = S13
  generalize hS14 : ropsP = S14
  generalize hS15 : ropsQ = S15
  generalize hS16 : ropsT = S16
  generalize hS17 : ropsU = S17
  generalize hS18 : ropsV = S18
  generalize hS19 : ropsW = S19
  generalize hS20 : ropsX = S20
  set_option maxRecDepth 100000 in cbv
  subst hO hK hS0 hS1 hS2 hS3 hS4 hS5 hS6 hS7 hS8 hS9 hS10 hS11 hS12 hS13 hS14 hS15 hS16 hS17 hS18 hS19 hS20
  simp only [s_fits29, R.Y] at hr
  try dsimp only [real, rops, ropsB, ropsC, ropsD, ropsE, ropsF, ropsG, ropsH, ropsI, ropsJ, ropsK, ropsL, ropsM, ropsN, ropsP, ropsQ, ropsT, ropsU, ropsV, ropsW, ropsX]
  obtain ⟨hs, hr⟩ := hr
  subst hr
  dsimp only [ropsX]
  have e63 : (2 : Nat) ^ Int.toNat 63 = 2 ^ 63 := rfl
  refine ⟨imp_f fun h => ⟨by decide, ?_⟩, imp_t fun h => ⟨hs, ?_⟩⟩
  · subst h
    simp only [kR, canon, canons, getW, getWord, allInts8, asInt, isK, kindEq, isArgB, strOf, cBig, cInts, cWords, allInts, allWords, r_ofLimbs, r_mkWord, Option.some.injEq, LV.wide.injEq, LV.word.injEq, LV.int.injEq, LV.bool.injEq, LV.str.injEq, LV.big.injEq, LV.tup.injEq, LV.agg.injEq, List.cons.injEq, and_true, true_and]
    rw [leq_dec, e63]
    refine decide_eq_decide.2 ?_
    unfold cmpN
    split
    · omega
    · split <;> omega
  · subst h
    simp only [kR, canon, canons, getW, getWord, allInts8, asInt, isK, kindEq, isArgB, strOf, cBig, cInts, cWords, allInts, allWords, r_ofLimbs, r_mkWord, Option.some.injEq, LV.wide.injEq, LV.word.injEq, LV.int.injEq, LV.bool.injEq, LV.str.injEq, LV.big.injEq, LV.tup.injEq, LV.agg.injEq, List.cons.injEq, and_true, true_and]
    rw [leq_dec]
    refine decide_eq_decide.2 ?_
    have := bitN_le (n := x1) (k := 63)
    rw [← this]
    show ((bitN x1 : Nat) : Int) ≤ 63 ↔ bitN x1 ≤ 63
    omega
theorem p_iwhole : SpecOk Tryz.prog globs 41 (mkSpec real [.st [.bool, .int .i64, .wide], .int .i64] (s_iwhole ropsX)) := by
  have hfns : FnsOk Tryz.prog globs [(88, .spec (mkSpec real [.wide, .int .i64, .bool, .int .i64, .bool] (s_cut ropsT)))] := (fnsCons (fnSpec (p_cut)) fnsNil)
  refine spec0 hfns (by kernel_rfl) Tryz.func41 (by kernel_rfl) (by kernel_rfl) (by kernel_rfl) 4 _ _ (.tup [.st [.bool, .int .i64, .wide], .bool]) ?_
  clear hfns
  generalize hEE : env0 [(88, .spec (mkSpec real [.wide, .int .i64, .bool, .int .i64, .bool] (s_cut ropsT)))] = EE
  intro l r hl hr
  simp only [Forms, Form] at hl
  obtain ⟨_, _, rfl, ⟨_, rfl, ⟨_, _, rfl, ⟨x1_1, rfl⟩, _, _, rfl, ⟨x1_2, rfl, x1_2lo, x1_2hi⟩, _, _, rfl, ⟨x1_3, rfl⟩, rfl⟩⟩, _, _, rfl, ⟨x2, rfl, x2lo, x2hi⟩, rfl⟩ := hl
  subst hEE
  generalize hK : kR (.tup [.st [.bool, .int .i64, .wide], .bool]) r = K
  generalize hO : real = O
  generalize hS0 : rops = S0
  generalize hS1 : ropsB = S1
  generalize hS2 : ropsC = S2
  generalize hS3 : ropsD = S3
  generalize hS4 : ropsE = S4
  generalize hS5 : ropsF = S5
  generalize hS6 : ropsG = S6
  generalize hS7 : ropsH = S7
  generalize hS8 : ropsI = S8
  generalize hS9 : ropsJ = S9
  generalize hS10 : ropsK = S10
  generalize hS11 : ropsL = S11
  generalize hS12 : ropsM = S12
  generalize hS13 : ropsN = S13
  generalize hS14 : ropsP = S14
  generalize hS15 : ropsQ = S15
  generalize hS16 : ropsT = S16
  generalize hS17 : ropsU = S17
  generalize hS18 : ropsV = S18
  generalize hS19 : ropsW = S19
  generalize hS20 : ropsX = S20
  set_option maxRecDepth 100000 in cbv
  subst hO hK hS0 hS1 hS2 hS3 hS4 hS5 hS6 hS7 hS8 hS9 hS10 hS11 hS12 hS13 hS14 hS15 hS16 hS17 hS18 hS19 hS20
  simp only [s_iwhole, R.Y] at hr
  try dsimp only [real, rops, ropsB, ropsC, ropsD, ropsE, ropsF, ropsG, ropsH, ropsI, ropsJ, ropsK, ropsL, ropsM, ropsN, ropsP, ropsQ, ropsT, ropsU, ropsV, ropsW, ropsX]
  obtain ⟨he, hr⟩ := hr
  subst hr
  dsimp only [ropsX]
  replace he : -1048576 ≤ x1_2 ∧ x1_2 ≤ 1048576 := he
  rw [neg_i64 (by omega)]
  unfold whE whS whX
  refine ⟨imp_f fun h => ?_, imp_t fun h => ?_⟩
  · rw [c_geq_t] at h
    rw [if_pos h, if_pos h, if_pos h]
    simp only [kR, canon, canons, getW, getWord, allInts8, asInt, isK, kindEq, isArgB, strOf, cBig, cInts, cWords, allInts, allWords, r_ofLimbs, r_mkWord, Option.some.injEq, LV.wide.injEq, LV.word.injEq, LV.int.injEq, LV.bool.injEq, LV.str.injEq, LV.big.injEq, LV.tup.injEq, LV.agg.injEq, List.cons.injEq, and_true, true_and]
  · rw [c_geq_f] at h
    rw [if_neg (by omega), if_neg (by omega), if_neg (by omega)]
    simp only [kR, canon, canons, getW, getWord, allInts8, asInt, isK, kindEq, isArgB, strOf, cBig, cInts, cWords, allInts, allWords, r_ofLimbs, r_mkWord, Option.some.injEq, LV.wide.injEq, LV.word.injEq, LV.int.injEq, LV.bool.injEq, LV.str.injEq, LV.big.injEq, LV.tup.injEq, LV.agg.injEq, List.cons.injEq, and_true, true_and]
theorem p_iround : SpecOk Tryz.prog globs 8 (mkSpec real [.int .i64, .int .i64, .word] (s_iround ropsX)) := by
  have hfns : FnsOk Tryz.prog globs [(39, inlF Tryz.f39), (40, inlF Tryz.f40), (66, .spec (mkSpec real [.int .i64] (s_mIs ropsT))), (67, .spec (mkSpec real [.int .i64, .word] (s_fits ropsB))), (87, .spec (mkSpec real [.int .i64, .words] (s_nanOf ropsG))), (47, .spec (mkSpec real [.int .i64, .word] (s_value ropsL))), (41, .spec (mkSpec real [.st [.bool, .int .i64, .wide], .int .i64] (s_iwhole ropsX))), (42, .spec (mkSpec real [.int .i64, .st [.bool, .int .i64, .wide]] (s_exact ropsP)))] := (fnsCons (inl_ok Tryz.func39 (by kernel_rfl) (by kernel_rfl)) (fnsCons (inl_ok Tryz.func40 (by kernel_rfl) (by kernel_rfl)) (fnsCons (fnSpec (p_mIs)) (fnsCons (fnSpec (p_fits)) (fnsCons (fnSpec (p_nanOf)) (fnsCons (fnSpec (p_value)) (fnsCons (fnSpec (p_iwhole)) (fnsCons (fnSpec (p_exact)) fnsNil))))))))
  refine spec0 hfns (by kernel_rfl) Tryz.func8 (by kernel_rfl) (by kernel_rfl) (by kernel_rfl) 6 _ _ (.tup [.word, .int .i64, .int .i64]) ?_
  clear hfns
  generalize hEE : env0 [(39, inlF Tryz.f39), (40, inlF Tryz.f40), (66, .spec (mkSpec real [.int .i64] (s_mIs ropsT))), (67, .spec (mkSpec real [.int .i64, .word] (s_fits ropsB))), (87, .spec (mkSpec real [.int .i64, .words] (s_nanOf ropsG))), (47, .spec (mkSpec real [.int .i64, .word] (s_value ropsL))), (41, .spec (mkSpec real [.st [.bool, .int .i64, .wide], .int .i64] (s_iwhole ropsX))), (42, .spec (mkSpec real [.int .i64, .st [.bool, .int .i64, .wide]] (s_exact ropsP)))] = EE
  intro l r hl hr
  simp only [Forms, Form] at hl
  obtain ⟨_, _, rfl, ⟨x1, rfl, x1lo, x1hi⟩, _, _, rfl, ⟨x2, rfl, x2lo, x2hi⟩, _, _, rfl, ⟨x3, rfl⟩, rfl⟩ := hl
  subst hEE
  generalize hK : kR (.tup [.word, .int .i64, .int .i64]) r = K
  generalize hO : real = O
  generalize hS0 : rops = S0
  generalize hS1 : ropsB = S1
  generalize hS2 : ropsC = S2
  generalize hS3 : ropsD = S3
  generalize hS4 : ropsE = S4
  generalize hS5 : ropsF = S5
  generalize hS6 : ropsG = S6
  generalize hS7 : ropsH = S7
  generalize hS8 : ropsI = S8
  generalize hS9 : ropsJ = S9
  generalize hS10 : ropsK = S10
  generalize hS11 : ropsL = S11
  generalize hS12 : ropsM = S12
  generalize hS13 : ropsN = S13
  generalize hS14 : ropsP = S14
  generalize hS15 : ropsQ = S15
  generalize hS16 : ropsT = S16
  generalize hS17 : ropsU = S17
  generalize hS18 : ropsV = S18
  generalize hS19 : ropsW = S19
  generalize hS20 : ropsX = S20
  set_option maxRecDepth 100000 in cbv
  subst hO hK hS0 hS1 hS2 hS3 hS4 hS5 hS6 hS7 hS8 hS9 hS10 hS11 hS12 hS13 hS14 hS15 hS16 hS17 hS18 hS19 hS20
  simp only [s_iround, R.Y] at hr
  subst hr
  try dsimp only [real, rops, ropsB, ropsC, ropsD, ropsE, ropsF, ropsG, ropsH, ropsI, ropsJ, ropsK, ropsL, ropsM, ropsN, ropsP, ropsQ, ropsT, ropsU, ropsV, ropsW, ropsX]
  have leaf0 : irOk x1 x2 x3 = false → kR (AT.tup [AT.word, AT.int IntKind.i64, AT.int IntKind.i64]) (LV.tup [LV.word (irW x1 x2 x3), LV.int IntKind.i64 (irX x1 x2 x3), LV.int IntKind.i64 (irE x1 x2 x3)])
      (LV.tup [LV.agg [LV.lit IntKind.u64 0, LV.lit IntKind.u64 0], LV.lit IntKind.i64 0, LV.lit IntKind.i64 1]) := fun h => by
    unfold irW irX irE
    rw [h]
    simp only [kR, canon, canons, getW, getWord, allInts8, asInt, isK, kindEq, isArgB, strOf, cBig, cInts, cWords, allInts, allWords, r_ofLimbs, r_mkWord, Option.some.injEq, LV.wide.injEq, LV.word.injEq, LV.int.injEq, LV.bool.injEq, LV.str.injEq, LV.big.injEq, LV.tup.injEq, LV.agg.injEq, List.cons.injEq, and_true, true_and]
    exact ⟨mkWord_0, rfl, rfl⟩
  cases hm : isM x2 with
  | false => exact ⟨imp_f fun _ => leaf0 (by unfold irOk; rw [hm]; rfl), imp_t fun h => by simp at h⟩
  | true =>
    refine ⟨imp_f fun h => by simp at h, imp_t fun _ => ?_⟩
    cases hF : fFits x1 x3 with
    | false => exact ⟨imp_f fun _ => leaf0 (by unfold irOk; rw [hm, hF]; rfl), imp_t fun h => by simp at h⟩
    | true =>
      refine ⟨imp_f fun h => by simp at h, imp_t fun _ => ?_⟩
      have ho : irOk x1 x2 x3 = true := by unfold irOk; rw [hm, hF]; rfl
      have hf := (fits_lt hF).1
      unfold irW irX irE irSome
      rw [ho, cond_true, cond_true, cond_true, ofLimbs_0]
      cases hn : nanIs x1 [x3] with
      | true =>
        refine ⟨imp_f fun _ => ?_, imp_t fun h => (by cases h)⟩
        simp only [kR, canon, canons, getW, getWord, allInts8, asInt, isK, kindEq, isArgB, strOf, cBig, cInts, cWords, allInts, allWords, r_ofLimbs, r_mkWord, Option.some.injEq, LV.wide.injEq, LV.word.injEq, LV.int.injEq, LV.bool.injEq, LV.str.injEq, LV.big.injEq, LV.tup.injEq, LV.agg.injEq, List.cons.injEq, and_true, true_and]
        exact ⟨rfl, rfl⟩
      | false =>
        refine ⟨imp_f fun h => (by cases h), imp_t fun _ => ?_⟩
        cases hfin : wFin x1 x3 with
        | false =>
          refine ⟨imp_f fun _ => ?_, imp_t fun h => by simp at h⟩
          simp only [kR, canon, canons, getW, getWord, allInts8, asInt, isK, kindEq, isArgB, strOf, cBig, cInts, cWords, allInts, allWords, r_ofLimbs, r_mkWord, Option.some.injEq, LV.wide.injEq, LV.word.injEq, LV.int.injEq, LV.bool.injEq, LV.str.injEq, LV.big.injEq, LV.tup.injEq, LV.agg.injEq, List.cons.injEq, and_true, true_and]
          exact ⟨rfl, rfl⟩
        | true =>
          refine ⟨imp_f fun h => by simp at h, imp_t fun _ => ?_⟩
          have hr := vExp_rng hfin
          obtain ⟨x1e, x2e, _⟩ := ir_exact hfin hm
          refine ⟨imp_f fun hz => ?_, imp_t fun hz => ⟨⟨by omega, by omega⟩, ?_⟩⟩
          · rw [hz]
            simp only [kR, canon, canons, getW, getWord, allInts8, asInt, isK, kindEq, isArgB, strOf, cBig, cInts, cWords, allInts, allWords, r_ofLimbs, r_mkWord, Option.some.injEq, LV.wide.injEq, LV.word.injEq, LV.int.injEq, LV.bool.injEq, LV.str.injEq, LV.big.injEq, LV.tup.injEq, LV.agg.injEq, List.cons.injEq, and_true, true_and]
            exact ⟨rfl, rfl⟩
          · rw [hz, x2e, whX_int hm]
            refine ⟨imp_f fun hx => ?_, imp_t fun hx => ?_⟩
            · rw [hx]
              simp only [kR, canon, canons, getW, getWord, allInts8, asInt, isK, kindEq, isArgB, strOf, cBig, cInts, cWords, allInts, allWords, r_ofLimbs, r_mkWord, Option.some.injEq, LV.wide.injEq, LV.word.injEq, LV.int.injEq, LV.bool.injEq, LV.str.injEq, LV.big.injEq, LV.tup.injEq, LV.agg.injEq, List.cons.injEq, and_true, true_and]
              exact ⟨rfl, rfl⟩
            · rw [hx]
              simp only [kR, canon, canons, getW, getWord, allInts8, asInt, isK, kindEq, isArgB, strOf, cBig, cInts, cWords, allInts, allWords, r_ofLimbs, r_mkWord, Option.some.injEq, LV.wide.injEq, LV.word.injEq, LV.int.injEq, LV.bool.injEq, LV.str.injEq, LV.big.injEq, LV.tup.injEq, LV.agg.injEq, List.cons.injEq, and_true, true_and]
              exact ⟨rfl, rfl⟩
theorem p_iis : SpecOk Tryz.prog globs 10 (mkSpec real [.int .i64, .word] (s_iis ropsX)) := by
  have hfns : FnsOk Tryz.prog globs [(47, .spec (mkSpec real [.int .i64, .word] (s_value ropsL))), (41, .spec (mkSpec real [.st [.bool, .int .i64, .wide], .int .i64] (s_iwhole ropsX)))] := (fnsCons (fnSpec (p_value)) (fnsCons (fnSpec (p_iwhole)) fnsNil))
  refine spec0 hfns (by kernel_rfl) Tryz.func10 (by kernel_rfl) (by kernel_rfl) (by kernel_rfl) 4 _ _ (.bool) ?_
  clear hfns
  generalize hEE : env0 [(47, .spec (mkSpec real [.int .i64, .word] (s_value ropsL))), (41, .spec (mkSpec real [.st [.bool, .int .i64, .wide], .int .i64] (s_iwhole ropsX)))] = EE
  intro l r hl hr
  simp only [Forms, Form] at hl
  obtain ⟨_, _, rfl, ⟨x1, rfl, x1lo, x1hi⟩, _, _, rfl, ⟨x2, rfl⟩, rfl⟩ := hl
  subst hEE
  generalize hK : kR (.bool) r = K
  generalize hO : real = O
  generalize hS0 : rops = S0
  generalize hS1 : ropsB = S1
  generalize hS2 : ropsC = S2
  generalize hS3 : ropsD = S3
  generalize hS4 : ropsE = S4
  generalize hS5 : ropsF = S5
  generalize hS6 : ropsG = S6
  generalize hS7 : ropsH = S7
  generalize hS8 : ropsI = S8
  generalize hS9 : ropsJ = S9
  generalize hS10 : ropsK = S10
  generalize hS11 : ropsL = S11
  generalize hS12 : ropsM = S12
  generalize hS13 : ropsN = S13
  generalize hS14 : ropsP = S14
  generalize hS15 : ropsQ = S15
  generalize hS16 : ropsT = S16
  generalize hS17 : ropsU = S17
  generalize hS18 : ropsV = S18
  generalize hS19 : ropsW = S19
  generalize hS20 : ropsX = S20
  set_option maxRecDepth 100000 in cbv
  subst hO hK hS0 hS1 hS2 hS3 hS4 hS5 hS6 hS7 hS8 hS9 hS10 hS11 hS12 hS13 hS14 hS15 hS16 hS17 hS18 hS19 hS20
  simp only [s_iis, R.Y] at hr
  subst hr
  try dsimp only [real, rops, ropsB, ropsC, ropsD, ropsE, ropsF, ropsG, ropsH, ropsI, ropsJ, ropsK, ropsL, ropsM, ropsN, ropsP, ropsQ, ropsT, ropsU, ropsV, ropsW, ropsX]
  have hrg : -1048576 ≤ vExp x1 x2 ∧ vExp x1 x2 ≤ 1048576 := by
    cases h : wFin x1 x2 with
    | true => have := vExp_rng h; omega
    | false => rw [(v_no h).2.1]; omega
  unfold whI
  rw [whX_int (m := 3) rfl]
  refine ⟨hrg, imp_f fun h => ?_, imp_t fun h => ?_⟩
  · rw [h]
    simp only [kR, canon, canons, getW, getWord, allInts8, asInt, isK, kindEq, isArgB, strOf, cBig, cInts, cWords, allInts, allWords, r_ofLimbs, r_mkWord, Option.some.injEq, LV.wide.injEq, LV.word.injEq, LV.int.injEq, LV.bool.injEq, LV.str.injEq, LV.big.injEq, LV.tup.injEq, LV.agg.injEq, List.cons.injEq, and_true, true_and]
    rfl
  · rw [h]
    simp only [kR, canon, canons, getW, getWord, allInts8, asInt, isK, kindEq, isArgB, strOf, cBig, cInts, cWords, allInts, allWords, r_ofLimbs, r_mkWord, Option.some.injEq, LV.wide.injEq, LV.word.injEq, LV.int.injEq, LV.bool.injEq, LV.str.injEq, LV.big.injEq, LV.tup.injEq, LV.agg.injEq, List.cons.injEq, and_true, true_and]
    rfl
theorem p_iodd : SpecOk Tryz.prog globs 11 (mkSpec real [.int .i64, .word] (s_iodd ropsX)) := by
  have hfns : FnsOk Tryz.prog globs [(47, .spec (mkSpec real [.int .i64, .word] (s_value ropsL))), (48, .spec (mkSpec real [.st [.bool, .int .i64, .wide]] (s_short ropsL)))] := (fnsCons (fnSpec (p_value)) (fnsCons (fnSpec (p_short)) fnsNil))
  refine spec0 hfns (by kernel_rfl) Tryz.func11 (by kernel_rfl) (by kernel_rfl) (by kernel_rfl) 4 _ _ (.bool) ?_
  clear hfns
  generalize hEE : env0 [(47, .spec (mkSpec real [.int .i64, .word] (s_value ropsL))), (48, .spec (mkSpec real [.st [.bool, .int .i64, .wide]] (s_short ropsL)))] = EE
  intro l r hl hr
  simp only [Forms, Form] at hl
  obtain ⟨_, _, rfl, ⟨x1, rfl, x1lo, x1hi⟩, _, _, rfl, ⟨x2, rfl⟩, rfl⟩ := hl
  subst hEE
  generalize hK : kR (.bool) r = K
  generalize hO : real = O
  generalize hS0 : rops = S0
  generalize hS1 : ropsB = S1
  generalize hS2 : ropsC = S2
  generalize hS3 : ropsD = S3
  generalize hS4 : ropsE = S4
  generalize hS5 : ropsF = S5
  generalize hS6 : ropsG = S6
  generalize hS7 : ropsH = S7
  generalize hS8 : ropsI = S8
  generalize hS9 : ropsJ = S9
  generalize hS10 : ropsK = S10
  generalize hS11 : ropsL = S11
  generalize hS12 : ropsM = S12
  generalize hS13 : ropsN = S13
  generalize hS14 : ropsP = S14
  generalize hS15 : ropsQ = S15
  generalize hS16 : ropsT = S16
  generalize hS17 : ropsU = S17
  generalize hS18 : ropsV = S18
  generalize hS19 : ropsW = S19
  generalize hS20 : ropsX = S20
  set_option maxRecDepth 100000 in cbv
  subst hO hK hS0 hS1 hS2 hS3 hS4 hS5 hS6 hS7 hS8 hS9 hS10 hS11 hS12 hS13 hS14 hS15 hS16 hS17 hS18 hS19 hS20
  simp only [s_iodd, R.Y] at hr
  subst hr
  try dsimp only [real, rops, ropsB, ropsC, ropsD, ropsE, ropsF, ropsG, ropsH, ropsI, ropsJ, ropsK, ropsL, ropsM, ropsN, ropsP, ropsQ, ropsT, ropsU, ropsV, ropsW, ropsX]
  rw [ofLimbs_0, eql_dec]
  unfold odI
  cases h : wFin x1 x2 with
  | false =>
    have hz : vSig x1 x2 = 0 := (v_no h).2.2
    have hs : shSig (vExp x1 x2) (vSig x1 x2) = 0 := by
      unfold shSig topOk
      rw [decide_eq_true hz, Bool.not_true, Bool.and_false]; rfl
    rw [decide_eq_true hs]
    refine ⟨imp_f fun h => by simp at h, imp_t fun _ => ?_⟩
    simp only [kR, canon, canons, getW, getWord, allInts8, asInt, isK, kindEq, isArgB, strOf, cBig, cInts, cWords, allInts, allWords, r_ofLimbs, r_mkWord, Option.some.injEq, LV.wide.injEq, LV.word.injEq, LV.int.injEq, LV.bool.injEq, LV.str.injEq, LV.big.injEq, LV.tup.injEq, LV.agg.injEq, List.cons.injEq, and_true, true_and]
    rfl
  | true =>
    have hr := vExp_rng h
    by_cases hz : vSig x1 x2 = 0
    · have hs : shSig (vExp x1 x2) (vSig x1 x2) = 0 := by
        unfold shSig topOk
        rw [decide_eq_true hz, Bool.not_true, Bool.and_false]; rfl
      rw [decide_eq_true hs, decide_eq_true hz]
      refine ⟨imp_f fun h => by simp at h, imp_t fun _ => ?_⟩
      simp only [kR, canon, canons, getW, getWord, allInts8, asInt, isK, kindEq, isArgB, strOf, cBig, cInts, cWords, allInts, allWords, r_ofLimbs, r_mkWord, Option.some.injEq, LV.wide.injEq, LV.word.injEq, LV.int.injEq, LV.bool.injEq, LV.str.injEq, LV.big.injEq, LV.tup.injEq, LV.agg.injEq, List.cons.injEq, and_true, true_and]
      rfl
    · have ho : topOk (vExp x1 x2) (vSig x1 x2) = true := (topOk_iff _ _).2 ⟨by omega, hz⟩
      obtain ⟨q1, q2, q3, q4, q5⟩ := sh_parts ho
      have hs : shSig (vExp x1 x2) (vSig x1 x2) ≠ 0 := fun hh => by
        have : (shSig (vExp x1 x2) (vSig x1 x2)).toNat = 0 := by rw [← w_zero]; exact hh
        rw [this] at q3; omega
      rw [decide_eq_false hs, decide_eq_false hz, q4]
      refine ⟨imp_f fun _ => ?_, imp_t fun h => by simp at h⟩
      simp only [kR, canon, canons, getW, getWord, allInts8, asInt, isK, kindEq, isArgB, strOf, cBig, cInts, cWords, allInts, allWords, r_ofLimbs, r_mkWord, Option.some.injEq, LV.wide.injEq, LV.word.injEq, LV.int.injEq, LV.bool.injEq, LV.str.injEq, LV.big.injEq, LV.tup.injEq, LV.agg.injEq, List.cons.injEq, and_true, true_and]
      rfl
theorem p_whole32 : SpecOk Tryz.prog globs 9 (mkSpec real [.int .i64, .word] (s_whole32 ropsX)) := by
  have hfns : FnsOk Tryz.prog globs [(19, .spec (mkSpec real [.int .i64, .word] (s_class06 ropsC))), (22, .spec (mkSpec real [.int .i64, .word] (s_value07 ropsM))), (43, .spec (mkSpec real [.wide] (s_big02 ropsK))), (44, .spec (mkSpec real [.big] (s_len01 ropsH))), (45, .spec (mkSpec real [.big] (s_odd01 ropsU))), (46, .spec (mkSpec real [.big, .int .i64] (s_shr01 ropsX)))] := (fnsCons (fnSpec (p_class06)) (fnsCons (fnSpec (p_value07)) (fnsCons (fnSpec (p_big02)) (fnsCons (fnSpec (p_len01)) (fnsCons (fnSpec (p_odd01)) (fnsCons (fnSpec (p_shr01)) fnsNil))))))
  refine specL (fun _ => [0,3,6,7]) hfns (by kernel_rfl) Tryz.func9 (by kernel_rfl) (by kernel_rfl) (by kernel_rfl) 4 _ _ (.tup [.bool, .bool]) ?_
  clear hfns
  generalize hEE : envL (fun _ => [0,3,6,7]) [(19, .spec (mkSpec real [.int .i64, .word] (s_class06 ropsC))), (22, .spec (mkSpec real [.int .i64, .word] (s_value07 ropsM))), (43, .spec (mkSpec real [.wide] (s_big02 ropsK))), (44, .spec (mkSpec real [.big] (s_len01 ropsH))), (45, .spec (mkSpec real [.big] (s_odd01 ropsU))), (46, .spec (mkSpec real [.big, .int .i64] (s_shr01 ropsX)))] = EE
  intro l r hl hr
  simp only [Forms, Form] at hl
  obtain ⟨_, _, rfl, ⟨x1, rfl, x1lo, x1hi⟩, _, _, rfl, ⟨x2, rfl⟩, rfl⟩ := hl
  subst hEE
  generalize hK : kR (.tup [.bool, .bool]) r = K
  generalize hO : real = O
  generalize hS0 : rops = S0
  generalize hS1 : ropsB = S1
  generalize hS2 : ropsC = S2
  generalize hS3 : ropsD = S3
  generalize hS4 : ropsE = S4
  generalize hS5 : ropsF = S5
  generalize hS6 : ropsG = S6
  generalize hS7 : ropsH = S7
  generalize hS8 : ropsI = S8
  generalize hS9 : ropsJ = S9
  generalize hS10 : ropsK = S10
  generalize hS11 : ropsL = S11
  generalize hS12 : ropsM = S12
  generalize hS13 : ropsN = S13
  generalize hS14 : ropsP = S14
  generalize hS15 : ropsQ = S15
  generalize hS16 : ropsT = S16
  generalize hS17 : ropsU = S17
  generalize hS18 : ropsV = S18
  generalize hS19 : ropsW = S19
  generalize hS20 : ropsX = S20
  set_option maxRecDepth 100000 in cbv
  have hr : r = _ := hr.symm
  subst hO hK hS0 hS1 hS2 hS3 hS4 hS5 hS6 hS7 hS8 hS9 hS10 hS11 hS12 hS13 hS14 hS15 hS16 hS17 hS18 hS19 hS20
  subst hr
  refine ⟨imp_f fun h => ?_, imp_t fun h => ?_⟩
  · replace h : cmpR .lss (cls x1 x2) 4 = true := h
    rw [c_lss_t] at h
    have hfin : wFin x1 x2 = false := by
      cases hh : wFin x1 x2 with
      | false => rfl
      | true => have := (fin_iff x1 x2).1 hh; omega
    (dsimp only [real, rops, ropsB, ropsC, ropsD, ropsE, ropsF, ropsG, ropsH, ropsI, ropsJ, ropsK, ropsL, ropsM, ropsN, ropsP, ropsQ, ropsT, ropsU, ropsV, ropsW, ropsX])
    unfold whI odI
    rw [hfin]
    simp only [kR, canon, canons, getW, getWord, allInts8, asInt, isK, kindEq, isArgB, strOf, cBig, cInts, cWords, allInts, allWords, r_ofLimbs, r_mkWord, Option.some.injEq, LV.wide.injEq, LV.word.injEq, LV.int.injEq, LV.bool.injEq, LV.str.injEq, LV.big.injEq, LV.tup.injEq, LV.agg.injEq, List.cons.injEq, and_true, true_and]
    exact ⟨rfl, rfl⟩
  · replace h : cmpR .lss (cls x1 x2) 4 = false := h
    rw [c_lss_f] at h
    have hfin : wFin x1 x2 = true := (fin_iff _ _).2 h
    have sw := small_wide (vSig x1 x2)
    have hrg := vExp_rng hfin
    refine ⟨hfin, sw, imp_f fun h2 => ?_, imp_t fun h2 => ?_⟩
    · replace h2 : cmpR .eql (lenN (vSig x1 x2).toNat) 0 = true := h2
      rw [c_eql_t] at h2
      have hz : vSig x1 x2 = 0 := by rw [w_zero]; exact bitN_eq0.1 (by have h2 : ((bitN (vSig x1 x2).toNat : Nat) : Int) = 0 := h2; omega)
      (dsimp only [real, rops, ropsB, ropsC, ropsD, ropsE, ropsF, ropsG, ropsH, ropsI, ropsJ, ropsK, ropsL, ropsM, ropsN, ropsP, ropsQ, ropsT, ropsU, ropsV, ropsW, ropsX])
      unfold whI odI
      rw [hfin, (int_zero (m := 3) (b := false) hz).2, decide_eq_true hz]
      simp only [kR, canon, canons, getW, getWord, allInts8, asInt, isK, kindEq, isArgB, strOf, cBig, cInts, cWords, allInts, allWords, r_ofLimbs, r_mkWord, Option.some.injEq, LV.wide.injEq, LV.word.injEq, LV.int.injEq, LV.bool.injEq, LV.str.injEq, LV.big.injEq, LV.tup.injEq, LV.agg.injEq, List.cons.injEq, and_true, true_and]
      exact ⟨rfl, rfl⟩
    · replace h2 : cmpR .eql (lenN (vSig x1 x2).toNat) 0 = false := h2
      rw [c_eql_f] at h2
      have hn : (vSig x1 x2).toNat ≠ 0 := fun hh => h2 (by show ((bitN (vSig x1 x2).toNat : Nat) : Int) = 0; rw [hh]; rfl)
      refine loop_rule (α := Nat × Int) (fun p => ⟨[.int .i64 x1, .undef, .undef, .ptr 0 0, .undef, .undef, .ptr 10 0, .big p.1, .undef, .undef, .undef, .undef, .undef, .undef, .undef, .undef, .undef, .undef, .undef, .undef, .undef, .undef, .undef, .undef, .undef, .undef, .undef, .undef, .undef, .undef, .undef, .undef, .undef, .undef, .undef, .undef, .undef, .undef, .undef, .undef, .undef, .undef, .undef, .undef, .undef], ofL [some (wordT, .word x2), none, none, none, none, none, none, none, none, none, some (numT, .agg [.bool (ropsM.vNeg x1 x2), .int .i64 p.2, .wide (ropsM.vSig x1 x2)]), none, none, none, none, none, none, none, none], 19⟩)
        (fun m p => whP (vSig x1 x2).toNat (vExp x1 x2) p.1 p.2 ∧ -p.2 ≤ ((m : Nat) : Int)) ?_ 16495 ((vSig x1 x2).toNat, vExp x1 x2) ⟨⟨Int.le_refl _, .inr rfl, by show _ = _ * 2 ^ (vExp x1 x2 - vExp x1 x2).toNat; rw [show (vExp x1 x2 - vExp x1 x2).toNat = 0 by omega, Nat.pow_zero, Nat.mul_one], hn⟩, by show -(vExp x1 x2) ≤ _; omega⟩
      rintro m ⟨a, g⟩ X ⟨h3, h4⟩ hX
      have hsa : small a := by
        refine small_mono ?_ sw
        rw [h3.2.2.1]
        exact Nat.le_mul_of_pos_right _ (Nat.two_pow_pos _)
      have hge := h3.1
      (generalize hK : kR _ _ = K; generalize hO : real = O; generalize hS0 : rops = S0; generalize hS1 : ropsB = S1; generalize hS2 : ropsC = S2; generalize hS3 : ropsD = S3; generalize hS4 : ropsE = S4; generalize hS5 : ropsF = S5; generalize hS6 : ropsG = S6; generalize hS7 : ropsH = S7; generalize hS8 : ropsI = S8; generalize hS9 : ropsJ = S9; generalize hS10 : ropsK = S10; generalize hS11 : ropsL = S11; generalize hS12 : ropsM = S12; generalize hS13 : ropsN = S13; generalize hS14 : ropsP = S14; generalize hS15 : ropsQ = S15; generalize hS16 : ropsT = S16; generalize hS17 : ropsU = S17; generalize hS18 : ropsV = S18; generalize hS19 : ropsW = S19; generalize hS20 : ropsX = S20; set_option maxRecDepth 100000 in cbv; subst hO hK hS0 hS1 hS2 hS3 hS4 hS5 hS6 hS7 hS8 hS9 hS10 hS11 hS12 hS13 hS14 hS15 hS16 hS17 hS18 hS19 hS20; dsimp only [real, rops, ropsB, ropsC, ropsD, ropsE, ropsF, ropsG, ropsH, ropsI, ropsJ, ropsK, ropsL, ropsM, ropsN, ropsP, ropsQ, ropsT, ropsU, ropsV, ropsW, ropsX])
      have h5 : whP (vSig x1 x2).toNat (vExp x1 x2) a g := h3
      have h6 : -g ≤ ((m : Nat) : Int) := h4
      have hg2 : vExp x1 x2 ≤ g := hge
      clear h3 h4 hge
      have hz : vSig x1 x2 ≠ 0 := fun hh => hn (by rw [← w_zero]; exact hh)
      refine ⟨imp_f fun h7 => ⟨imp_f fun h8 => ?_, imp_t fun h8 => ?_⟩, imp_t fun h7 => ?_⟩
      · rw [c_lss_t] at h7
        rw [Bool.not_eq_true'] at h8
        have e3 : arithR .add .i64 g 1 = g + 1 := add_i64 (by omega) (by omega)
        rw [e3]
        have hm : m = (m - 1) + 1 := by omega
        have hc2 : -(g + 1) ≤ ((m - 1 : Nat) : Int) := by omega
        refine ⟨hsa, by decide, ?_⟩
        exact hX (m - 1) (a / 2 ^ 1, g + 1) hm ⟨whP_step h5 h7 h8, hc2⟩
      · rw [Bool.not_eq_false'] at h8
        obtain ⟨w1, w2⟩ := whP_end h5 (fun hh => by rw [h8] at hh; exact absurd hh.2 (by decide))
        have e1 : whI x1 x2 = decide (0 ≤ g) := by unfold whI; rw [hfin, w1]; rfl
        have e2 : odI x1 x2 = (decide (g = 0) && oddN a) := by unfold odI; rw [hfin, decide_eq_false hz, w2]; rfl
        rw [e1, e2, eql_dec, geq_dec]
        refine ⟨imp_f fun h9 => ?_, imp_t fun h9 => ?_⟩
        · rw [h9]
          simp only [kR, canon, canons, getW, getWord, allInts8, asInt, isK, kindEq, isArgB, strOf, cBig, cInts, cWords, allInts, allWords, r_ofLimbs, r_mkWord, Option.some.injEq, LV.wide.injEq, LV.word.injEq, LV.int.injEq, LV.bool.injEq, LV.str.injEq, LV.big.injEq, LV.tup.injEq, LV.agg.injEq, List.cons.injEq, and_true, true_and]
          rfl
        · rw [h9]
          simp only [kR, canon, canons, getW, getWord, allInts8, asInt, isK, kindEq, isArgB, strOf, cBig, cInts, cWords, allInts, allWords, r_ofLimbs, r_mkWord, Option.some.injEq, LV.wide.injEq, LV.word.injEq, LV.int.injEq, LV.bool.injEq, LV.str.injEq, LV.big.injEq, LV.tup.injEq, LV.agg.injEq, List.cons.injEq, and_true, true_and]
          rfl
      · rw [c_lss_f] at h7
        obtain ⟨w1, w2⟩ := whP_end h5 (fun hh => by omega)
        have e1 : whI x1 x2 = decide (0 ≤ g) := by unfold whI; rw [hfin, w1]; rfl
        have e2 : odI x1 x2 = (decide (g = 0) && oddN a) := by unfold odI; rw [hfin, decide_eq_false hz, w2]; rfl
        rw [e1, e2, eql_dec, geq_dec]
        refine ⟨imp_f fun h9 => ?_, imp_t fun h9 => ?_⟩
        · rw [h9]
          simp only [kR, canon, canons, getW, getWord, allInts8, asInt, isK, kindEq, isArgB, strOf, cBig, cInts, cWords, allInts, allWords, r_ofLimbs, r_mkWord, Option.some.injEq, LV.wide.injEq, LV.word.injEq, LV.int.injEq, LV.bool.injEq, LV.str.injEq, LV.big.injEq, LV.tup.injEq, LV.agg.injEq, List.cons.injEq, and_true, true_and]
          rfl
        · rw [h9]
          simp only [kR, canon, canons, getW, getWord, allInts8, asInt, isK, kindEq, isArgB, strOf, cBig, cInts, cWords, allInts, allWords, r_ofLimbs, r_mkWord, Option.some.injEq, LV.wide.injEq, LV.word.injEq, LV.int.injEq, LV.bool.injEq, LV.str.injEq, LV.big.injEq, LV.tup.injEq, LV.agg.injEq, List.cons.injEq, and_true, true_and]
          rfl
theorem p_some32 : SpecOk Tryz.prog globs 16 (mkSpec real [.int .i64, .word] (s_some32 ropsX)) := by
  have hfns : FnsOk Tryz.prog globs [(19, .spec (mkSpec real [.int .i64, .word] (s_class06 ropsC)))] := (fnsCons (fnSpec (p_class06)) fnsNil)
  refine spec0 hfns (by kernel_rfl) Tryz.func16 (by kernel_rfl) (by kernel_rfl) (by kernel_rfl) 4 _ _ (.bool) ?_
  clear hfns
  generalize hEE : env0 [(19, .spec (mkSpec real [.int .i64, .word] (s_class06 ropsC)))] = EE
  intro l r hl hr
  simp only [Forms, Form] at hl
  obtain ⟨_, _, rfl, ⟨x1, rfl, x1lo, x1hi⟩, _, _, rfl, ⟨x2, rfl⟩, rfl⟩ := hl
  subst hEE
  generalize hK : kR (.bool) r = K
  generalize hO : real = O
  generalize hS0 : rops = S0
  generalize hS1 : ropsB = S1
  generalize hS2 : ropsC = S2
  generalize hS3 : ropsD = S3
  generalize hS4 : ropsE = S4
  generalize hS5 : ropsF = S5
  generalize hS6 : ropsG = S6
  generalize hS7 : ropsH = S7
  generalize hS8 : ropsI = S8
  generalize hS9 : ropsJ = S9
  generalize hS10 : ropsK = S10
  generalize hS11 : ropsL = S11
  generalize hS12 : ropsM = S12
  generalize hS13 : ropsN = S13
  generalize hS14 : ropsP = S14
  generalize hS15 : ropsQ = S15
  generalize hS16 : ropsT = S16
  generalize hS17 : ropsU = S17
  generalize hS18 : ropsV = S18
  generalize hS19 : ropsW = S19
  generalize hS20 : ropsX = S20
  set_option maxRecDepth 100000 in cbv
  subst hO hK hS0 hS1 hS2 hS3 hS4 hS5 hS6 hS7 hS8 hS9 hS10 hS11 hS12 hS13 hS14 hS15 hS16 hS17 hS18 hS19 hS20
  simp only [s_some32, R.Y] at hr
  subst hr
  try dsimp only [real, rops, ropsB, ropsC, ropsD, ropsE, ropsF, ropsG, ropsH, ropsI, ropsJ, ropsK, ropsL, ropsM, ropsN, ropsP, ropsQ, ropsT, ropsU, ropsV, ropsW, ropsX]
  rw [some_cls]
  simp only [eql_dec]
  refine ⟨imp_f fun h => ?_, imp_t fun h => ?_⟩
  · rw [decide_eq_true_eq] at h
    rw [decide_eq_true (.inl h)]
    simp only [kR, canon, canons, getW, getWord, allInts8, asInt, isK, kindEq, isArgB, strOf, cBig, cInts, cWords, allInts, allWords, r_ofLimbs, r_mkWord, Option.some.injEq, LV.wide.injEq, LV.word.injEq, LV.int.injEq, LV.bool.injEq, LV.str.injEq, LV.big.injEq, LV.tup.injEq, LV.agg.injEq, List.cons.injEq, and_true, true_and]
  · rw [decide_eq_false_iff_not] at h
    simp only [kR, canon, canons, getW, getWord, allInts8, asInt, isK, kindEq, isArgB, strOf, cBig, cInts, cWords, allInts, allWords, r_ofLimbs, r_mkWord, Option.some.injEq, LV.wide.injEq, LV.word.injEq, LV.int.injEq, LV.bool.injEq, LV.str.injEq, LV.big.injEq, LV.tup.injEq, LV.agg.injEq, List.cons.injEq, and_true, true_and]
    refine decide_eq_decide.2 ?_
    omega
theorem p_other32 : SpecOk Tryz.prog globs 15 (mkSpec real [.int .i64, .word] (s_other32 ropsX)) := by
  have hfns : FnsOk Tryz.prog globs [(51, .spec (mkSpec real [.int .i64, .words] (s_of10 ropsG)))] := (fnsCons (fnSpec (p_of10)) fnsNil)
  refine spec0 hfns (by kernel_rfl) Tryz.func15 (by kernel_rfl) (by kernel_rfl) (by kernel_rfl) 4 _ _ (.tup [.word, .int .i64]) ?_
  clear hfns
  generalize hEE : env0 [(51, .spec (mkSpec real [.int .i64, .words] (s_of10 ropsG)))] = EE
  intro l r hl hr
  simp only [Forms, Form] at hl
  obtain ⟨_, _, rfl, ⟨x1, rfl, x1lo, x1hi⟩, _, _, rfl, ⟨x2, rfl⟩, rfl⟩ := hl
  subst hEE
  generalize hK : kR (.tup [.word, .int .i64]) r = K
  generalize hO : real = O
  generalize hS0 : rops = S0
  generalize hS1 : ropsB = S1
  generalize hS2 : ropsC = S2
  generalize hS3 : ropsD = S3
  generalize hS4 : ropsE = S4
  generalize hS5 : ropsF = S5
  generalize hS6 : ropsG = S6
  generalize hS7 : ropsH = S7
  generalize hS8 : ropsI = S8
  generalize hS9 : ropsJ = S9
  generalize hS10 : ropsK = S10
  generalize hS11 : ropsL = S11
  generalize hS12 : ropsM = S12
  generalize hS13 : ropsN = S13
  generalize hS14 : ropsP = S14
  generalize hS15 : ropsQ = S15
  generalize hS16 : ropsT = S16
  generalize hS17 : ropsU = S17
  generalize hS18 : ropsV = S18
  generalize hS19 : ropsW = S19
  generalize hS20 : ropsX = S20
  set_option maxRecDepth 100000 in cbv
  subst hO hK hS0 hS1 hS2 hS3 hS4 hS5 hS6 hS7 hS8 hS9 hS10 hS11 hS12 hS13 hS14 hS15 hS16 hS17 hS18 hS19 hS20
  simp only [s_other32, R.Y] at hr
  subst hr
  try dsimp only [real, rops, ropsB, ropsC, ropsD, ropsE, ropsF, ropsG, ropsH, ropsI, ropsJ, ropsK, ropsL, ropsM, ropsN, ropsP, ropsQ, ropsT, ropsU, ropsV, ropsW, ropsX]
  cases h : nanIs x1 [x2] with
  | true =>
    refine ⟨imp_f fun _ => ?_, imp_t fun h => (by cases h)⟩
    simp only [kR, canon, canons, getW, getWord, allInts8, asInt, isK, kindEq, isArgB, strOf, cBig, cInts, cWords, allInts, allWords, r_ofLimbs, r_mkWord, Option.some.injEq, LV.wide.injEq, LV.word.injEq, LV.int.injEq, LV.bool.injEq, LV.str.injEq, LV.big.injEq, LV.tup.injEq, LV.agg.injEq, List.cons.injEq, and_true, true_and]
    exact ⟨rfl, rfl⟩
  | false =>
    refine ⟨imp_f fun h => (by cases h), imp_t fun _ => ?_⟩
    simp only [kR, canon, canons, getW, getWord, allInts8, asInt, isK, kindEq, isArgB, strOf, cBig, cInts, cWords, allInts, allWords, r_ofLimbs, r_mkWord, Option.some.injEq, LV.wide.injEq, LV.word.injEq, LV.int.injEq, LV.bool.injEq, LV.str.injEq, LV.big.injEq, LV.tup.injEq, LV.agg.injEq, List.cons.injEq, and_true, true_and]
    exact ⟨rfl, rfl⟩
theorem p_round32 : SpecOk Tryz.prog globs 17 (mkSpec real [.int .i64, .int .i64, .word] (s_round32 ropsX)) := by
  have hfns : FnsOk Tryz.prog globs [(22, .spec (mkSpec real [.int .i64, .word] (s_value07 ropsM))), (37, .spec (mkSpec real [.st [.bool, .int .i64, .wide], .int .i64] (s_int29 ropsX))), (53, .spec (mkSpec real [.int .i64, .st [.bool, .big, .int .i64]] (s_find07 ropsP))), (52, .spec (mkSpec real [.int .i64, .word, .bool] (s_signed06 ropsC)))] := (fnsCons (fnSpec (p_value07)) (fnsCons (fnSpec (p_int29)) (fnsCons (fnSpec (p_find07)) (fnsCons (fnSpec (p_signed06)) fnsNil))))
  refine spec0 hfns (by kernel_rfl) Tryz.func17 (by kernel_rfl) (by kernel_rfl) (by kernel_rfl) 4 _ _ (.tup [.word, .int .i64]) ?_
  clear hfns
  generalize hEE : env0 [(22, .spec (mkSpec real [.int .i64, .word] (s_value07 ropsM))), (37, .spec (mkSpec real [.st [.bool, .int .i64, .wide], .int .i64] (s_int29 ropsX))), (53, .spec (mkSpec real [.int .i64, .st [.bool, .big, .int .i64]] (s_find07 ropsP))), (52, .spec (mkSpec real [.int .i64, .word, .bool] (s_signed06 ropsC)))] = EE
  intro l r hl hr
  simp only [Forms, Form] at hl
  obtain ⟨_, _, rfl, ⟨x1, rfl, x1lo, x1hi⟩, _, _, rfl, ⟨x2, rfl, x2lo, x2hi⟩, _, _, rfl, ⟨x3, rfl⟩, rfl⟩ := hl
  subst hEE
  generalize hK : kR (.tup [.word, .int .i64]) r = K
  generalize hO : real = O
  generalize hS0 : rops = S0
  generalize hS1 : ropsB = S1
  generalize hS2 : ropsC = S2
  generalize hS3 : ropsD = S3
  generalize hS4 : ropsE = S4
  generalize hS5 : ropsF = S5
  generalize hS6 : ropsG = S6
  generalize hS7 : ropsH = S7
  generalize hS8 : ropsI = S8
  generalize hS9 : ropsJ = S9
  generalize hS10 : ropsK = S10
  generalize hS11 : ropsL = S11
  generalize hS12 : ropsM = S12
  generalize hS13 : ropsN = S13
  generalize hS14 : ropsP = S14
  generalize hS15 : ropsQ = S15
  generalize hS16 : ropsT = S16
  generalize hS17 : ropsU = S17
  generalize hS18 : ropsV = S18
  generalize hS19 : ropsW = S19
  generalize hS20 : ropsX = S20
  set_option maxRecDepth 100000 in cbv
  subst hO hK hS0 hS1 hS2 hS3 hS4 hS5 hS6 hS7 hS8 hS9 hS10 hS11 hS12 hS13 hS14 hS15 hS16 hS17 hS18 hS19 hS20
  simp only [s_round32, R.Y] at hr
  try dsimp only [real, rops, ropsB, ropsC, ropsD, ropsE, ropsF, ropsG, ropsH, ropsI, ropsJ, ropsK, ropsL, ropsM, ropsN, ropsP, ropsQ, ropsT, ropsU, ropsV, ropsW, ropsX]
  obtain ⟨hs, hm, hr⟩ := hr
  subst hr
  dsimp only [ropsX]
  replace hs : irSome x1 x3 = true := hs
  replace hm : isM x2 = true := hm
  obtain ⟨hfin, hz⟩ : wFin x1 x3 = true ∧ vSig x1 x3 ≠ 0 := by
    unfold irSome at hs
    simp only [Bool.and_eq_true, Bool.not_eq_true', decide_eq_false_iff_not] at hs
    exact hs
  obtain ⟨hF, hf⟩ := fin_fits hfin
  have hrg := vExp_rng hfin
  have hi := inf_pos hf
  obtain ⟨_, _, hM⟩ := ir_exact hfin hm
  have hb := int_bits (m := x2) hfin (vNeg x1 x3)
  have hv : vNeg x1 x3 = wNeg x1 x3 := by unfold vNeg; rw [hfin]; rfl
  have hMd : findM x1 (intB x2 (vNeg x1 x3) (vSig x1 x3) (vExp x1 x3)) 0 = irMag x1 x2 x3 := rfl
  rw [hMd, sgn_wM hf (by omega), hv]
  refine ⟨hfin, ⟨by omega, by omega⟩, hf, ⟨by rw [← hv]; omega, by omega, by omega⟩, hf, imp_f fun hx => ?_, imp_t fun hx => ?_⟩
  · rw [hx]
    simp only [kR, canon, canons, getW, getWord, allInts8, asInt, isK, kindEq, isArgB, strOf, cBig, cInts, cWords, allInts, allWords, r_ofLimbs, r_mkWord, Option.some.injEq, LV.wide.injEq, LV.word.injEq, LV.int.injEq, LV.bool.injEq, LV.str.injEq, LV.big.injEq, LV.tup.injEq, LV.agg.injEq, List.cons.injEq, and_true, true_and]
    rfl
  · rw [hx]
    simp only [kR, canon, canons, getW, getWord, allInts8, asInt, isK, kindEq, isArgB, strOf, cBig, cInts, cWords, allInts, allWords, r_ofLimbs, r_mkWord, Option.some.injEq, LV.wide.injEq, LV.word.injEq, LV.int.injEq, LV.bool.injEq, LV.str.injEq, LV.big.injEq, LV.tup.injEq, LV.agg.injEq, List.cons.injEq, and_true, true_and]
    rfl
theorem p_awake32 : SpecOk Tryz.prog globs 14 (mkSpec real [] (s_awake32 ropsX)) := by
  have hfns : FnsOk Tryz.prog globs [(8, .spec (mkSpec real [.int .i64, .int .i64, .word] (s_iround ropsX)))] := (fnsCons (fnSpec (p_iround)) fnsNil)
  refine spec0 hfns (by kernel_rfl) Tryz.func14 (by kernel_rfl) (by kernel_rfl) (by kernel_rfl) 4 _ _ (.bool) ?_
  clear hfns
  generalize hEE : env0 [(8, .spec (mkSpec real [.int .i64, .int .i64, .word] (s_iround ropsX)))] = EE
  intro l r hl hr
  simp only [Forms, Form] at hl
  obtain rfl := hl
  subst hEE
  generalize hK : kR (.bool) r = K
  generalize hO : real = O
  generalize hS0 : rops = S0
  generalize hS1 : ropsB = S1
  generalize hS2 : ropsC = S2
  generalize hS3 : ropsD = S3
  generalize hS4 : ropsE = S4
  generalize hS5 : ropsF = S5
  generalize hS6 : ropsG = S6
  generalize hS7 : ropsH = S7
  generalize hS8 : ropsI = S8
  generalize hS9 : ropsJ = S9
  generalize hS10 : ropsK = S10
  generalize hS11 : ropsL = S11
  generalize hS12 : ropsM = S12
  generalize hS13 : ropsN = S13
  generalize hS14 : ropsP = S14
  generalize hS15 : ropsQ = S15
  generalize hS16 : ropsT = S16
  generalize hS17 : ropsU = S17
  generalize hS18 : ropsV = S18
  generalize hS19 : ropsW = S19
  generalize hS20 : ropsX = S20
  set_option maxRecDepth 100000 in cbv
  subst hO hK hS0 hS1 hS2 hS3 hS4 hS5 hS6 hS7 hS8 hS9 hS10 hS11 hS12 hS13 hS14 hS15 hS16 hS17 hS18 hS19 hS20
  simp only [s_awake32, R.Y] at hr
  subst hr
  try dsimp only [real, rops, ropsB, ropsC, ropsD, ropsE, ropsF, ropsG, ropsH, ropsI, ropsJ, ropsK, ropsL, ropsM, ropsN, ropsP, ropsQ, ropsT, ropsU, ropsV, ropsW, ropsX]
  simp only [kb_t, kb_lt, kb_lf]; decide +kernel
theorem p_IntegralRounds : SpecOk Tryz.prog globs 3 (mkSpec real [.int .i64, .int .i64, .word] (s_IntegralRounds ropsX)) := by
  have hfns : FnsOk Tryz.prog globs [(8, .spec (mkSpec real [.int .i64, .int .i64, .word] (s_iround ropsX))), (9, .spec (mkSpec real [.int .i64, .word] (s_whole32 ropsX))), (10, .spec (mkSpec real [.int .i64, .word] (s_iis ropsX))), (11, .spec (mkSpec real [.int .i64, .word] (s_iodd ropsX))), (12, .spec (mkSpec real [.int .i64] (s_mIs08 ropsT))), (13, .spec (mkSpec real [.int .i64, .word] (s_fits05 ropsB))), (16, .spec (mkSpec real [.int .i64, .word] (s_some32 ropsX))), (15, .spec (mkSpec real [.int .i64, .word] (s_other32 ropsX))), (17, .spec (mkSpec real [.int .i64, .int .i64, .word] (s_round32 ropsX))), (14, .spec (mkSpec real [] (s_awake32 ropsX)))] := (fnsCons (fnSpec (p_iround)) (fnsCons (fnSpec (p_whole32)) (fnsCons (fnSpec (p_iis)) (fnsCons (fnSpec (p_iodd)) (fnsCons (fnSpec (p_mIs08)) (fnsCons (fnSpec (p_fits05)) (fnsCons (fnSpec (p_some32)) (fnsCons (fnSpec (p_other32)) (fnsCons (fnSpec (p_round32)) (fnsCons (fnSpec (p_awake32)) fnsNil))))))))))
  refine spec0 hfns (by kernel_rfl) Tryz.func3 (by kernel_rfl) (by kernel_rfl) (by kernel_rfl) 4 _ _ (.bool) ?_
  clear hfns
  generalize hEE : env0 [(8, .spec (mkSpec real [.int .i64, .int .i64, .word] (s_iround ropsX))), (9, .spec (mkSpec real [.int .i64, .word] (s_whole32 ropsX))), (10, .spec (mkSpec real [.int .i64, .word] (s_iis ropsX))), (11, .spec (mkSpec real [.int .i64, .word] (s_iodd ropsX))), (12, .spec (mkSpec real [.int .i64] (s_mIs08 ropsT))), (13, .spec (mkSpec real [.int .i64, .word] (s_fits05 ropsB))), (16, .spec (mkSpec real [.int .i64, .word] (s_some32 ropsX))), (15, .spec (mkSpec real [.int .i64, .word] (s_other32 ropsX))), (17, .spec (mkSpec real [.int .i64, .int .i64, .word] (s_round32 ropsX))), (14, .spec (mkSpec real [] (s_awake32 ropsX)))] = EE
  intro l r hl hr
  simp only [Forms, Form] at hl
  obtain ⟨_, _, rfl, ⟨x1, rfl, x1lo, x1hi⟩, _, _, rfl, ⟨x2, rfl, x2lo, x2hi⟩, _, _, rfl, ⟨x3, rfl⟩, rfl⟩ := hl
  subst hEE
  generalize hK : kR (.bool) r = K
  generalize hO : real = O
  generalize hS0 : rops = S0
  generalize hS1 : ropsB = S1
  generalize hS2 : ropsC = S2
  generalize hS3 : ropsD = S3
  generalize hS4 : ropsE = S4
  generalize hS5 : ropsF = S5
  generalize hS6 : ropsG = S6
  generalize hS7 : ropsH = S7
  generalize hS8 : ropsI = S8
  generalize hS9 : ropsJ = S9
  generalize hS10 : ropsK = S10
  generalize hS11 : ropsL = S11
  generalize hS12 : ropsM = S12
  generalize hS13 : ropsN = S13
  generalize hS14 : ropsP = S14
  generalize hS15 : ropsQ = S15
  generalize hS16 : ropsT = S16
  generalize hS17 : ropsU = S17
  generalize hS18 : ropsV = S18
  generalize hS19 : ropsW = S19
  generalize hS20 : ropsX = S20
  set_option maxRecDepth 100000 in cbv
  subst hO hK hS0 hS1 hS2 hS3 hS4 hS5 hS6 hS7 hS8 hS9 hS10 hS11 hS12 hS13 hS14 hS15 hS16 hS17 hS18 hS19 hS20
  simp only [s_IntegralRounds, R.Y] at hr
  subst hr
  try dsimp only [real, rops, ropsB, ropsC, ropsD, ropsE, ropsF, ropsG, ropsH, ropsI, ropsJ, ropsK, ropsL, ropsM, ropsN, ropsP, ropsQ, ropsT, ropsU, ropsV, ropsW, ropsX]
  have no : irOk x1 x2 x3 = false → irE x1 x2 x3 = 1 ∧ irW x1 x2 x3 = 0 ∧ irX x1 x2 x3 = 0 := fun h => by
    unfold irE irW irX; rw [h]; exact ⟨rfl, rfl, rfl⟩
  cases hm : isM x2 with
  | false =>
    obtain ⟨a1, a2, a3⟩ := no (by unfold irOk; rw [hm]; rfl)
    simp [a1, a2, a3, mkWord_0, eql_self, kb_t]
  | true =>
    cases hF : fFits x1 x3 with
    | false =>
      obtain ⟨a1, a2, a3⟩ := no (by unfold irOk; rw [hm, hF]; rfl)
      simp [a1, a2, a3, mkWord_0, eql_self, kb_t]
    | true =>
      have ho : irOk x1 x2 x3 = true := by unfold irOk; rw [hm, hF]; rfl
      have a1 : irE x1 x2 x3 = 0 := by unfold irE; rw [ho]; rfl
      cases hs : irSome x1 x3 with
      | true =>
        have hn : nanIs x1 [x3] = false := by
          rw [some_cls, decide_eq_true_eq] at hs
          unfold nanIs wNaN
          simp
          omega
        have a2 : irW x1 x2 x3 = fWordOf x1 (wNeg x1 x3) (irMag x1 x2 x3) := by unfold irW; rw [ho, hn, hs]; rfl
        have a3 : irX x1 x2 x3 = bif intX (vSig x1 x3) (vExp x1 x3) then 16 else 0 := by unfold irX; rw [ho, hn, hs]; rfl
        rw [a1, a2, a3]
        simp [eql_self, kb_t]
      | false =>
        have a2 : irW x1 x2 x3 = bif nanIs x1 [x3] then nanV x1 [x3] else x3 := by unfold irW; rw [ho, hs]; rfl
        have a3 : irX x1 x2 x3 = bif nanIs x1 [x3] then nanX x1 [x3] else 0 := by unfold irX; rw [ho, hs]; rfl
        rw [a1, a2, a3]
        simp [eql_self, kb_t]
end Go.LE