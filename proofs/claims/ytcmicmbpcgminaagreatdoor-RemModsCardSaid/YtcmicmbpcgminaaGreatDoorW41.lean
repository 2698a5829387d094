import Derived.Test.YtcmicmbpcgminaaGreatDoorW40
import Derived.Test.YtcmicmbpcgminaaGreatDoorLeX
set_option linter.unusedVariables false
set_option linter.unusedSimpArgs false
namespace Go.LE
open Go Go.Proofs
def lftT : Ty := .struct [.arr 8 (.int .u64), .int .i64, .bool]
structure OpsRm where
  okS : W → W → Prop
  quO : W → W → Bool
  remW : W → W → W
  okM : Int → W → Int → W → Prop
  lfR : W → Int → W → Int → W
  lfE : Int → Int → Int
  lfO : W → Int → W → Int → Bool
  okNr : W → W → Int → Int → Prop
  nrW : W → Bool → Int → W → Int → W
  nrB : W → Bool → Int → W → Int → Bool
  finI : Int → BitVec 128 → BitVec 128 → Bool
  vNeg : Int → BitVec 128 → Bool
  vExp : Int → BitVec 128 → Int
  vSig : Int → BitVec 128 → W
  uNeg : Int → BitVec 128 → Bool
  uExp : Int → BitVec 128 → Int
  uSig : Int → BitVec 128 → W
noncomputable def ropsRm : OpsRm where
  okS := fun n d => d.toNat ≠ 0 ∧ d.toNat < 2 ^ 250 ∧ n.toNat < 2 ^ 120
  quO := fun n d => decide ((n.toNat / d.toNat) % 2 = 1)
  remW := fun n d => BitVec.ofNat 512 (n.toNat % d.toNat)
  okM := fun xe xs ye ys => (-1048576 ≤ xe ∧ xe ≤ 1048576) ∧ (-1048576 ≤ ye ∧ ye ≤ 1048576) ∧ xs.toNat < 2 ^ 113 ∧ ys.toNat ≠ 0 ∧ ys.toNat < 2 ^ 120
  lfR := fun xs xe ys ye => BitVec.ofNat 512 (lfR xs.toNat xe ys.toNat ye)
  lfE := lfE
  lfO := fun xs xe ys ye => decide (lfQ xs.toNat xe ys.toNat ye % 2 = 1)
  okNr := fun l y e g => (-1048576 ≤ e ∧ e ≤ 1048576) ∧ (-1048576 ≤ g ∧ g ≤ 1048576) ∧ e ≤ g ∧ l.toNat < 2 ^ 120 ∧ y.toNat ≠ 0 ∧ y.toNat < 2 ^ 120 ∧ l.toNat < y.toNat * 2 ^ (g - e).toNat
  nrW := fun l o e y g => BitVec.ofNat 512 (nrR l.toNat (y.toNat * 2 ^ (g - e).toNat) o)
  nrB := fun l o e y g => nrT l.toNat (y.toNat * 2 ^ (g - e).toNat) o
  finI := fun f a b => wFin f a && uOk f b
  vNeg := vNeg
  vExp := vExp
  vSig := vSig
  uNeg := uNeg
  uExp := uExp
  uSig := uSig
def s_rsmall (S : OpsRm) : List LV → R LV
  | [.wide n, .wide d, .int _ e] => .req (S.okS n d) (.ok (.agg [.wide (S.remW n d), .int .i64 e, .bool (S.quO n d)]))
  | _ => .fail
def s_rfinite (S : OpsRm) : List LV → R LV
  | [.int _ f, .word a, .word b] => .ok (.tup [.agg [.bool (S.vNeg f a), .int .i64 (S.vExp f a), .wide (S.vSig f a)], .agg [.bool (S.uNeg f b), .int .i64 (S.uExp f b), .wide (S.uSig f b)], .bool (S.finI f a b)])
  | _ => .fail
def s_near (S : OpsRm) : List LV → R LV
  | [.agg [.wide l, .int _ e, .bool o], .agg [.bool _, .int _ g, .wide y]] => .req (S.okNr l y e g) (.ok (.tup [.agg [.wide (S.nrW l o e y g), .int .i64 e, .bool o], .bool (S.nrB l o e y g)]))
  | _ => .fail
set_option exponentiation.threshold 600 in
theorem p_rsmall : SpecOk Tryz.prog globs 118 (mkSpec real [.wide, .wide, .int .i64] (s_rsmall ropsRm)) := by
  have hfns : FnsOk Tryz.prog globs [(99, .spec (mkSpec real [.wide] (s_wLen rops))), (83, .spec (mkSpec real [.wide, .int .i64] (s_shl rops))), (85, .spec (mkSpec real [.wide, .wide] (s_wSub rops)))] := (fnsCons (fnSpec (p_wLen)) (fnsCons (fnSpec (p_shl)) (fnsCons (fnSpec (p_wSub)) fnsNil)))
  refine specL (fun _ => [2,3,4,6,7,8]) hfns (by kernel_rfl) Tryz.func118 (by kernel_rfl) (by kernel_rfl) (by kernel_rfl) 4 _ _ (.st [.wide, .int .i64, .bool]) ?_
  clear hfns
  generalize hEE : envL (fun _ => [2,3,4,6,7,8]) [(99, .spec (mkSpec real [.wide] (s_wLen rops))), (83, .spec (mkSpec real [.wide, .int .i64] (s_shl rops))), (85, .spec (mkSpec real [.wide, .wide] (s_wSub rops)))] = EE
  intro l r hl hr
  simp only [Forms, Form] at hl
  obtain ⟨_, _, rfl, ⟨x1, rfl⟩, _, _, rfl, ⟨x2, rfl⟩, _, _, rfl, ⟨x3, rfl, x3lo, x3hi⟩, rfl⟩ := hl
  subst hEE
  generalize hK : kR (.st [.wide, .int .i64, .bool]) r = K
  generalize hO : real = O
  generalize hS0 : rops = S0
  generalize hS1 : ropsB = S1
  generalize hS2 : ropsC = S2
  generalize hS3 : ropsD = S3
  generalize hS4 : ropsE = S4
  generalize hS5 : ropsF = S5
  generalize hS6 : ropsG = S6
  generalize hS7 : ropsH = S7
  generalize hS8 : ropsI = S8
  generalize hS9 : ropsJ = S9
  generalize hS10 : ropsK = S10
  generalize hS11 : ropsL = S11
  generalize hS12 : ropsM = S12
  generalize hS13 : ropsN = S13
  generalize hS14 : ropsP = S14
  generalize hS15 : ropsQ = S15
  generalize hS16 : ropsDv = S16
  generalize hS17 : ropsRm = S17
  set_option maxRecDepth 100000 in cbv
  obtain ⟨hq, hr⟩ := hr
  have hr : r = _ := hr.symm
  subst hO hK hS0 hS1 hS2 hS3 hS4 hS5 hS6 hS7 hS8 hS9 hS10 hS11 hS12 hS13 hS14 hS15 hS16 hS17
  subst hr
  obtain ⟨h1, h2, h3⟩ := id hq
  have hl1 := wLen_le x1
  have hl2 := wLen_le x2
  have e0 : arithR .sub .i64 (wLen x1) (wLen x2) = wLen x1 - wLen x2 := sub_i64 (by omega) (by omega)
  have hb1 : wLen x1 ≤ 120 := by rw [← bitN_wLen]; have := bitN_le.2 h3; omega
  have hst : x1.toNat < x2.toNat * 2 ^ (wLen x1 - wLen x2 + 1).toNat := by rw [← bitN_wLen, ← bitN_wLen]; exact dv_start h1
  refine loop_rule (α := W × Bool × W × Int) (fun p => ⟨[.undef, .undef, .int .i64 x3, .ptr 0 0, .ptr 1 0, .undef, .ptr 2 0, .bool p.2.1, .int .i64 p.2.2.2, .undef, .undef, .undef, .undef, .undef, .undef, .undef, .undef, .undef, .undef, .undef, .undef, .undef, .undef, .undef, .undef, .undef, .undef, .undef, .undef, .undef, .undef, .undef, .undef, .undef, .undef], ofL [some (wdT, .wide p.1), some (wdT, .wide x2), some (lftT, .agg [.wide p.2.2.1, .int .i64 0, .bool false]), none, none, none, none, none, none, none], 10⟩)
    (fun m p => (∃ q, dvP x1.toNat x2.toNat q p.1.toNat p.2.2.2 ∧ p.2.1 = decide (q % 2 = 1)) ∧ p.2.2.2 ≤ wLen x1 - wLen x2 ∧ p.2.2.2 + 1 ≤ ((m : Nat) : Int)) ?_ 512 (x1, false, ofLimbsR 0 0 0 0 0 0 0 0, arithR .sub .i64 (wLen x1) (wLen x2))
    ⟨⟨0, by show dvP _ _ 0 x1.toNat (arithR .sub .i64 (wLen x1) (wLen x2)); rw [e0]; exact dv_from hst, rfl⟩, by show arithR .sub .i64 (wLen x1) (wLen x2) ≤ _; rw [e0]; exact Int.le_refl _, by show arithR .sub .i64 (wLen x1) (wLen x2) + 1 ≤ _; rw [e0]; omega⟩
  rintro m ⟨l, o, z, i⟩ X ⟨⟨q, g1, g2⟩, g3, g4⟩ hX
  (generalize hK : kR _ _ = K; generalize hO : real = O; generalize hS0 : rops = S0; generalize hS1 : ropsB = S1; generalize hS2 : ropsC = S2; generalize hS3 : ropsD = S3; generalize hS4 : ropsE = S4; generalize hS5 : ropsF = S5; generalize hS6 : ropsG = S6; generalize hS7 : ropsH = S7; generalize hS8 : ropsI = S8; generalize hS9 : ropsJ = S9; generalize hS10 : ropsK = S10; generalize hS11 : ropsL = S11; generalize hS12 : ropsM = S12; generalize hS13 : ropsN = S13; generalize hS14 : ropsP = S14; generalize hS15 : ropsQ = S15; generalize hS16 : ropsDv = S16; generalize hS17 : ropsRm = S17; set_option maxRecDepth 100000 in cbv; subst hO hK hS0 hS1 hS2 hS3 hS4 hS5 hS6 hS7 hS8 hS9 hS10 hS11 hS12 hS13 hS14 hS15 hS16 hS17; dsimp only [real, rops, ropsB, ropsC, ropsD, ropsE, ropsF, ropsG, ropsH, ropsI, ropsJ, ropsK, ropsL, ropsM, ropsN, ropsP, ropsQ, ropsDv, ropsRm])
  have k1 : dvP x1.toNat x2.toNat q l.toNat i := g1
  have k2 : o = decide (q % 2 = 1) := g2
  have k3 : i ≤ wLen x1 - wLen x2 := g3
  have k4 : i + 1 ≤ ((m : Nat) : Int) := g4
  clear g1 g2 g3 g4
  refine ⟨imp_f fun g => ?_, imp_t fun g => ?_⟩
  · rw [c_geq_t] at g
    have e1 : arithR .sub .i64 i 1 = i - 1 := sub_i64 (by omega) (by omega)
    rw [e1]
    have hs : (wShl x2 i).toNat = x2.toNat * 2 ^ i.toNat := by
      refine shl_exact g (by omega) (k := 250) (by decide) ?_
      have a1 : x2.toNat < 2 ^ bitN x2.toNat := (bitN_rng h1).2.1
      have a2 : x2.toNat * 2 ^ i.toNat < 2 ^ bitN x2.toNat * 2 ^ i.toNat := Nat.mul_lt_mul_of_pos_right a1 (Nat.two_pow_pos _)
      have a3 := bitN_wLen x2
      refine Nat.lt_of_lt_of_le a2 ?_
      rw [← Nat.pow_add]
      exact Nat.pow_le_pow_right (by decide) (by omega)
    have hm : m = (m - 1) + 1 := by omega
    have hc : i - 1 + 1 ≤ ((m - 1 : Nat) : Int) := by omega
    have hc2 : i - 1 ≤ wLen x1 - wLen x2 := by omega
    refine ⟨imp_f fun b => ?_, imp_t fun b => ?_⟩
    · have hle : x2.toNat * 2 ^ i.toNat ≤ l.toNat := by
        rw [Bool.not_eq_true'] at b
        have := of_decide_eq_false b
        rw [hs] at this
        omega
      have hl : (l - wShl x2 i).toNat = l.toNat - x2.toNat * 2 ^ i.toNat := by rw [BitVec.toNat_sub_of_le (by rw [BitVec.le_def, hs]; exact hle), hs]
      have hd := dv_hit h1 g k1 hle
      exact hX (m - 1) (l - wShl x2 i, true, z, i - 1) hm ⟨⟨q + q + 1, by show dvP _ _ _ (l - wShl x2 i).toNat (i - 1); rw [hl]; exact hd, (decide_eq_true (by omega)).symm⟩, hc2, hc⟩
    · have hlt : l.toNat < x2.toNat * 2 ^ i.toNat := by
        rw [Bool.not_eq_false'] at b
        have := of_decide_eq_true b
        rw [hs] at this
        exact this
      have hd := dv_miss h1 g k1 hlt
      exact hX (m - 1) (l, false, z, i - 1) hm ⟨⟨q + q, hd, (decide_eq_false (by omega)).symm⟩, hc2, hc⟩
  · rw [c_geq_f] at g
    obtain ⟨f1, f2⟩ := dv_end (by omega) k1
    rw [← f1, ← f2, w_own_nat, k2]
    rfl
theorem p_rfinite : SpecOk Tryz.prog globs 74 (mkSpec real [.int .i64, .word, .word] (s_rfinite ropsRm)) := by
  have hfns : FnsOk Tryz.prog globs [(44, .spec (mkSpec real [.int .i64, .word] (s_value ropsL))), (117, .spec (mkSpec real [.int .i64, .word] (s_unpack ropsL)))] := (fnsCons (fnSpec (p_value)) (fnsCons (fnSpec (p_unpack)) fnsNil))
  refine spec0 hfns (by kernel_rfl) Tryz.func74 (by kernel_rfl) (by kernel_rfl) (by kernel_rfl) 4 _ _ (.tup [.st [.bool, .int .i64, .wide], .st [.bool, .int .i64, .wide], .bool]) ?_
  clear hfns
  generalize hEE : env0 [(44, .spec (mkSpec real [.int .i64, .word] (s_value ropsL))), (117, .spec (mkSpec real [.int .i64, .word] (s_unpack ropsL)))] = EE
  intro l r hl hr
  simp only [Forms, Form] at hl
  obtain ⟨_, _, rfl, ⟨x1, rfl, x1lo, x1hi⟩, _, _, rfl, ⟨x2, rfl⟩, _, _, rfl, ⟨x3, rfl⟩, rfl⟩ := hl
  subst hEE
  generalize hK : kR (.tup [.st [.bool, .int .i64, .wide], .st [.bool, .int .i64, .wide], .bool]) r = K
  generalize hO : real = O
  generalize hS0 : rops = S0
  generalize hS1 : ropsB = S1
  generalize hS2 : ropsC = S2
  generalize hS3 : ropsD = S3
  generalize hS4 : ropsE = S4
  generalize hS5 : ropsF = S5
  generalize hS6 : ropsG = S6
  generalize hS7 : ropsH = S7
  generalize hS8 : ropsI = S8
  generalize hS9 : ropsJ = S9
  generalize hS10 : ropsK = S10
  generalize hS11 : ropsL = S11
  generalize hS12 : ropsM = S12
  generalize hS13 : ropsN = S13
  generalize hS14 : ropsP = S14
  generalize hS15 : ropsQ = S15
  generalize hS16 : ropsDv = S16
  generalize hS17 : ropsRm = S17
  set_option maxRecDepth 100000 in cbv
  subst hO hK hS0 hS1 hS2 hS3 hS4 hS5 hS6 hS7 hS8 hS9 hS10 hS11 hS12 hS13 hS14 hS15 hS16 hS17
  simp only [s_rfinite, R.Y] at hr
  subst hr
  try dsimp only [real, rops, ropsB, ropsC, ropsD, ropsE, ropsF, ropsG, ropsH, ropsI, ropsJ, ropsK, ropsL, ropsM, ropsN, ropsP, ropsQ, ropsDv, ropsRm]
  refine ⟨imp_f fun h => ?_, imp_t fun h => ?_⟩
  · rw [h, Bool.true_and]
    rfl
  · rw [h, Bool.false_and]
    rfl
set_option exponentiation.threshold 600 in
theorem p_near : SpecOk Tryz.prog globs 64 (mkSpec real [.st [.wide, .int .i64, .bool], .st [.bool, .int .i64, .wide]] (s_near ropsRm)) := by
  have hfns : FnsOk Tryz.prog globs [(83, .spec (mkSpec real [.wide, .int .i64] (s_shl rops))), (115, .spec (mkSpec real [.wide, .wide] (s_wCmp rops))), (85, .spec (mkSpec real [.wide, .wide] (s_wSub rops)))] := (fnsCons (fnSpec (p_shl)) (fnsCons (fnSpec (p_wCmp)) (fnsCons (fnSpec (p_wSub)) fnsNil)))
  refine spec0 hfns (by kernel_rfl) Tryz.func64 (by kernel_rfl) (by kernel_rfl) (by kernel_rfl) 4 _ _ (.tup [.st [.wide, .int .i64, .bool], .bool]) ?_
  clear hfns
  generalize hEE : env0 [(83, .spec (mkSpec real [.wide, .int .i64] (s_shl rops))), (115, .spec (mkSpec real [.wide, .wide] (s_wCmp rops))), (85, .spec (mkSpec real [.wide, .wide] (s_wSub rops)))] = EE
  intro l r hl hr
  simp only [Forms, Form] at hl
  obtain ⟨_, _, rfl, ⟨_, rfl, ⟨_, _, rfl, ⟨x1_1, rfl⟩, _, _, rfl, ⟨x1_2, rfl, x1_2lo, x1_2hi⟩, _, _, rfl, ⟨x1_3, rfl⟩, rfl⟩⟩, _, _, rfl, ⟨_, rfl, ⟨_, _, rfl, ⟨x2_1, rfl⟩, _, _, rfl, ⟨x2_2, rfl, x2_2lo, x2_2hi⟩, _, _, rfl, ⟨x2_3, rfl⟩, rfl⟩⟩, rfl⟩ := hl
  subst hEE
  generalize hK : kR (.tup [.st [.wide, .int .i64, .bool], .bool]) r = K
  generalize hO : real = O
  generalize hS0 : rops = S0
  generalize hS1 : ropsB = S1
  generalize hS2 : ropsC = S2
  generalize hS3 : ropsD = S3
  generalize hS4 : ropsE = S4
  generalize hS5 : ropsF = S5
  generalize hS6 : ropsG = S6
  generalize hS7 : ropsH = S7
  generalize hS8 : ropsI = S8
  generalize hS9 : ropsJ = S9
  generalize hS10 : ropsK = S10
  generalize hS11 : ropsL = S11
  generalize hS12 : ropsM = S12
  generalize hS13 : ropsN = S13
  generalize hS14 : ropsP = S14
  generalize hS15 : ropsQ = S15
  generalize hS16 : ropsDv = S16
  generalize hS17 : ropsRm = S17
  set_option maxRecDepth 100000 in cbv
  subst hO hK hS0 hS1 hS2 hS3 hS4 hS5 hS6 hS7 hS8 hS9 hS10 hS11 hS12 hS13 hS14 hS15 hS16 hS17
  simp only [s_near, R.Y] at hr
  try dsimp only [real, rops, ropsB, ropsC, ropsD, ropsE, ropsF, ropsG, ropsH, ropsI, ropsJ, ropsK, ropsL, ropsM, ropsN, ropsP, ropsQ, ropsDv, ropsRm]
  obtain ⟨hq, hr⟩ := hr
  subst hr
  dsimp only [ropsRm]
  obtain ⟨q1, q2, q3, q4, q5, q6, q7⟩ := id hq
  have e1 : arithR .sub .i64 x2_2 x1_2 = x2_2 - x1_2 := sub_i64 (by omega) (by omega)
  rw [e1]
  have hs1 : (wShl x1_1 1).toNat = 2 * x1_1.toNat := by
    rw [shl_div q4 (by decide) (by decide)]
    show x1_1.toNat * 2 ^ 1 = _
    omega
  refine ⟨imp_f fun h => ?_, imp_t fun h => ?_⟩
  · rw [gtr_dec, decide_eq_true_eq] at h
    have hD : 2 * x1_1.toNat < x2_3.toNat * 2 ^ (x2_2 - x1_2).toNat := by
      have a1 : 2 ^ 121 ≤ 2 ^ (x2_2 - x1_2).toNat := Nat.pow_le_pow_right (by decide) (by omega)
      have a2 : 2 ^ (x2_2 - x1_2).toNat ≤ x2_3.toNat * 2 ^ (x2_2 - x1_2).toNat := Nat.le_mul_of_pos_left _ (by omega)
      omega
    have ht : nrT x1_1.toNat (x2_3.toNat * 2 ^ (x2_2 - x1_2).toNat) x1_3 = false := by
      unfold nrT
      rw [decide_eq_false (by omega), decide_eq_false (by omega)]; rfl
    unfold nrR
    rw [ht, cond_false, w_own_nat]
    rfl
  · rw [gtr_dec, decide_eq_false_iff_not] at h
    have hs2 : (wShl x2_3 (x2_2 - x1_2)).toNat = x2_3.toNat * 2 ^ (x2_2 - x1_2).toNat := by
      refine shl_exact (by omega) (by omega) (k := 300) (by decide) ?_
      have a1 : x2_3.toNat * 2 ^ (x2_2 - x1_2).toNat < 2 ^ 120 * 2 ^ (x2_2 - x1_2).toNat := Nat.mul_lt_mul_of_pos_right q6 (Nat.two_pow_pos _)
      have a2 : 2 ^ 120 * 2 ^ (x2_2 - x1_2).toNat ≤ 2 ^ 300 := by rw [← Nat.pow_add]; exact Nat.pow_le_pow_right (by decide) (by omega)
      exact Nat.lt_of_lt_of_le a1 a2
    have hcmp : wCmp (wShl x1_1 1) (wShl x2_3 (x2_2 - x1_2)) = cmpN (2 * x1_1.toNat) (x2_3.toNat * 2 ^ (x2_2 - x1_2).toNat) := by
      unfold wCmp cmpN
      rw [← hs1, ← hs2]
      by_cases he : wShl x1_1 1 = wShl x2_3 (x2_2 - x1_2)
      · rw [if_pos he, he, if_neg (by omega), if_neg (by omega)]
      · rw [if_neg he]
        have hne : (wShl x1_1 1).toNat ≠ (wShl x2_3 (x2_2 - x1_2)).toNat := fun hh => he (BitVec.eq_of_toNat_eq hh)
        by_cases hl : (wShl x1_1 1).toNat < (wShl x2_3 (x2_2 - x1_2)).toNat
        · rw [if_pos hl, if_pos hl]
        · rw [if_neg hl, if_neg hl, if_pos (by omega)]
    have hsub : BitVec.ofNat 512 (x2_3.toNat * 2 ^ (x2_2 - x1_2).toNat - x1_1.toNat) = wShl x2_3 (x2_2 - x1_2) - x1_1 := by
      rw [← hs2, ← w_own_nat (wShl x2_3 (x2_2 - x1_2) - x1_1), BitVec.toNat_sub_of_le (by rw [BitVec.le_def, hs2]; omega)]
    rw [hcmp, cmpN_lss, cmpN_eql]
    refine ⟨imp_f fun c => ?_, imp_t fun c => ⟨imp_f fun d => ⟨imp_f fun o => ?_, imp_t fun o => ?_⟩, imp_t fun d => ?_⟩⟩
    · rw [decide_eq_true_eq] at c
      have ht : nrT x1_1.toNat (x2_3.toNat * 2 ^ (x2_2 - x1_2).toNat) x1_3 = false := by
        unfold nrT
        rw [decide_eq_false (by omega), decide_eq_false (by omega)]; rfl
      unfold nrR
      rw [ht, cond_false, w_own_nat]
      rfl
    · rw [decide_eq_true_eq] at d
      have ht : nrT x1_1.toNat (x2_3.toNat * 2 ^ (x2_2 - x1_2).toNat) x1_3 = false := by
        unfold nrT
        rw [decide_eq_false (by omega), decide_eq_true d]
        rw [Bool.not_eq_true'] at o
        rw [o]; rfl
      unfold nrR
      rw [ht, cond_false, w_own_nat]
      rfl
    · rw [decide_eq_true_eq] at d
      have ht : nrT x1_1.toNat (x2_3.toNat * 2 ^ (x2_2 - x1_2).toNat) x1_3 = true := by
        unfold nrT
        rw [decide_eq_false (by omega), decide_eq_true d]
        rw [Bool.not_eq_false'] at o
        rw [o]; rfl
      unfold nrR
      rw [ht, cond_true, hsub]
      rfl
    · rw [decide_eq_false_iff_not] at c d
      have ht : nrT x1_1.toNat (x2_3.toNat * 2 ^ (x2_2 - x1_2).toNat) x1_3 = true := by
        unfold nrT
        rw [decide_eq_true (show x2_3.toNat * 2 ^ (x2_2 - x1_2).toNat < 2 * x1_1.toNat by omega)]; rfl
      unfold nrR
      rw [ht, cond_true, hsub]
      rfl
end Go.LE