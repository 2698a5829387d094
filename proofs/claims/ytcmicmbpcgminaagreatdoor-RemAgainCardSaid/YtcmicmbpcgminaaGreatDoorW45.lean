import Derived.Test.YtcmicmbpcgminaaGreatDoorW44
import Derived.Test.YtcmicmbpcgminaaGreatDoorW13s
import Derived.Test.YtcmicmbpcgminaaGreatDoorLeX
set_option linter.unusedVariables false
set_option linter.unusedSimpArgs false
namespace Go.LE
open Go Go.Proofs
theorem sgn_wM' {f : Int} (hf : 1 ≤ f ∧ f ≤ 4) {M : Nat} (hM : M < halfN f) (b : Bool) : sgn f (wM f M) b = fWordOf f b M := by
  have hm := wOf_mag hf hM false
  unfold magN halfN at hm
  unfold sgn wM
  rw [hm]
theorem mdP_congr {A D b c : Nat} {o p : Bool} {i : Int} (h : mdP A D b o i) (e : b = c) (f : o = p) : mdP A D c p i := by subst e f; exact h
def lf31T : Ty := .struct [.slice (.int .u32), .slice (.int .u32), .int .i64, .bool]
structure OpsRf where
  fin : Int → BitVec 128 → Prop
  far : Int → BitVec 128 → BitVec 128 → Bool
  isF : Int → Prop
  okN : Nat → Int → Prop
  repr : Int → Nat → Int → Prop
  wd : Int → Nat → Int → Bool → BitVec 128
  okL : Nat → Nat → Prop
  nrR : Nat → Nat → Bool → Nat
  nrT : Nat → Nat → Bool → Bool
  nzS : Int → BitVec 128 → Prop
  near : Int → BitVec 128 → BitVec 128 → Prop
  rmR : Int → BitVec 128 → BitVec 128 → Nat
  rmD : Int → BitVec 128 → BitVec 128 → Nat
  rmO : Int → BitVec 128 → BitVec 128 → Bool
  rmE : Int → BitVec 128 → BitVec 128 → Int
def farB (f : Int) (a b : BitVec 128) : Bool := decide (2300 < vExp f a - vExp f b) || decide (2300 < vExp f b - vExp f a)
noncomputable def ropsRf : OpsRf where
  fin := fun f w => wFin f w = true
  far := farB
  isF := fun f => 1 ≤ f ∧ f ≤ 4
  okN := okN
  repr := fun f b e => findM f b e < infN f ∧ sizeN (vSig f (wM f (findM f b e))).toNat (vExp f (wM f (findM f b e))) b e = 0
  wd := fun f b e neg => fWordOf f neg (findM f b e)
  okL := fun B D => B < D ∧ bitN D ≤ 100000
  nrR := nrR
  nrT := nrT
  nzS := fun f w => (vSig f w).toNat ≠ 0
  near := fun f a b => farB f a b = false
  rmR := rmR
  rmD := rmD
  rmO := rmO
  rmE := rmE
def s_far31 (S : OpsRf) : List LV → R LV
  | [.int _ f, .word a, .word b] => .req (S.fin f a) (.req (S.fin f b) (.ok (.bool (S.far f a b))))
  | _ => .fail
def s_word31 (S : OpsRf) : List LV → R LV
  | [.int _ f, .big b, .int _ e, .bool neg] => .req (S.isF f) (.req (S.okN b e) (.req (S.repr f b e) (.ok (.tup [.word (S.wd f b e neg), .bool true]))))
  | _ => .fail
def s_rem31 (S : OpsRf) : List LV → R LV
  | [.agg [.big B, .big D, .int _ _, .bool o]] => .req (S.okL B D) (.ok (.tup [.big (S.nrR B D o), .bool (S.nrT B D o)]))
  | _ => .fail
def s_mod31 (S : OpsRf) : List LV → R LV
  | [.int _ f, .word a, .word b] => .req (S.fin f a) (.req (S.fin f b) (.req (S.nzS f b) (.req (S.near f a b) (.ok (.agg [.big (S.rmR f a b), .big (S.rmD f a b), .int .i64 (S.rmE f a b), .bool (S.rmO f a b)])))))
  | _ => .fail
theorem p_far31 : SpecOk Tryz.prog globs 29 (mkSpec real [.int .i64, .word, .word] (s_far31 ropsRf)) := by
  have hfns : FnsOk Tryz.prog globs [(13, .spec (mkSpec real [.int .i64, .word] (s_value07 ropsM)))] := (fnsCons (fnSpec (p_value07)) fnsNil)
  refine spec0 hfns (by kernel_rfl) Tryz.func29 (by kernel_rfl) (by kernel_rfl) (by kernel_rfl) 4 _ _ (.bool) ?_
  clear hfns
  generalize hEE : env0 [(13, .spec (mkSpec real [.int .i64, .word] (s_value07 ropsM)))] = EE
  intro l r hl hr
  simp only [Forms, Form] at hl
  obtain ⟨_, _, rfl, ⟨x1, rfl, x1lo, x1hi⟩, _, _, rfl, ⟨x2, rfl⟩, _, _, rfl, ⟨x3, rfl⟩, rfl⟩ := hl
  subst hEE
  generalize hK : kR (.bool) r = K
  generalize hO : real = O
  generalize hS0 : rops = S0
  generalize hS1 : ropsB = S1
  generalize hS2 : ropsC = S2
  generalize hS3 : ropsD = S3
  generalize hS4 : ropsE = S4
  generalize hS5 : ropsF = S5
  generalize hS6 : ropsG = S6
  generalize hS7 : ropsH = S7
  generalize hS8 : ropsI = S8
  generalize hS9 : ropsJ = S9
  generalize hS10 : ropsK = S10
  generalize hS11 : ropsL = S11
  generalize hS12 : ropsM = S12
  generalize hS13 : ropsN = S13
  generalize hS14 : ropsP = S14
  generalize hS15 : ropsQ = S15
  generalize hS16 : ropsDv = S16
  generalize hS17 : ropsRm = S17
  generalize hS18 : ropsRs = S18
  generalize hS19 : ropsT = S19
  generalize hS20 : ropsU = S20
  generalize hS21 : ropsV = S21
  generalize hS22 : ropsRt = S22
  generalize hS23 : ropsQs = S23
  generalize hS24 : ropsRf = S24
  set_option maxRecDepth 100000 in cbv
  subst hO hK hS0 hS1 hS2 hS3 hS4 hS5 hS6 hS7 hS8 hS9 hS10 hS11 hS12 hS13 hS14 hS15 hS16 hS17 hS18 hS19 hS20 hS21 hS22 hS23 hS24
  simp only [s_far31, R.Y] at hr
  try dsimp only [real, rops, ropsB, ropsC, ropsD, ropsE, ropsF, ropsG, ropsH, ropsI, ropsJ, ropsK, ropsL, ropsM, ropsN, ropsP, ropsQ, ropsDv, ropsRm, ropsRs, ropsT, ropsU, ropsV, ropsRt, ropsQs, ropsRf]
  obtain ⟨ha, hb, hr⟩ := hr
  subst hr
  dsimp only [ropsRf]
  have h1 := vExp_rng ha
  have h2 := vExp_rng hb
  have e1 : arithR .sub .i64 (vExp x1 x2) (vExp x1 x3) = vExp x1 x2 - vExp x1 x3 := sub_i64 (by omega) (by omega)
  have e2 : arithR .sub .i64 (vExp x1 x3) (vExp x1 x2) = vExp x1 x3 - vExp x1 x2 := sub_i64 (by omega) (by omega)
  rw [e1, e2, gtr_dec, gtr_dec]
  refine ⟨ha, hb, imp_f fun h => ?_, imp_t fun h => ?_⟩
  · unfold farB
    rw [show decide (2300 < vExp x1 x2 - vExp x1 x3) = true from h]
    rfl
  · unfold farB
    rw [show decide (2300 < vExp x1 x2 - vExp x1 x3) = false from h, Bool.false_or]
    rfl
theorem p_word31 : SpecOk Tryz.prog globs 33 (mkSpec real [.int .i64, .big, .int .i64, .bool] (s_word31 ropsRf)) := by
  have hfns : FnsOk Tryz.prog globs [(70, .spec (mkSpec real [.int .i64, .st [.bool, .big, .int .i64]] (s_find07 ropsP))), (13, .spec (mkSpec real [.int .i64, .word] (s_value07 ropsM))), (35, .spec (mkSpec real [.st [.bool, .int .i64, .wide]] (s_of07 ropsK))), (36, .spec (mkSpec real [.st [.bool, .big, .int .i64], .st [.bool, .big, .int .i64]] (s_size07 ropsL))), (37, .spec (mkSpec real [.int .i64, .word, .bool] (s_signed06 ropsC)))] := (fnsCons (fnSpec (p_find07)) (fnsCons (fnSpec (p_value07)) (fnsCons (fnSpec (p_of07)) (fnsCons (fnSpec (p_size07)) (fnsCons (fnSpec (p_signed06)) fnsNil)))))
  refine spec0 hfns (by kernel_rfl) Tryz.func33 (by kernel_rfl) (by kernel_rfl) (by kernel_rfl) 4 _ _ (.tup [.word, .bool]) ?_
  clear hfns
  generalize hEE : env0 [(70, .spec (mkSpec real [.int .i64, .st [.bool, .big, .int .i64]] (s_find07 ropsP))), (13, .spec (mkSpec real [.int .i64, .word] (s_value07 ropsM))), (35, .spec (mkSpec real [.st [.bool, .int .i64, .wide]] (s_of07 ropsK))), (36, .spec (mkSpec real [.st [.bool, .big, .int .i64], .st [.bool, .big, .int .i64]] (s_size07 ropsL))), (37, .spec (mkSpec real [.int .i64, .word, .bool] (s_signed06 ropsC)))] = EE
  intro l r hl hr
  simp only [Forms, Form] at hl
  obtain ⟨_, _, rfl, ⟨x1, rfl, x1lo, x1hi⟩, _, _, rfl, ⟨x2, rfl, x2len⟩, _, _, rfl, ⟨x3, rfl, x3lo, x3hi⟩, _, _, rfl, ⟨x4, rfl⟩, rfl⟩ := hl
  subst hEE
  generalize hK : kR (.tup [.word, .bool]) r = K
  generalize hO : real = O
  generalize hS0 : rops = S0
  generalize hS1 : ropsB = S1
  generalize hS2 : ropsC = S2
  generalize hS3 : ropsD = S3
  generalize hS4 : ropsE = S4
  generalize hS5 : ropsF = S5
  generalize hS6 : ropsG = S6
  generalize hS7 : ropsH = S7
  generalize hS8 : ropsI = S8
  generalize hS9 : ropsJ = S9
  generalize hS10 : ropsK = S10
  generalize hS11 : ropsL = S11
  generalize hS12 : ropsM = S12
  generalize hS13 : ropsN = S13
  generalize hS14 : ropsP = S14
  generalize hS15 : ropsQ = S15
  generalize hS16 : ropsDv = S16
  generalize hS17 : ropsRm = S17
  generalize hS18 : ropsRs = S18
  generalize hS19 : ropsT = S19
  generalize hS20 : ropsU = S20
  generalize hS21 : ropsV = S21
  generalize hS22 : ropsRt = S22
  generalize hS23 : ropsQs = S23
  generalize hS24 : ropsRf = S24
  set_option maxRecDepth 100000 in cbv
  subst hO hK hS0 hS1 hS2 hS3 hS4 hS5 hS6 hS7 hS8 hS9 hS10 hS11 hS12 hS13 hS14 hS15 hS16 hS17 hS18 hS19 hS20 hS21 hS22 hS23 hS24
  simp only [s_word31, R.Y] at hr
  try dsimp only [real, rops, ropsB, ropsC, ropsD, ropsE, ropsF, ropsG, ropsH, ropsI, ropsJ, ropsK, ropsL, ropsM, ropsN, ropsP, ropsQ, ropsDv, ropsRm, ropsRs, ropsT, ropsU, ropsV, ropsRt, ropsQs, ropsRf]
  obtain ⟨hf, ho, hp, hr⟩ := hr
  subst hr
  dsimp only [ropsRf]
  replace hf : 1 ≤ x1 ∧ x1 ≤ 4 := hf
  obtain ⟨p1, p2⟩ : findM x1 x2 x3 < infN x1 ∧ sizeN (vSig x1 (wM x1 (findM x1 x2 x3))).toNat (vExp x1 (wM x1 (findM x1 x2 x3))) x2 x3 = 0 := hp
  have hi := inf_pos hf
  have hw : wFin x1 (wM x1 (findM x1 x2 x3)) = true := (of_fin hf p1 false).1
  have hr := vExp_rng hw
  rw [sgn_wM' hf (by omega), p2]
  refine ⟨hf, ho, hw, okN_wide _ ⟨by omega, by omega⟩, ho, hf, ?_⟩
  rfl
theorem p_rem31 : SpecOk Tryz.prog globs 30 (mkSpec real [.st [.big, .big, .int .i64, .bool]] (s_rem31 ropsRf)) := by
  have hfns : FnsOk Tryz.prog globs [(56, .spec (mkSpec real [.big, .int .i64] (s_shl01 ropsH))), (66, .spec (mkSpec real [.big, .big] (s_cmp01 ropsH))), (67, .spec (mkSpec real [.big, .big] (s_sub01 ropsH)))] := (fnsCons (fnSpec (p_shl01)) (fnsCons (fnSpec (p_cmp01)) (fnsCons (fnSpec (p_sub01)) fnsNil)))
  refine spec0 hfns (by kernel_rfl) Tryz.func30 (by kernel_rfl) (by kernel_rfl) (by kernel_rfl) 4 _ _ (.tup [.big, .bool]) ?_
  clear hfns
  generalize hEE : env0 [(56, .spec (mkSpec real [.big, .int .i64] (s_shl01 ropsH))), (66, .spec (mkSpec real [.big, .big] (s_cmp01 ropsH))), (67, .spec (mkSpec real [.big, .big] (s_sub01 ropsH)))] = EE
  intro l r hl hr
  simp only [Forms, Form] at hl
  obtain ⟨_, _, rfl, ⟨_, rfl, ⟨_, _, rfl, ⟨x1_1, rfl, x1_1len⟩, _, _, rfl, ⟨x1_2, rfl, x1_2len⟩, _, _, rfl, ⟨x1_3, rfl, x1_3lo, x1_3hi⟩, _, _, rfl, ⟨x1_4, rfl⟩, rfl⟩⟩, rfl⟩ := hl
  subst hEE
  generalize hK : kR (.tup [.big, .bool]) r = K
  generalize hO : real = O
  generalize hS0 : rops = S0
  generalize hS1 : ropsB = S1
  generalize hS2 : ropsC = S2
  generalize hS3 : ropsD = S3
  generalize hS4 : ropsE = S4
  generalize hS5 : ropsF = S5
  generalize hS6 : ropsG = S6
  generalize hS7 : ropsH = S7
  generalize hS8 : ropsI = S8
  generalize hS9 : ropsJ = S9
  generalize hS10 : ropsK = S10
  generalize hS11 : ropsL = S11
  generalize hS12 : ropsM = S12
  generalize hS13 : ropsN = S13
  generalize hS14 : ropsP = S14
  generalize hS15 : ropsQ = S15
  generalize hS16 : ropsDv = S16
  generalize hS17 : ropsRm = S17
  generalize hS18 : ropsRs = S18
  generalize hS19 : ropsT = S19
  generalize hS20 : ropsU = S20
  generalize hS21 : ropsV = S21
  generalize hS22 : ropsRt = S22
  generalize hS23 : ropsQs = S23
  generalize hS24 : ropsRf = S24
  set_option maxRecDepth 100000 in cbv
  subst hO hK hS0 hS1 hS2 hS3 hS4 hS5 hS6 hS7 hS8 hS9 hS10 hS11 hS12 hS13 hS14 hS15 hS16 hS17 hS18 hS19 hS20 hS21 hS22 hS23 hS24
  simp only [s_rem31, R.Y] at hr
  try dsimp only [real, rops, ropsB, ropsC, ropsD, ropsE, ropsF, ropsG, ropsH, ropsI, ropsJ, ropsK, ropsL, ropsM, ropsN, ropsP, ropsQ, ropsDv, ropsRm, ropsRs, ropsT, ropsU, ropsV, ropsRt, ropsQs, ropsRf]
  obtain ⟨hq, hr⟩ := hr
  subst hr
  dsimp only [ropsRf]
  obtain ⟨q1, q2⟩ : x1_1 < x1_2 ∧ bitN x1_2 ≤ 100000 := hq
  have s2 : small x1_2 := small_bits (k := 4000) (by omega) (by decide)
  have s1 : small x1_1 := small_mono (by omega) s2
  have e1 : x1_1 * 2 ^ Int.toNat 1 = 2 * x1_1 := by show x1_1 * 2 ^ 1 = _; omega
  rw [e1, cmpN_eql, cmpN_gtr]
  have hle : x1_1 ≤ x1_2 := by omega
  refine ⟨s1, by decide, imp_f fun h => ⟨s2, hle, ?_⟩, imp_t fun h => ⟨imp_f fun d => ⟨imp_f fun o => ⟨s2, hle, ?_⟩, imp_t fun o => ?_⟩, imp_t fun d => ?_⟩⟩
  · have ht : nrT x1_1 x1_2 x1_4 = true := by unfold nrT; rw [h]; rfl
    unfold nrR
    rw [ht]
    rfl
  · have ht : nrT x1_1 x1_2 x1_4 = true := by unfold nrT; rw [h, d, o]; rfl
    unfold nrR
    rw [ht]
    rfl
  · have ht : nrT x1_1 x1_2 x1_4 = false := by unfold nrT; rw [h, d, o]; rfl
    unfold nrR
    rw [ht]
    rfl
  · have ht : nrT x1_1 x1_2 x1_4 = false := by unfold nrT; rw [h, d]; rfl
    unfold nrR
    rw [ht]
    rfl
theorem p_mod31 : SpecOk Tryz.prog globs 31 (mkSpec real [.int .i64, .word, .word] (s_mod31 ropsRf)) := by
  have hfns : FnsOk Tryz.prog globs [(13, .spec (mkSpec real [.int .i64, .word] (s_value07 ropsM))), (35, .spec (mkSpec real [.st [.bool, .int .i64, .wide]] (s_of07 ropsK))), (56, .spec (mkSpec real [.big, .int .i64] (s_shl01 ropsH))), (19, .spec (mkSpec real [.big] (s_len01 ropsH))), (68, .spec (mkSpec real [.big] (s_odd01 ropsU))), (69, .spec (mkSpec real [.big, .int .i64] (s_shr01 ropsQs))), (55, .spec (mkSpec real [.big, .big] (s_add01 ropsH))), (57, .spec (mkSpec real [.int .u64] (s_small01 ropsH))), (66, .spec (mkSpec real [.big, .big] (s_cmp01 ropsH))), (67, .spec (mkSpec real [.big, .big] (s_sub01 ropsH)))] := (fnsCons (fnSpec (p_value07)) (fnsCons (fnSpec (p_of07)) (fnsCons (fnSpec (p_shl01)) (fnsCons (fnSpec (p_len01)) (fnsCons (fnSpec (p_odd01)) (fnsCons (fnSpec (p_shr01)) (fnsCons (fnSpec (p_add01)) (fnsCons (fnSpec (p_small01)) (fnsCons (fnSpec (p_cmp01)) (fnsCons (fnSpec (p_sub01)) fnsNil))))))))))
  refine specL (fun _ => [6,7,9,10,11,12,13]) hfns (by kernel_rfl) Tryz.func31 (by kernel_rfl) (by kernel_rfl) (by kernel_rfl) 4 _ _ (.st [.big, .big, .int .i64, .bool]) ?_
  clear hfns
  generalize hEE : envL (fun _ => [6,7,9,10,11,12,13]) [(13, .spec (mkSpec real [.int .i64, .word] (s_value07 ropsM))), (35, .spec (mkSpec real [.st [.bool, .int .i64, .wide]] (s_of07 ropsK))), (56, .spec (mkSpec real [.big, .int .i64] (s_shl01 ropsH))), (19, .spec (mkSpec real [.big] (s_len01 ropsH))), (68, .spec (mkSpec real [.big] (s_odd01 ropsU))), (69, .spec (mkSpec real [.big, .int .i64] (s_shr01 ropsQs))), (55, .spec (mkSpec real [.big, .big] (s_add01 ropsH))), (57, .spec (mkSpec real [.int .u64] (s_small01 ropsH))), (66, .spec (mkSpec real [.big, .big] (s_cmp01 ropsH))), (67, .spec (mkSpec real [.big, .big] (s_sub01 ropsH)))] = EE
  intro l r hl hr
  simp only [Forms, Form] at hl
  obtain ⟨_, _, rfl, ⟨x1, rfl, x1lo, x1hi⟩, _, _, rfl, ⟨x2, rfl⟩, _, _, rfl, ⟨x3, rfl⟩, rfl⟩ := hl
  subst hEE
  generalize hK : kR (.st [.big, .big, .int .i64, .bool]) r = K
  generalize hO : real = O
  generalize hS0 : rops = S0
  generalize hS1 : ropsB = S1
  generalize hS2 : ropsC = S2
  generalize hS3 : ropsD = S3
  generalize hS4 : ropsE = S4
  generalize hS5 : ropsF = S5
  generalize hS6 : ropsG = S6
  generalize hS7 : ropsH = S7
  generalize hS8 : ropsI = S8
  generalize hS9 : ropsJ = S9
  generalize hS10 : ropsK = S10
  generalize hS11 : ropsL = S11
  generalize hS12 : ropsM = S12
  generalize hS13 : ropsN = S13
  generalize hS14 : ropsP = S14
  generalize hS15 : ropsQ = S15
  generalize hS16 : ropsDv = S16
  generalize hS17 : ropsRm = S17
  generalize hS18 : ropsRs = S18
  generalize hS19 : ropsT = S19
  generalize hS20 : ropsU = S20
  generalize hS21 : ropsV = S21
  generalize hS22 : ropsRt = S22
  generalize hS23 : ropsQs = S23
  generalize hS24 : ropsRf = S24
  set_option maxRecDepth 100000 in cbv
  obtain ⟨ha, hb, hz, hnr, hr⟩ := hr
  have hr : r = _ := hr.symm
  subst hO hK hS0 hS1 hS2 hS3 hS4 hS5 hS6 hS7 hS8 hS9 hS10 hS11 hS12 hS13 hS14 hS15 hS16 hS17 hS18 hS19 hS20 hS21 hS22 hS23 hS24
  subst hr
  replace ha : wFin x1 x2 = true := ha
  replace hb : wFin x1 x3 = true := hb
  have ra := vExp_rng ha
  have rb := vExp_rng hb
  replace hz : (vSig x1 x3).toNat ≠ 0 := hz
  replace hnr : farB x1 x2 x3 = false := hnr
  have hfar : vExp x1 x2 - vExp x1 x3 ≤ 2300 ∧ vExp x1 x3 - vExp x1 x2 ≤ 2300 := by
    unfold farB at hnr
    rw [Bool.or_eq_false_iff, decide_eq_false_iff_not, decide_eq_false_iff_not] at hnr
    omega
  have emn : real.mn (vExp x1 x2) (vExp x1 x3) = lfE (vExp x1 x2) (vExp x1 x3) := by
    show (if vExp x1 x3 < vExp x1 x2 then vExp x1 x3 else vExp x1 x2) = _
    unfold lfE; split <;> omega
  have hlE : lfE (vExp x1 x2) (vExp x1 x3) ≤ vExp x1 x2 ∧ lfE (vExp x1 x2) (vExp x1 x3) ≤ vExp x1 x3 ∧ -16495 ≤ lfE (vExp x1 x2) (vExp x1 x3) ∧ vExp x1 x2 - lfE (vExp x1 x2) (vExp x1 x3) ≤ 2300 ∧ vExp x1 x3 - lfE (vExp x1 x2) (vExp x1 x3) ≤ 2300 := by unfold lfE; omega
  have eD : arithR .sub .i64 (vExp x1 x3) (real.mn (vExp x1 x2) (vExp x1 x3)) = vExp x1 x3 - lfE (vExp x1 x2) (vExp x1 x3) := by rw [emn]; exact sub_i64 (by omega) (by omega)
  have hDp : 0 < rmD x1 x2 x3 := Nat.mul_pos (by omega) (Nat.two_pow_pos _)
  have hsm : ∀ c, c < 2 * rmD x1 x2 x3 + 2 → small c := fun c hc => by
    obtain ⟨hF, hf⟩ := fin_fits hb
    have hp := p_rng x1 hf
    have hlt := vSig_lt hb
    obtain ⟨k, hk⟩ : ∃ k : Nat, k = 100 := ⟨_, rfl⟩
    obtain ⟨q, hq⟩ : ∃ q : Nat, q = (fPrec x1).toNat + (vExp x1 x3 - lfE (vExp x1 x2) (vExp x1 x3)).toNat := ⟨_, rfl⟩
    refine small_lt (k := k) (by omega) ?_
    have a1 : rmD x1 x2 x3 < 2 ^ q := by
      rw [hq, Nat.pow_add]
      exact Nat.mul_lt_mul_of_pos_right hlt (Nat.two_pow_pos _)
    have a2 : 2 ^ (q + 2) ≤ 2 ^ (32 * k) := Nat.pow_le_pow_right (by decide) (by omega)
    rw [Nat.pow_add] at a2
    omega
  refine ⟨ha, hb, small_wide _, ?_, small_wide _, ?_⟩
  · show 0 ≤ arithR .sub .i64 (vExp x1 x3) (real.mn (vExp x1 x2) (vExp x1 x3)) ∧ arithR .sub .i64 (vExp x1 x3) (real.mn (vExp x1 x2) (vExp x1 x3)) ≤ 17179869184
    rw [eD]; omega
  · refine loop_rule (α := LV × Nat × Bool × Int × Int × Nat) (fun p => ⟨[.undef, .undef, .undef, .undef, .undef, .undef, .ptr 2 0, .ptr 11 0, .undef, .int .i64 p.2.2.2.2.1, .big (ropsK.wn (ropsM.vSig x1 x2)), .big p.2.2.2.2.2, .ptr 35 0, .int .i64 p.2.2.2.1, .undef, .undef, .undef, .undef, .undef, .undef, .undef, .undef, .undef, .undef, .undef, .undef, .undef, .undef, .undef, .undef, .undef, .undef, .undef, .undef, .undef, .undef, .undef, .undef, .undef, .undef, .undef, .undef, .undef, .undef, .undef, .undef, .undef, .undef, .undef, .undef, .undef, .undef, .undef, .undef, .undef, .undef, .undef, .undef, .undef, .undef, .undef, .undef, .undef, .undef, .undef, .undef, .undef, .undef, .undef, .undef, .undef, .undef, .undef, .undef, .undef, .undef, .undef, .undef, .undef, .undef, .undef, .undef, .undef, .undef, .undef, .undef, .undef, .undef, .undef], ofL [some (wordT, .word x2), some (wordT, .word x3), some (lf31T, .agg [.nils, .nils, .int .i64 0, .bool false]), none, none, none, none, none, none, none, none, some (refT, .agg [.bool (ropsM.vNeg x1 x2), .big (ropsK.wn (ropsM.vSig x1 x2)), .int .i64 (ropsM.vExp x1 x2)]), some (refT, .agg [.bool (ropsM.vNeg x1 x3), .big (ropsK.wn (ropsM.vSig x1 x3)), .int .i64 (ropsM.vExp x1 x3)]), none, none, none, none, none, none, none, none, none, none, none, none, none, none, none, none, none, none, none, none, none, none, some (lf31T, .agg [p.1, .big p.2.2.2.2.2, .int .i64 p.2.2.2.2.1, .bool p.2.2.1]), none, none, none, none, none, none, none, none, none, none], 46⟩)
      (fun m p => (p.1 = .big p.2.1 ∨ (p.1 = .nils ∧ p.2.1 = 0)) ∧ mdP (lfA (vSig x1 x2).toNat (vExp x1 x2) (vExp x1 x3)) (rmD x1 x2 x3) p.2.1 p.2.2.1 p.2.2.2.1 ∧ p.2.2.2.2.1 = lfE (vExp x1 x2) (vExp x1 x3) ∧ p.2.2.2.2.2 = rmD x1 x2 x3 ∧ p.2.2.2.1 ≤ 5000 ∧ p.2.2.2.1 + 1 ≤ ((m : Nat) : Int)) ?_ 5001 (.nils, 0, false, arithR .sub .i64 (arithR .sub .i64 (arithR .add .i64 (lenN (vSig x1 x2).toNat) (vExp x1 x2)) (real.mn (vExp x1 x2) (vExp x1 x3))) 1, real.mn (vExp x1 x2) (vExp x1 x3), (vSig x1 x3).toNat * 2 ^ (arithR .sub .i64 (vExp x1 x3) (real.mn (vExp x1 x2) (vExp x1 x3))).toNat) ?_
    · rintro m ⟨lv, B, o, i, L, D⟩ X ⟨hlv, h1, h2, h3, h4, h5⟩ hX
      replace hlv : lv = .big B ∨ (lv = .nils ∧ B = 0) := hlv
      have k1 : mdP (lfA (vSig x1 x2).toNat (vExp x1 x2) (vExp x1 x3)) (rmD x1 x2 x3) B o i := h1
      have k2 : L = lfE (vExp x1 x2) (vExp x1 x3) := h2
      have k3 : D = rmD x1 x2 x3 := h3
      have k4 : i ≤ 5000 := h4
      have k5 : i + 1 ≤ ((m : Nat) : Int) := h5
      clear h1 h2 h3 h4 h5
      obtain ⟨bb, hbb⟩ : ∃ bb : Nat, bb = B := ⟨_, rfl⟩
      rcases hlv with rfl | ⟨rfl, rfl⟩
      all_goals (generalize hK : kR _ _ = K; generalize hO : real = O; generalize hS0 : rops = S0; generalize hS1 : ropsB = S1; generalize hS2 : ropsC = S2; generalize hS3 : ropsD = S3; generalize hS4 : ropsE = S4; generalize hS5 : ropsF = S5; generalize hS6 : ropsG = S6; generalize hS7 : ropsH = S7; generalize hS8 : ropsI = S8; generalize hS9 : ropsJ = S9; generalize hS10 : ropsK = S10; generalize hS11 : ropsL = S11; generalize hS12 : ropsM = S12; generalize hS13 : ropsN = S13; generalize hS14 : ropsP = S14; generalize hS15 : ropsQ = S15; generalize hS16 : ropsDv = S16; generalize hS17 : ropsRm = S17; generalize hS18 : ropsRs = S18; generalize hS19 : ropsT = S19; generalize hS20 : ropsU = S20; generalize hS21 : ropsV = S21; generalize hS22 : ropsRt = S22; generalize hS23 : ropsQs = S23; generalize hS24 : ropsRf = S24; set_option maxRecDepth 100000 in cbv; subst hO hK hS0 hS1 hS2 hS3 hS4 hS5 hS6 hS7 hS8 hS9 hS10 hS11 hS12 hS13 hS14 hS15 hS16 hS17 hS18 hS19 hS20 hS21 hS22 hS23 hS24; dsimp only [real, rops, ropsB, ropsC, ropsD, ropsE, ropsF, ropsG, ropsH, ropsI, ropsJ, ropsK, ropsL, ropsM, ropsN, ropsP, ropsQ, ropsDv, ropsRm, ropsRs, ropsT, ropsU, ropsV, ropsRt, ropsQs, ropsRf])
      all_goals (
        subst k2 k3
        have k6 : i + 1 ≤ ((m : Nat) : Int) := k5
        clear k5
        have e2 : ∀ b : Nat, b * 2 ^ Int.toNat 1 = 2 * b := fun b => by show b * 2 ^ 1 = _; omega
        have e3 : Int.toNat 1 = 1 := rfl
        have e4 : arithR .sub .i64 (vExp x1 x2) (lfE (vExp x1 x2) (vExp x1 x3)) = vExp x1 x2 - lfE (vExp x1 x2) (vExp x1 x3) := sub_i64 (by omega) (by omega)
        refine ⟨imp_f fun g => ?_, imp_t fun g => ?_⟩
        · rw [c_geq_t] at g
          have e5 : arithR .sub .i64 i (vExp x1 x2 - lfE (vExp x1 x2) (vExp x1 x3)) = i - (vExp x1 x2 - lfE (vExp x1 x2) (vExp x1 x3)) := sub_i64 (by omega) (by omega)
          have e6 : arithR .sub .i64 i 1 = i - 1 := sub_i64 (by omega) (by omega)
          rw [e4, e5, e6]
          simp only [e2, e3]
          obtain ⟨s1, s2, s3⟩ := mdP_step hDp g k1
          obtain ⟨b1, b2⟩ := md_bit (n := (vSig x1 x2).toNat) (sh := (vExp x1 x2 - lfE (vExp x1 x2) (vExp x1 x3)).toNat) g
          have hA : lfA (vSig x1 x2).toNat (vExp x1 x2) (vExp x1 x3) = (vSig x1 x2).toNat * 2 ^ (vExp x1 x2 - lfE (vExp x1 x2) (vExp x1 x3)).toNat := rfl
          rw [show (((vExp x1 x2 - lfE (vExp x1 x2) (vExp x1 x3)).toNat : Nat) : Int) = vExp x1 x2 - lfE (vExp x1 x2) (vExp x1 x3) by omega] at b1 b2
          rw [hA] at s2 s3
          have hm : m = (m - 1) + 1 := by omega
          have hc : i - 1 + 1 ≤ ((m - 1 : Nat) : Int) := by omega
          have hc2 : i - 1 ≤ 5000 := by omega
          simp only [cmpN_geq, decide_eq_true_eq, decide_eq_false_iff_not]
          refine ⟨hsm _ (by omega), by decide, imp_f fun u => ⟨small_wide _, ?_, imp_f fun v => ⟨hsm _ (by omega), hsm _ (by omega), ?_⟩, imp_t fun v => ?_⟩, imp_t fun u => ?_⟩
          · rw [c_geq_t] at u
            omega
          · rw [c_geq_t] at u
            have hbit : (vSig x1 x2).toNat * 2 ^ (vExp x1 x2 - lfE (vExp x1 x2) (vExp x1 x3)).toNat / 2 ^ i.toNat % 2 = 1 := by rw [b1 u]; exact of_decide_eq_true v
            refine ⟨?_, ?_⟩
            · by_cases hd : rmD x1 x2 x3 ≤ bb * 2 ^ 1 + 1 <;> rw [hbb] at hd
              · refine .inr ⟨hsm _ (by omega), hd, ?_⟩
                refine hX (m - 1) (.big _, _, _, i - 1, lfE (vExp x1 x2) (vExp x1 x3), rmD x1 x2 x3) hm ⟨.inl rfl, ?_, rfl, rfl, hc2, hc⟩
                exact mdP_congr (s2 (by omega)) (by dsimp only; omega) (decide_eq_true hd).symm
              · exact .inl hd
            · by_cases hd : rmD x1 x2 x3 ≤ bb * 2 ^ 1 + 1 <;> rw [hbb] at hd
              · exact .inl hd
              · refine .inr ?_
                refine hX (m - 1) (.big _, _, _, i - 1, lfE (vExp x1 x2) (vExp x1 x3), rmD x1 x2 x3) hm ⟨.inl rfl, ?_, rfl, rfl, hc2, hc⟩
                exact mdP_congr (s3 (by omega)) (by dsimp only; omega) (decide_eq_false hd).symm
          · rw [c_geq_t] at u
            have hbit : (vSig x1 x2).toNat * 2 ^ (vExp x1 x2 - lfE (vExp x1 x2) (vExp x1 x3)).toNat / 2 ^ i.toNat % 2 = 0 := by
              rw [b1 u]
              have := of_decide_eq_false v
              omega
            refine ⟨?_, ?_⟩
            · by_cases hd : rmD x1 x2 x3 ≤ bb * 2 ^ 1 <;> rw [hbb] at hd
              · refine .inr ⟨hsm _ (by omega), hd, ?_⟩
                refine hX (m - 1) (.big _, _, _, i - 1, lfE (vExp x1 x2) (vExp x1 x3), rmD x1 x2 x3) hm ⟨.inl rfl, ?_, rfl, rfl, hc2, hc⟩
                exact mdP_congr (s2 (by omega)) (by dsimp only; omega) (decide_eq_true hd).symm
              · exact .inl hd
            · by_cases hd : rmD x1 x2 x3 ≤ bb * 2 ^ 1 <;> rw [hbb] at hd
              · exact .inl hd
              · refine .inr ?_
                refine hX (m - 1) (.big _, _, _, i - 1, lfE (vExp x1 x2) (vExp x1 x3), rmD x1 x2 x3) hm ⟨.inl rfl, ?_, rfl, rfl, hc2, hc⟩
                exact mdP_congr (s3 (by omega)) (by dsimp only; omega) (decide_eq_false hd).symm
          · rw [c_geq_f] at u
            have hbit := b2 (by omega)
            refine ⟨?_, ?_⟩
            · by_cases hd : rmD x1 x2 x3 ≤ bb * 2 ^ 1 <;> rw [hbb] at hd
              · refine .inr ⟨hsm _ (by omega), hd, ?_⟩
                refine hX (m - 1) (.big _, _, _, i - 1, lfE (vExp x1 x2) (vExp x1 x3), rmD x1 x2 x3) hm ⟨.inl rfl, ?_, rfl, rfl, hc2, hc⟩
                exact mdP_congr (s2 (by omega)) (by dsimp only; omega) (decide_eq_true hd).symm
              · exact .inl hd
            · by_cases hd : rmD x1 x2 x3 ≤ bb * 2 ^ 1 <;> rw [hbb] at hd
              · exact .inl hd
              · refine .inr ?_
                refine hX (m - 1) (.big _, _, _, i - 1, lfE (vExp x1 x2) (vExp x1 x3), rmD x1 x2 x3) hm ⟨.inl rfl, ?_, rfl, rfl, hc2, hc⟩
                exact mdP_congr (s3 (by omega)) (by dsimp only; omega) (decide_eq_false hd).symm
        · rw [c_geq_f] at g
          obtain ⟨f1, f2⟩ := mdP_end (by omega) k1
          have f1' : rmR x1 x2 x3 = _ := f1.symm
          have f2' : rmO x1 x2 x3 = _ := f2.symm
          rw [f1', f2']
          rfl)
    · have hw := bitN_wide (vSig x1 x2)
      have ei1 : arithR .add .i64 (lenN (vSig x1 x2).toNat) (vExp x1 x2) = ((bitN (vSig x1 x2).toNat : Nat) : Int) + vExp x1 x2 := add_i64 (by show _ ≤ ((bitN _ : Nat) : Int) + _; omega) (by show ((bitN _ : Nat) : Int) + _ ≤ _; omega)
      have ei2 : arithR .sub .i64 (((bitN (vSig x1 x2).toNat : Nat) : Int) + vExp x1 x2) (lfE (vExp x1 x2) (vExp x1 x3)) = ((bitN (vSig x1 x2).toNat : Nat) : Int) + vExp x1 x2 - lfE (vExp x1 x2) (vExp x1 x3) := sub_i64 (by omega) (by omega)
      have ei3 : arithR .sub .i64 (((bitN (vSig x1 x2).toNat : Nat) : Int) + vExp x1 x2 - lfE (vExp x1 x2) (vExp x1 x3)) 1 = ((bitN (vSig x1 x2).toNat : Nat) : Int) + (((vExp x1 x2 - lfE (vExp x1 x2) (vExp x1 x3)).toNat : Nat) : Int) - 1 := by rw [sub_i64 (by omega) (by omega)]; omega
      have ei : arithR .sub .i64 (arithR .sub .i64 (arithR .add .i64 (lenN (vSig x1 x2).toNat) (vExp x1 x2)) (real.mn (vExp x1 x2) (vExp x1 x3))) 1 = ((bitN (vSig x1 x2).toNat : Nat) : Int) + (((vExp x1 x2 - lfE (vExp x1 x2) (vExp x1 x3)).toNat : Nat) : Int) - 1 := by rw [ei1, emn, ei2, ei3]
      refine ⟨.inr ⟨rfl, rfl⟩, ?_, emn, ?_, ?_, ?_⟩
      · show mdP _ _ 0 false (arithR .sub .i64 (arithR .sub .i64 (arithR .add .i64 (lenN (vSig x1 x2).toNat) (vExp x1 x2)) (real.mn (vExp x1 x2) (vExp x1 x3))) 1)
        rw [ei]
        exact mdP_zero (md_start _ _)
      · show (vSig x1 x3).toNat * 2 ^ (arithR .sub .i64 (vExp x1 x3) (real.mn (vExp x1 x2) (vExp x1 x3))).toNat = _
        rw [eD]
        rfl
      · show arithR .sub .i64 (arithR .sub .i64 (arithR .add .i64 (lenN (vSig x1 x2).toNat) (vExp x1 x2)) (real.mn (vExp x1 x2) (vExp x1 x3))) 1 ≤ 5000
        rw [ei]; omega
      · show arithR .sub .i64 (arithR .sub .i64 (arithR .add .i64 (lenN (vSig x1 x2).toNat) (vExp x1 x2)) (real.mn (vExp x1 x2) (vExp x1 x3))) 1 + 1 ≤ ((5001 : Nat) : Int)
        rw [ei]; omega
end Go.LE