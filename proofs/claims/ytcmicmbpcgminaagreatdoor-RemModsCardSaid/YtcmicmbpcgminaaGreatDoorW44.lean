import Derived.Test.YtcmicmbpcgminaaGreatDoorW43
import Derived.Test.YtcmicmbpcgminaaGreatDoorW29
import Derived.Test.YtcmicmbpcgminaaGreatDoorLeX
set_option linter.unusedVariables false
set_option linter.unusedSimpArgs false
namespace Go.LE
open Go Go.Proofs
def rtOk (f : Int) (a b : BitVec 128) : Bool := fFits f a && fFits f b
def rtIs (f : Int) (a b : BitVec 128) : Bool := wFin f a && uOk f b
def rtInf (f : Int) (a b : BitVec 128) : Bool := decide (cls f b = 3) && wFin f a
def rtW (f : Int) (a b w : BitVec 128) : BitVec 128 := bif rtOk f a b then (bif nanIs f [a, b] then nanV f [a, b] else bif rtInf f a b then a else bif rtIs f a b then w else fNaN f) else 0
def rtX (f : Int) (a b : BitVec 128) : Int := bif rtOk f a b then (bif nanIs f [a, b] then nanX f [a, b] else bif rtInf f a b then 0 else bif rtIs f a b then 0 else 1) else 0
def rtE (f : Int) (a b : BitVec 128) : Int := bif rtOk f a b then 0 else 1
def mdWord (f : Int) (a b : BitVec 128) : BitVec 128 := fWordOf f (wNeg f a) (findM f (rmR f a b) (rmE f a b))
def rrT (f : Int) (a b : BitVec 128) : Bool := nrT (rmR f a b) (rmD f a b) (rmO f a b)
def rrR (f : Int) (a b : BitVec 128) : Nat := nrR (rmR f a b) (rmD f a b) (rmO f a b)
def rrWord (f : Int) (a b : BitVec 128) : BitVec 128 := fWordOf f (wNeg f a != (rrT f a b && !decide (rrR f a b = 0))) (findM f (rrR f a b) (rmE f a b))
theorem rm_okM {f : Int} {a b : BitVec 128} (ha : wFin f a = true) (hb : uOk f b = true) : (-1048576 ≤ vExp f a ∧ vExp f a ≤ 1048576) ∧ (-1048576 ≤ uExp f b ∧ uExp f b ≤ 1048576) ∧ (vSig f a).toNat < 2 ^ 113 ∧ (uSig f b).toNat ≠ 0 ∧ (uSig f b).toNat < 2 ^ 120 := by
  have h1 := vExp_rng ha
  obtain ⟨hfin, _, _, _, _, u1, u2⟩ := u_own hb
  obtain ⟨k, k1, k2, k3, k4, k5⟩ := u_scale hb
  obtain ⟨hF, hf⟩ := fin_fits ha
  have hp := p_rng f hf
  have hlt := vSig_lt ha
  have h2 : 2 ^ (fPrec f).toNat ≤ 2 ^ 113 := Nat.pow_le_pow_right (by decide) (by omega)
  have h3 := Nat.mul_pos (show 0 < (vSig f b).toNat by omega) (Nat.two_pow_pos k)
  exact ⟨by omega, ⟨u1, u2⟩, by omega, by omega, by omega⟩
theorem rm_rOk {f e : Int} {s : W} (hf : 1 ≤ f ∧ f ≤ 4) (he : -1048576 ≤ e ∧ e ≤ 1048576) (hs : s.toNat < 2 ^ 120) : rOk f 1 e s false = true := by
  have hp := p_rng f hf
  have hl : wLen s ≤ 511 := by
    rw [← bitN_wLen]
    have := bitN_le.2 hs
    omega
  unfold rOk rightN
  rw [show fOk f = true from decide_eq_true hf, decide_eq_true (show 1 ≤ fPrec f ∧ fPrec f ≤ 500 by omega), show rgtE e = true from decide_eq_true he, decide_eq_true hl]
  rfl
set_option exponentiation.threshold 600 in
theorem nat_113 {x : Nat} (h : x < 2 ^ 113) : (BitVec.ofNat 512 x).toNat = x := by
  rw [BitVec.toNat_ofNat, Nat.mod_eq_of_lt (Nat.lt_of_lt_of_le h (Nat.pow_le_pow_right (by decide) (by decide)))]
theorem md_fin {f : Int} {a b : BitVec 128} (ha : wFin f a = true) (hb : uOk f b = true) :
    rW f 1 (!(vNeg f a == false)) (lfE (vExp f a) (uExp f b)) (BitVec.ofNat 512 (lfR (vSig f a).toNat (vExp f a) (uSig f b).toNat (uExp f b))) false = mdWord f a b ∧
    rX f 1 (!(vNeg f a == false)) (lfE (vExp f a) (uExp f b)) (BitVec.ofNat 512 (lfR (vSig f a).toNat (vExp f a) (uSig f b).toNat (uExp f b))) false = 0 ∧
    rE f 1 (lfE (vExp f a) (uExp f b)) (BitVec.ofNat 512 (lfR (vSig f a).toNat (vExp f a) (uSig f b).toNat (uExp f b))) false = 0 := by
  obtain ⟨j, j1, j2, j3, j4, j5, j6⟩ := rm_unpacked ha hb
  obtain ⟨r1, r2, r3, r4, r5⟩ := rm_okM ha hb
  obtain ⟨hF, hf⟩ := fin_fits ha
  have hn := nat_113 j5
  have ho : rOk f 1 (lfE (vExp f a) (uExp f b)) (BitVec.ofNat 512 (lfR (vSig f a).toNat (vExp f a) (uSig f b).toNat (uExp f b))) false = true := rm_rOk hf (by unfold lfE; omega) (by rw [hn]; omega)
  have hv : (!(vNeg f a == false)) = wNeg f a := by unfold vNeg; rw [ha]; cases wNeg f a <;> rfl
  obtain ⟨c1, c2⟩ := rm_round ha hb (R := rmR f a b) (Nat.le_refl _) (hn.trans j2) j1 (neg := wNeg f a) ho
  rw [hv]
  refine ⟨c1, c2, ?_⟩
  unfold rE
  rw [ho]; rfl
structure OpsRt where
  mdW : Int → BitVec 128 → BitVec 128 → BitVec 128
  rrW : Int → BitVec 128 → BitVec 128 → BitVec 128
  rtX : Int → BitVec 128 → BitVec 128 → Int
  rtE : Int → BitVec 128 → BitVec 128 → Int
  parI : Int → BitVec 128 → BitVec 128 → Int
  parB : Int → BitVec 128 → BitVec 128 → Bool
noncomputable def ropsRt : OpsRt where
  mdW := fun f a b => rtW f a b (mdWord f a b)
  rrW := fun f a b => rtW f a b (rrWord f a b)
  rtX := rtX
  rtE := rtE
  parI := fun f a b => bif rtIs f a b && rmO f a b then 1 else 0
  parB := rtIs
def s_rMod (S : OpsRt) : List LV → R LV
  | [.int _ f, .word a, .word b] => .ok (.tup [.word (S.mdW f a b), .int .i64 (S.rtX f a b), .int .i64 (S.rtE f a b)])
  | _ => .fail
def s_mdTell (_ : OpsRt) : List LV → R LV
  | [.agg [.wide l, .int _ e, .bool o], .agg [.bool _, .int _ _, .wide _]] => .ok (.tup [.agg [.wide l, .int .i64 e, .bool o], .bool false])
  | _ => .fail
def s_rRem (S : OpsRt) : List LV → R LV
  | [.int _ f, .word a, .word b] => .ok (.tup [.word (S.rrW f a b), .int .i64 (S.rtX f a b), .int .i64 (S.rtE f a b)])
  | _ => .fail
def s_rParity (S : OpsRt) : List LV → R LV
  | [.int _ f, .word a, .word b] => .ok (.tup [.int .i64 (S.parI f a b), .bool (S.parB f a b)])
  | _ => .fail
theorem p_mdTell : SpecOk Tryz.prog globs 71 (mkSpec real [.st [.wide, .int .i64, .bool], .st [.bool, .int .i64, .wide]] (s_mdTell ropsRt)) := by
  have hfns : FnsOk Tryz.prog globs [] := fnsNil
  refine spec0 hfns (by kernel_rfl) Tryz.func71 (by kernel_rfl) (by kernel_rfl) (by kernel_rfl) 4 _ _ (.tup [.st [.wide, .int .i64, .bool], .bool]) ?_
  clear hfns
  generalize hEE : env0 [] = EE
  intro l r hl hr
  simp only [Forms, Form] at hl
  obtain ⟨_, _, rfl, ⟨_, rfl, ⟨_, _, rfl, ⟨x1_1, rfl⟩, _, _, rfl, ⟨x1_2, rfl, x1_2lo, x1_2hi⟩, _, _, rfl, ⟨x1_3, rfl⟩, rfl⟩⟩, _, _, rfl, ⟨_, rfl, ⟨_, _, rfl, ⟨x2_1, rfl⟩, _, _, rfl, ⟨x2_2, rfl, x2_2lo, x2_2hi⟩, _, _, rfl, ⟨x2_3, rfl⟩, rfl⟩⟩, rfl⟩ := hl
  subst hEE
  generalize hK : kR (.tup [.st [.wide, .int .i64, .bool], .bool]) r = K
  generalize hO : real = O
  set_option maxRecDepth 100000 in cbv
  subst hO hK 
  simp only [s_mdTell, R.Y] at hr
  subst hr
  try dsimp only [real, rops, ropsB, ropsC, ropsD, ropsE, ropsF, ropsG, ropsH, ropsI, ropsJ, ropsK, ropsL, ropsM, ropsN, ropsP, ropsQ, ropsDv, ropsRm, ropsRs, ropsT, ropsU, ropsV, ropsRt]
  simp only [kR, canon, canons, getW, getWord, allInts8, asInt, isK, kindEq, isArgB, strOf, cBig, cInts, cWords, allInts, allWords, r_ofLimbs, r_mkWord, Option.some.injEq, LV.wide.injEq, LV.word.injEq, LV.int.injEq, LV.bool.injEq, LV.str.injEq, LV.big.injEq, LV.tup.injEq, LV.agg.injEq, List.cons.injEq, and_true, true_and]
set_option exponentiation.threshold 600 in
theorem p_rMod : SpecOk Tryz.prog globs 34 (mkSpec real [.int .i64, .word, .word] (s_rMod ropsRt)) := by
  have hfns : FnsOk Tryz.prog globs [(63, inlF Tryz.f63), (71, .spec (mkSpec real [.st [.wide, .int .i64, .bool], .st [.bool, .int .i64, .wide]] (s_mdTell ropsRt))), (88, .spec (mkSpec real [.int .i64, .word] (s_fits ropsB))), (96, .spec (mkSpec real [.int .i64, .words] (s_nanOf ropsG))), (74, .spec (mkSpec real [.int .i64, .word, .word] (s_rfinite ropsRm))), (95, .spec (mkSpec real [.int .i64, .word] (s_cOf ropsC))), (52, .spec (mkSpec real [.int .i64, .word] (s_cFinite ropsE))), (114, .spec (mkSpec real [.int .i64] (s_none10 ropsI))), (75, .spec (mkSpec real [.st [.bool, .int .i64, .wide], .st [.bool, .int .i64, .wide]] (s_rmod ropsRm))), (51, .spec (mkSpec real [.int .i64, .int .i64, .st [.bool, .int .i64, .wide], .bool] (s_round ropsT)))] := (fnsCons (inl_ok Tryz.func63 (by kernel_rfl) (by kernel_rfl)) (fnsCons (fnSpec (p_mdTell)) (fnsCons (fnSpec (p_fits)) (fnsCons (fnSpec (p_nanOf)) (fnsCons (fnSpec (p_rfinite)) (fnsCons (fnSpec (p_cOf)) (fnsCons (fnSpec (p_cFinite)) (fnsCons (fnSpec (p_none10)) (fnsCons (fnSpec (p_rmod)) (fnsCons (fnSpec (p_round)) fnsNil))))))))))
  refine spec0 hfns (by kernel_rfl) Tryz.func34 (by kernel_rfl) (by kernel_rfl) (by kernel_rfl) 6 _ _ (.tup [.word, .int .i64, .int .i64]) ?_
  clear hfns
  generalize hEE : env0 [(63, inlF Tryz.f63), (71, .spec (mkSpec real [.st [.wide, .int .i64, .bool], .st [.bool, .int .i64, .wide]] (s_mdTell ropsRt))), (88, .spec (mkSpec real [.int .i64, .word] (s_fits ropsB))), (96, .spec (mkSpec real [.int .i64, .words] (s_nanOf ropsG))), (74, .spec (mkSpec real [.int .i64, .word, .word] (s_rfinite ropsRm))), (95, .spec (mkSpec real [.int .i64, .word] (s_cOf ropsC))), (52, .spec (mkSpec real [.int .i64, .word] (s_cFinite ropsE))), (114, .spec (mkSpec real [.int .i64] (s_none10 ropsI))), (75, .spec (mkSpec real [.st [.bool, .int .i64, .wide], .st [.bool, .int .i64, .wide]] (s_rmod ropsRm))), (51, .spec (mkSpec real [.int .i64, .int .i64, .st [.bool, .int .i64, .wide], .bool] (s_round ropsT)))] = EE
  intro l r hl hr
  simp only [Forms, Form] at hl
  obtain ⟨_, _, rfl, ⟨x1, rfl, x1lo, x1hi⟩, _, _, rfl, ⟨x2, rfl⟩, _, _, rfl, ⟨x3, rfl⟩, rfl⟩ := hl
  subst hEE
  generalize hK : kR (.tup [.word, .int .i64, .int .i64]) r = K
  generalize hO : real = O
  generalize hS0 : rops = S0
  generalize hS1 : ropsB = S1
  generalize hS2 : ropsC = S2
  generalize hS3 : ropsD = S3
  generalize hS4 : ropsE = S4
  generalize hS5 : ropsF = S5
  generalize hS6 : ropsG = S6
  generalize hS7 : ropsH = S7
  generalize hS8 : ropsI = S8
  generalize hS9 : ropsJ = S9
  generalize hS10 : ropsK = S10
  generalize hS11 : ropsL = S11
  generalize hS12 : ropsM = S12
  generalize hS13 : ropsN = S13
  generalize hS14 : ropsP = S14
  generalize hS15 : ropsQ = S15
  generalize hS16 : ropsDv = S16
  generalize hS17 : ropsRm = S17
  generalize hS18 : ropsRs = S18
  generalize hS19 : ropsT = S19
  generalize hS20 : ropsU = S20
  generalize hS21 : ropsV = S21
  generalize hS22 : ropsRt = S22
  set_option maxRecDepth 100000 in cbv
  subst hO hK hS0 hS1 hS2 hS3 hS4 hS5 hS6 hS7 hS8 hS9 hS10 hS11 hS12 hS13 hS14 hS15 hS16 hS17 hS18 hS19 hS20 hS21 hS22
  simp only [s_rMod, R.Y] at hr
  subst hr
  try dsimp only [real, rops, ropsB, ropsC, ropsD, ropsE, ropsF, ropsG, ropsH, ropsI, ropsJ, ropsK, ropsL, ropsM, ropsN, ropsP, ropsQ, ropsDv, ropsRm, ropsRs, ropsT, ropsU, ropsV, ropsRt]
  have leaf0 : rtOk x1 x2 x3 = false → kR (AT.tup [AT.word, AT.int IntKind.i64, AT.int IntKind.i64]) (LV.tup [LV.word (rtW x1 x2 x3 (mdWord x1 x2 x3)), LV.int IntKind.i64 (rtX x1 x2 x3), LV.int IntKind.i64 (rtE x1 x2 x3)])
      (LV.tup [LV.agg [LV.lit IntKind.u64 0, LV.lit IntKind.u64 0], LV.lit IntKind.i64 0, LV.lit IntKind.i64 1]) := fun h => by
    unfold rtW rtX rtE
    rw [h]
    simp only [kR, canon, canons, getW, getWord, allInts8, asInt, isK, kindEq, isArgB, strOf, cBig, cInts, cWords, allInts, allWords, r_ofLimbs, r_mkWord, Option.some.injEq, LV.wide.injEq, LV.word.injEq, LV.int.injEq, LV.bool.injEq, LV.str.injEq, LV.big.injEq, LV.tup.injEq, LV.agg.injEq, List.cons.injEq, and_true, true_and]
    exact ⟨mkWord_0, rfl, rfl⟩
  cases hF1 : fFits x1 x2 with
  | false => exact ⟨imp_f fun _ => leaf0 (by unfold rtOk; rw [hF1]; rfl), imp_t fun h => by simp at h⟩
  | true =>
    refine ⟨imp_f fun h => by simp at h, imp_t fun _ => ?_⟩
    cases hF2 : fFits x1 x3 with
    | false => exact ⟨imp_f fun _ => leaf0 (by unfold rtOk; rw [hF1, hF2]; rfl), imp_t fun h => by simp at h⟩
    | true =>
      refine ⟨imp_f fun h => by simp at h, imp_t fun _ => ?_⟩
      have ho : rtOk x1 x2 x3 = true := by unfold rtOk; rw [hF1, hF2]; rfl
      have hf := (fits_lt hF1).1
      have hE : rtE x1 x2 x3 = 0 := by unfold rtE; rw [ho]; rfl
      cases hn : nanIs x1 [x2, x3] with
      | true =>
        refine ⟨imp_f fun _ => ?_, imp_t fun h => (by cases h)⟩
        unfold rtW rtX
        rw [ho, hn, hE]
        simp only [kR, canon, canons, getW, getWord, allInts8, asInt, isK, kindEq, isArgB, strOf, cBig, cInts, cWords, allInts, allWords, r_ofLimbs, r_mkWord, Option.some.injEq, LV.wide.injEq, LV.word.injEq, LV.int.injEq, LV.bool.injEq, LV.str.injEq, LV.big.injEq, LV.tup.injEq, LV.agg.injEq, List.cons.injEq, and_true, true_and]
        exact ⟨rfl, rfl⟩
      | false =>
        refine ⟨imp_f fun h => (by cases h), imp_t fun _ => ?_⟩
        have hI : (wFin x1 x2 && uOk x1 x3) = rtIs x1 x2 x3 := rfl
        rw [hI]
        have none : rtInf x1 x2 x3 = false → rtIs x1 x2 x3 = false → kR (AT.tup [AT.word, AT.int IntKind.i64, AT.int IntKind.i64]) (LV.tup [LV.word (rtW x1 x2 x3 (mdWord x1 x2 x3)), LV.int IntKind.i64 (rtX x1 x2 x3), LV.int IntKind.i64 (rtE x1 x2 x3)])
            (LV.tup [LV.word (fNaN x1), LV.int IntKind.i64 (bif fOk x1 then 1 else 0), LV.lit IntKind.i64 0]) := fun h1 h2 => by
          unfold rtW rtX
          rw [ho, hn, hE, h1, h2, show fOk x1 = true from decide_eq_true hf]
          simp only [kR, canon, canons, getW, getWord, allInts8, asInt, isK, kindEq, isArgB, strOf, cBig, cInts, cWords, allInts, allWords, r_ofLimbs, r_mkWord, Option.some.injEq, LV.wide.injEq, LV.word.injEq, LV.int.injEq, LV.bool.injEq, LV.str.injEq, LV.big.injEq, LV.tup.injEq, LV.agg.injEq, List.cons.injEq, and_true, true_and]
          exact ⟨rfl, rfl⟩
        have noU : cls x1 x3 = 3 → rtIs x1 x2 x3 = false := fun h => by
          unfold rtIs uOk
          have : wFin x1 x3 = false := by
            cases hh : wFin x1 x3 with
            | false => rfl
            | true => have := (fin_iff x1 x3).1 hh; omega
          rw [this, Bool.false_and, Bool.and_false]
        refine ⟨imp_f fun c => ⟨imp_f fun d => ?_, imp_t fun d => ⟨imp_f fun e => ?_, imp_t fun e => ?_⟩⟩, imp_t fun c => ⟨imp_f fun e => ?_, imp_t fun e => ?_⟩⟩
        · rw [c_eql_t] at c
          have hi : rtInf x1 x2 x3 = true := by unfold rtInf; rw [decide_eq_true c, d]; rfl
          unfold rtW rtX
          rw [ho, hn, hE, hi]
          simp only [kR, canon, canons, getW, getWord, allInts8, asInt, isK, kindEq, isArgB, strOf, cBig, cInts, cWords, allInts, allWords, r_ofLimbs, r_mkWord, Option.some.injEq, LV.wide.injEq, LV.word.injEq, LV.int.injEq, LV.bool.injEq, LV.str.injEq, LV.big.injEq, LV.tup.injEq, LV.agg.injEq, List.cons.injEq, and_true, true_and]
          exact ⟨rfl, rfl⟩
        · rw [Bool.not_eq_true'] at e
          exact none (by unfold rtInf; rw [d, Bool.and_false]) e
        · rw [c_eql_t] at c
          rw [noU c] at e
          cases e
        · rw [c_eql_f] at c
          rw [Bool.not_eq_true'] at e
          exact none (by unfold rtInf; rw [decide_eq_false c]; rfl) e
        · rw [c_eql_f] at c
          rw [Bool.not_eq_false'] at e
          have hi : rtInf x1 x2 x3 = false := by unfold rtInf; rw [decide_eq_false c]; rfl
          obtain ⟨ha, hb⟩ : wFin x1 x2 = true ∧ uOk x1 x3 = true := by
            have e' := e
            unfold rtIs at e'
            rw [Bool.and_eq_true] at e'
            exact e'
          have hW : rtW x1 x2 x3 (mdWord x1 x2 x3) = mdWord x1 x2 x3 := by unfold rtW; rw [ho, hn, hi, e]; rfl
          have hX : rtX x1 x2 x3 = 0 := by unfold rtX; rw [ho, hn, hi, e]; rfl
          rw [hW, hX, hE]
          refine ⟨rm_okM ha hb, ?_⟩
          obtain ⟨f1, f2, f3⟩ := md_fin ha hb
          refine .inr ?_
          rw [f1, f2, f3]
          rfl
set_option exponentiation.threshold 600 in
theorem p_rRem : SpecOk Tryz.prog globs 26 (mkSpec real [.int .i64, .word, .word] (s_rRem ropsRt)) := by
  have hfns : FnsOk Tryz.prog globs [(63, inlF Tryz.f63), (64, .spec (mkSpec real [.st [.wide, .int .i64, .bool], .st [.bool, .int .i64, .wide]] (s_near ropsRm))), (88, .spec (mkSpec real [.int .i64, .word] (s_fits ropsB))), (96, .spec (mkSpec real [.int .i64, .words] (s_nanOf ropsG))), (74, .spec (mkSpec real [.int .i64, .word, .word] (s_rfinite ropsRm))), (95, .spec (mkSpec real [.int .i64, .word] (s_cOf ropsC))), (52, .spec (mkSpec real [.int .i64, .word] (s_cFinite ropsE))), (114, .spec (mkSpec real [.int .i64] (s_none10 ropsI))), (75, .spec (mkSpec real [.st [.bool, .int .i64, .wide], .st [.bool, .int .i64, .wide]] (s_rmod ropsRm))), (51, .spec (mkSpec real [.int .i64, .int .i64, .st [.bool, .int .i64, .wide], .bool] (s_round ropsT)))] := (fnsCons (inl_ok Tryz.func63 (by kernel_rfl) (by kernel_rfl)) (fnsCons (fnSpec (p_near)) (fnsCons (fnSpec (p_fits)) (fnsCons (fnSpec (p_nanOf)) (fnsCons (fnSpec (p_rfinite)) (fnsCons (fnSpec (p_cOf)) (fnsCons (fnSpec (p_cFinite)) (fnsCons (fnSpec (p_none10)) (fnsCons (fnSpec (p_rmod)) (fnsCons (fnSpec (p_round)) fnsNil))))))))))
  refine spec0 hfns (by kernel_rfl) Tryz.func26 (by kernel_rfl) (by kernel_rfl) (by kernel_rfl) 6 _ _ (.tup [.word, .int .i64, .int .i64]) ?_
  clear hfns
  generalize hEE : env0 [(63, inlF Tryz.f63), (64, .spec (mkSpec real [.st [.wide, .int .i64, .bool], .st [.bool, .int .i64, .wide]] (s_near ropsRm))), (88, .spec (mkSpec real [.int .i64, .word] (s_fits ropsB))), (96, .spec (mkSpec real [.int .i64, .words] (s_nanOf ropsG))), (74, .spec (mkSpec real [.int .i64, .word, .word] (s_rfinite ropsRm))), (95, .spec (mkSpec real [.int .i64, .word] (s_cOf ropsC))), (52, .spec (mkSpec real [.int .i64, .word] (s_cFinite ropsE))), (114, .spec (mkSpec real [.int .i64] (s_none10 ropsI))), (75, .spec (mkSpec real [.st [.bool, .int .i64, .wide], .st [.bool, .int .i64, .wide]] (s_rmod ropsRm))), (51, .spec (mkSpec real [.int .i64, .int .i64, .st [.bool, .int .i64, .wide], .bool] (s_round ropsT)))] = EE
  intro l r hl hr
  simp only [Forms, Form] at hl
  obtain ⟨_, _, rfl, ⟨x1, rfl, x1lo, x1hi⟩, _, _, rfl, ⟨x2, rfl⟩, _, _, rfl, ⟨x3, rfl⟩, rfl⟩ := hl
  subst hEE
  generalize hK : kR (.tup [.word, .int .i64, .int .i64]) r = K
  generalize hO : real = O
  generalize hS0 : rops = S0
  generalize hS1 : ropsB = S1
  generalize hS2 : ropsC = S2
  generalize hS3 : ropsD = S3
  generalize hS4 : ropsE = S4
  generalize hS5 : ropsF = S5
  generalize hS6 : ropsG = S6
  generalize hS7 : ropsH = S7
  generalize hS8 : ropsI = S8
  generalize hS9 : ropsJ = S9
  generalize hS10 : ropsK = S10
  generalize hS11 : ropsL = S11
  generalize hS12 : ropsM = S12
  generalize hS13 : ropsN = S13
  generalize hS14 : ropsP = S14
  generalize hS15 : ropsQ = S15
  generalize hS16 : ropsDv = S16
  generalize hS17 : ropsRm = S17
  generalize hS18 : ropsRs = S18
  generalize hS19 : ropsT = S19
  generalize hS20 : ropsU = S20
  generalize hS21 : ropsV = S21
  generalize hS22 : ropsRt = S22
  set_option maxRecDepth 100000 in cbv
  subst hO hK hS0 hS1 hS2 hS3 hS4 hS5 hS6 hS7 hS8 hS9 hS10 hS11 hS12 hS13 hS14 hS15 hS16 hS17 hS18 hS19 hS20 hS21 hS22
  simp only [s_rRem, R.Y] at hr
  subst hr
  try dsimp only [real, rops, ropsB, ropsC, ropsD, ropsE, ropsF, ropsG, ropsH, ropsI, ropsJ, ropsK, ropsL, ropsM, ropsN, ropsP, ropsQ, ropsDv, ropsRm, ropsRs, ropsT, ropsU, ropsV, ropsRt]
  have leaf0 : rtOk x1 x2 x3 = false → kR (AT.tup [AT.word, AT.int IntKind.i64, AT.int IntKind.i64]) (LV.tup [LV.word (rtW x1 x2 x3 (rrWord x1 x2 x3)), LV.int IntKind.i64 (rtX x1 x2 x3), LV.int IntKind.i64 (rtE x1 x2 x3)])
      (LV.tup [LV.agg [LV.lit IntKind.u64 0, LV.lit IntKind.u64 0], LV.lit IntKind.i64 0, LV.lit IntKind.i64 1]) := fun h => by
    unfold rtW rtX rtE
    rw [h]
    simp only [kR, canon, canons, getW, getWord, allInts8, asInt, isK, kindEq, isArgB, strOf, cBig, cInts, cWords, allInts, allWords, r_ofLimbs, r_mkWord, Option.some.injEq, LV.wide.injEq, LV.word.injEq, LV.int.injEq, LV.bool.injEq, LV.str.injEq, LV.big.injEq, LV.tup.injEq, LV.agg.injEq, List.cons.injEq, and_true, true_and]
    exact ⟨mkWord_0, rfl, rfl⟩
  cases hF1 : fFits x1 x2 with
  | false => exact ⟨imp_f fun _ => leaf0 (by unfold rtOk; rw [hF1]; rfl), imp_t fun h => by simp at h⟩
  | true =>
    refine ⟨imp_f fun h => by simp at h, imp_t fun _ => ?_⟩
    cases hF2 : fFits x1 x3 with
    | false => exact ⟨imp_f fun _ => leaf0 (by unfold rtOk; rw [hF1, hF2]; rfl), imp_t fun h => by simp at h⟩
    | true =>
      refine ⟨imp_f fun h => by simp at h, imp_t fun _ => ?_⟩
      have ho : rtOk x1 x2 x3 = true := by unfold rtOk; rw [hF1, hF2]; rfl
      have hf := (fits_lt hF1).1
      have hE : rtE x1 x2 x3 = 0 := by unfold rtE; rw [ho]; rfl
      cases hn : nanIs x1 [x2, x3] with
      | true =>
        refine ⟨imp_f fun _ => ?_, imp_t fun h => (by cases h)⟩
        unfold rtW rtX
        rw [ho, hn, hE]
        simp only [kR, canon, canons, getW, getWord, allInts8, asInt, isK, kindEq, isArgB, strOf, cBig, cInts, cWords, allInts, allWords, r_ofLimbs, r_mkWord, Option.some.injEq, LV.wide.injEq, LV.word.injEq, LV.int.injEq, LV.bool.injEq, LV.str.injEq, LV.big.injEq, LV.tup.injEq, LV.agg.injEq, List.cons.injEq, and_true, true_and]
        exact ⟨rfl, rfl⟩
      | false =>
        refine ⟨imp_f fun h => (by cases h), imp_t fun _ => ?_⟩
        have hI : (wFin x1 x2 && uOk x1 x3) = rtIs x1 x2 x3 := rfl
        rw [hI]
        have none : rtInf x1 x2 x3 = false → rtIs x1 x2 x3 = false → kR (AT.tup [AT.word, AT.int IntKind.i64, AT.int IntKind.i64]) (LV.tup [LV.word (rtW x1 x2 x3 (rrWord x1 x2 x3)), LV.int IntKind.i64 (rtX x1 x2 x3), LV.int IntKind.i64 (rtE x1 x2 x3)])
            (LV.tup [LV.word (fNaN x1), LV.int IntKind.i64 (bif fOk x1 then 1 else 0), LV.lit IntKind.i64 0]) := fun h1 h2 => by
          unfold rtW rtX
          rw [ho, hn, hE, h1, h2, show fOk x1 = true from decide_eq_true hf]
          simp only [kR, canon, canons, getW, getWord, allInts8, asInt, isK, kindEq, isArgB, strOf, cBig, cInts, cWords, allInts, allWords, r_ofLimbs, r_mkWord, Option.some.injEq, LV.wide.injEq, LV.word.injEq, LV.int.injEq, LV.bool.injEq, LV.str.injEq, LV.big.injEq, LV.tup.injEq, LV.agg.injEq, List.cons.injEq, and_true, true_and]
          exact ⟨rfl, rfl⟩
        have noU : cls x1 x3 = 3 → rtIs x1 x2 x3 = false := fun h => by
          unfold rtIs uOk
          have : wFin x1 x3 = false := by
            cases hh : wFin x1 x3 with
            | false => rfl
            | true => have := (fin_iff x1 x3).1 hh; omega
          rw [this, Bool.false_and, Bool.and_false]
        refine ⟨imp_f fun c => ⟨imp_f fun d => ?_, imp_t fun d => ⟨imp_f fun e => ?_, imp_t fun e => ?_⟩⟩, imp_t fun c => ⟨imp_f fun e => ?_, imp_t fun e => ?_⟩⟩
        · rw [c_eql_t] at c
          have hi : rtInf x1 x2 x3 = true := by unfold rtInf; rw [decide_eq_true c, d]; rfl
          unfold rtW rtX
          rw [ho, hn, hE, hi]
          simp only [kR, canon, canons, getW, getWord, allInts8, asInt, isK, kindEq, isArgB, strOf, cBig, cInts, cWords, allInts, allWords, r_ofLimbs, r_mkWord, Option.some.injEq, LV.wide.injEq, LV.word.injEq, LV.int.injEq, LV.bool.injEq, LV.str.injEq, LV.big.injEq, LV.tup.injEq, LV.agg.injEq, List.cons.injEq, and_true, true_and]
          exact ⟨rfl, rfl⟩
        · rw [Bool.not_eq_true'] at e
          exact none (by unfold rtInf; rw [d, Bool.and_false]) e
        · rw [c_eql_t] at c
          rw [noU c] at e
          cases e
        · rw [c_eql_f] at c
          rw [Bool.not_eq_true'] at e
          exact none (by unfold rtInf; rw [decide_eq_false c]; rfl) e
        · rw [c_eql_f] at c
          rw [Bool.not_eq_false'] at e
          have hi : rtInf x1 x2 x3 = false := by unfold rtInf; rw [decide_eq_false c]; rfl
          obtain ⟨ha, hb⟩ : wFin x1 x2 = true ∧ uOk x1 x3 = true := by
            have e' := e
            unfold rtIs at e'
            rw [Bool.and_eq_true] at e'
            exact e'
          have hW : rtW x1 x2 x3 (rrWord x1 x2 x3) = rrWord x1 x2 x3 := by unfold rtW; rw [ho, hn, hi, e]; rfl
          have hX : rtX x1 x2 x3 = 0 := by unfold rtX; rw [ho, hn, hi, e]; rfl
          rw [hW, hX, hE]
          refine ⟨rm_okM ha hb, ?_⟩
          obtain ⟨j, j1, j2, j3, j4, j5, j6⟩ := rm_unpacked ha hb
          obtain ⟨r1, r2, r3, r4, r5⟩ := rm_okM ha hb
          have hlR : lfR (vSig x1 x2).toNat (vExp x1 x2) (uSig x1 x3).toNat (uExp x1 x3) = rmR x1 x2 x3 * 2 ^ j := j2
          have hA : (BitVec.ofNat 512 (lfR (vSig x1 x2).toNat (vExp x1 x2) (uSig x1 x3).toNat (uExp x1 x3))).toNat = rmR x1 x2 x3 * 2 ^ j := (nat_113 j5).trans j2
          have hD : (uSig x1 x3).toNat * 2 ^ (uExp x1 x3 - lfE (vExp x1 x2) (uExp x1 x3)).toNat = rmD x1 x2 x3 * 2 ^ j := j3
          obtain ⟨s1, s2⟩ := nr_scale (R := rmR x1 x2 x3) (D := rmD x1 x2 x3) (o := rmO x1 x2 x3) j
          rw [j2] at j5 j6
          rw [j3] at j6
          have hRD : rmR x1 x2 x3 < rmD x1 x2 x3 := Nat.lt_of_mul_lt_mul_right j6
          obtain ⟨n1, n2⟩ := nr_le (odd := rmO x1 x2 x3) hRD
          have hb2 : nrR (rmR x1 x2 x3) (rmD x1 x2 x3) (rmO x1 x2 x3) * 2 ^ j < 2 ^ 113 := Nat.lt_of_le_of_lt (Nat.mul_le_mul_right _ n1) j5
          have hs := nat_113 hb2
          rw [hA, hD, j4, s1, s2]
          have hz : decide (BitVec.ofNat 512 (nrR (rmR x1 x2 x3) (rmD x1 x2 x3) (rmO x1 x2 x3) * 2 ^ j) = ofLimbsR 0 0 0 0 0 0 0 0) = decide (rrR x1 x2 x3 = 0) := by
            refine decide_eq_decide.2 ?_
            rw [ofLimbs_0, w_zero, hs]
            have hp := Nat.two_pow_pos j
            unfold rrR
            constructor
            · intro h
              rcases Nat.mul_eq_zero.1 h with h | h
              · exact h
              · omega
            · intro h
              rw [h, Nat.zero_mul]
          have hok : rOk x1 1 (lfE (vExp x1 x2) (uExp x1 x3)) (BitVec.ofNat 512 (nrR (rmR x1 x2 x3) (rmD x1 x2 x3) (rmO x1 x2 x3) * 2 ^ j)) false = true := rm_rOk hf (by unfold lfE; omega) (by rw [hs]; omega)
          have hE2 : rE x1 1 (lfE (vExp x1 x2) (uExp x1 x3)) (BitVec.ofNat 512 (nrR (rmR x1 x2 x3) (rmD x1 x2 x3) (rmO x1 x2 x3) * 2 ^ j)) false = 0 := by unfold rE; rw [hok]; rfl
          have hv : vNeg x1 x2 = wNeg x1 x2 := by unfold vNeg; rw [ha]; rfl
          have key : ∀ neg, rW x1 1 neg (lfE (vExp x1 x2) (uExp x1 x3)) (BitVec.ofNat 512 (nrR (rmR x1 x2 x3) (rmD x1 x2 x3) (rmO x1 x2 x3) * 2 ^ j)) false = fWordOf x1 neg (findM x1 (rrR x1 x2 x3) (rmE x1 x2 x3)) ∧ rX x1 1 neg (lfE (vExp x1 x2) (uExp x1 x3)) (BitVec.ofNat 512 (nrR (rmR x1 x2 x3) (rmD x1 x2 x3) (rmO x1 x2 x3) * 2 ^ j)) false = 0 := fun neg => rm_round ha hb n1 hs j1 hok
          rw [hz, hE2, (key _).1, (key _).2, (key _).1, (key _).2, hv]
          refine ⟨⟨by unfold lfE; omega, r2, by unfold lfE; omega, by omega, r4, r5, j6⟩, imp_f fun g => ?_, imp_t fun g => ?_⟩
          · have e1 : rrT x1 x2 x3 = true := g
            unfold rrWord
            rw [e1, Bool.true_and]
            rfl
          · have e1 : rrT x1 x2 x3 = false := g
            unfold rrWord
            rw [e1, Bool.false_and]
            rfl
set_option exponentiation.threshold 600 in
theorem p_rParity : SpecOk Tryz.prog globs 38 (mkSpec real [.int .i64, .word, .word] (s_rParity ropsRt)) := by
  have hfns : FnsOk Tryz.prog globs [(74, .spec (mkSpec real [.int .i64, .word, .word] (s_rfinite ropsRm))), (75, .spec (mkSpec real [.st [.bool, .int .i64, .wide], .st [.bool, .int .i64, .wide]] (s_rmod ropsRm)))] := (fnsCons (fnSpec (p_rfinite)) (fnsCons (fnSpec (p_rmod)) fnsNil))
  refine spec0 hfns (by kernel_rfl) Tryz.func38 (by kernel_rfl) (by kernel_rfl) (by kernel_rfl) 4 _ _ (.tup [.int .i64, .bool]) ?_
  clear hfns
  generalize hEE : env0 [(74, .spec (mkSpec real [.int .i64, .word, .word] (s_rfinite ropsRm))), (75, .spec (mkSpec real [.st [.bool, .int .i64, .wide], .st [.bool, .int .i64, .wide]] (s_rmod ropsRm)))] = EE
  intro l r hl hr
  simp only [Forms, Form] at hl
  obtain ⟨_, _, rfl, ⟨x1, rfl, x1lo, x1hi⟩, _, _, rfl, ⟨x2, rfl⟩, _, _, rfl, ⟨x3, rfl⟩, rfl⟩ := hl
  subst hEE
  generalize hK : kR (.tup [.int .i64, .bool]) r = K
  generalize hO : real = O
  generalize hS0 : rops = S0
  generalize hS1 : ropsB = S1
  generalize hS2 : ropsC = S2
  generalize hS3 : ropsD = S3
  generalize hS4 : ropsE = S4
  generalize hS5 : ropsF = S5
  generalize hS6 : ropsG = S6
  generalize hS7 : ropsH = S7
  generalize hS8 : ropsI = S8
  generalize hS9 : ropsJ = S9
  generalize hS10 : ropsK = S10
  generalize hS11 : ropsL = S11
  generalize hS12 : ropsM = S12
  generalize hS13 : ropsN = S13
  generalize hS14 : ropsP = S14
  generalize hS15 : ropsQ = S15
  generalize hS16 : ropsDv = S16
  generalize hS17 : ropsRm = S17
  generalize hS18 : ropsRs = S18
  generalize hS19 : ropsT = S19
  generalize hS20 : ropsU = S20
  generalize hS21 : ropsV = S21
  generalize hS22 : ropsRt = S22
  set_option maxRecDepth 100000 in cbv
  subst hO hK hS0 hS1 hS2 hS3 hS4 hS5 hS6 hS7 hS8 hS9 hS10 hS11 hS12 hS13 hS14 hS15 hS16 hS17 hS18 hS19 hS20 hS21 hS22
  simp only [s_rParity, R.Y] at hr
  subst hr
  try dsimp only [real, rops, ropsB, ropsC, ropsD, ropsE, ropsF, ropsG, ropsH, ropsI, ropsJ, ropsK, ropsL, ropsM, ropsN, ropsP, ropsQ, ropsDv, ropsRm, ropsRs, ropsT, ropsU, ropsV, ropsRt]
  have hI : (wFin x1 x2 && uOk x1 x3) = rtIs x1 x2 x3 := rfl
  rw [hI]
  cases hi : rtIs x1 x2 x3 with
  | false =>
    refine ⟨imp_f fun _ => ?_, imp_t fun h => (by cases h)⟩
    simp only [kR, canon, canons, getW, getWord, allInts8, asInt, isK, kindEq, isArgB, strOf, cBig, cInts, cWords, allInts, allWords, r_ofLimbs, r_mkWord, Option.some.injEq, LV.wide.injEq, LV.word.injEq, LV.int.injEq, LV.bool.injEq, LV.str.injEq, LV.big.injEq, LV.tup.injEq, LV.agg.injEq, List.cons.injEq, and_true, true_and]
    rfl
  | true =>
    obtain ⟨ha, hb⟩ : wFin x1 x2 = true ∧ uOk x1 x3 = true := by
      unfold rtIs at hi
      rw [Bool.and_eq_true] at hi
      exact hi
    refine ⟨imp_f fun h => (by cases h), imp_t fun _ => ⟨rm_okM ha hb, ?_⟩⟩
    obtain ⟨j, j1, j2, j3, j4, j5, j6⟩ := rm_unpacked ha hb
    rw [j4, Bool.true_and]
    refine ⟨imp_f fun h => ?_, imp_t fun h => ?_⟩
    · rw [h]
      rfl
    · rw [h]
      rfl
end Go.LE