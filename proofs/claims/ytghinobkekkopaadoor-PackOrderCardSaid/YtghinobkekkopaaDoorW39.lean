import Derived.Test.YtghinobkekkopaaDoorW30
import Derived.Test.YtghinobkekkopaaDoorLeY
set_option linter.unusedVariables false
set_option linter.unusedSimpArgs false
namespace Go.LE
open Go Go.Proofs
theorem bits_len (A : Nat) (neg : Bool) : ∀ n, (bitsL A neg n).length = n := by
  intro n
  induction n with
  | zero => rfl
  | succ n ih => unfold bitsL; rw [List.length_cons, ih]
theorem pl_step {A : Nat} {neg : Bool} {s : ByteArray} {i : Int} (h0 : 0 ≤ i) (h : s.data.toList ++ bitsL A neg (i + 1).toNat = bitsL A neg 128) :
    (s ++ bytesOf [chB (A.testBit i.toNat != neg)]).data.toList ++ bitsL A neg (i - 1 + 1).toNat = bitsL A neg 128 := by
  rw [show (i + 1).toNat = i.toNat + 1 by omega] at h
  unfold bitsL at h
  rw [ba_app, by_list, List.append_assoc, show (i - 1 + 1).toNat = i.toNat by omega]
  exact h
theorem pl_len {A : Nat} {neg : Bool} {s : ByteArray} {i : Int} (h : s.data.toList ++ bitsL A neg (i + 1).toNat = bitsL A neg 128) : s.size + (i + 1).toNat = 128 := by
  have := congrArg List.length h
  rw [List.length_append, bits_len, bits_len] at this
  exact this
theorem pl_end {A : Nat} {neg : Bool} {s : ByteArray} {i : Int} (hi : i < 0) (h : s.data.toList ++ bitsL A neg (i + 1).toNat = bitsL A neg 128) (c : UInt8) : bytesOf [c] ++ s = bytesOf (c :: bitsL A neg 128) := by
  rw [show (i + 1).toNat = 0 by omega] at h
  unfold bitsL at h
  rw [List.append_nil] at h
  refine ba_ext ?_
  rw [ba_app, by_list, by_list, h]
  rfl
theorem sg_mag {f : Int} (hf : 1 ≤ f ∧ f ≤ 4) (w : BitVec 128) : (sgn f w false).toNat = magN f w := by
  rw [sgn_toNat hf]
  rfl
structure OpsPl where
  isF : Int → Prop
  plS : Int → BitVec 128 → ByteArray
noncomputable def ropsPl : OpsPl where
  isF := fun f => 1 ≤ f ∧ f ≤ 4
  plS := plS
def s_place09 (S : OpsPl) : List LV → R LV
  | [.int _ f, .word w] => .req (S.isF f) (.ok (.str (S.plS f w)))
  | _ => .fail
def s_PackOrder (_ : OpsPl) : List LV → R LV := fun _ => .ok (.bool true)
theorem p_place09 : SpecOk Tryd.prog globs 26 (mkSpec real [.int .i64, .word] (s_place09 ropsPl)) := by
  have hfns : FnsOk Tryd.prog globs [(17, .spec (mkSpec real [.int .i64, .word] (s_neg06 ropsC))), (16, .spec (mkSpec real [.int .i64, .word, .bool] (s_signed06 ropsC))), (43, .spec (mkSpec real [.word, .int .i64] (s_bit05 ropsB)))] := (fnsCons (fnSpec (p_neg06)) (fnsCons (fnSpec (p_signed06)) (fnsCons (fnSpec (p_bit05)) fnsNil)))
  refine specL (fun _ => [5,6,7,8]) hfns (by kernel_rfl) Tryd.func26 (by kernel_rfl) (by kernel_rfl) (by kernel_rfl) 4 _ _ (.str) ?_
  clear hfns
  generalize hEE : envL (fun _ => [5,6,7,8]) [(17, .spec (mkSpec real [.int .i64, .word] (s_neg06 ropsC))), (16, .spec (mkSpec real [.int .i64, .word, .bool] (s_signed06 ropsC))), (43, .spec (mkSpec real [.word, .int .i64] (s_bit05 ropsB)))] = EE
  intro l r hl hr
  simp only [Forms, Form] at hl
  obtain ⟨_, _, rfl, ⟨x1, rfl, x1lo, x1hi⟩, _, _, rfl, ⟨x2, rfl⟩, rfl⟩ := hl
  subst hEE
  generalize hK : kR (.str) r = K
  generalize hO : real = O
  generalize hS0 : rops = S0
  generalize hS1 : ropsB = S1
  generalize hS2 : ropsC = S2
  generalize hS3 : ropsD = S3
  generalize hS4 : ropsE = S4
  generalize hS5 : ropsF = S5
  generalize hS6 : ropsG = S6
  generalize hS7 : ropsH = S7
  generalize hS8 : ropsI = S8
  generalize hS9 : ropsJ = S9
  generalize hS10 : ropsK = S10
  generalize hS11 : ropsL = S11
  generalize hS12 : ropsM = S12
  generalize hS13 : ropsN = S13
  generalize hS14 : ropsP = S14
  generalize hS15 : ropsQ = S15
  generalize hS16 : ropsT = S16
  generalize hS17 : ropsU = S17
  generalize hS18 : ropsV = S18
  generalize hS19 : ropsPl = S19
  set_option maxRecDepth 100000 in cbv
  obtain ⟨hf, hr⟩ := hr
  have hr : r = _ := hr.symm
  subst hO hK hS0 hS1 hS2 hS3 hS4 hS5 hS6 hS7 hS8 hS9 hS10 hS11 hS12 hS13 hS14 hS15 hS16 hS17 hS18 hS19
  subst hr
  replace hf : 1 ≤ x1 ∧ x1 ≤ 4 := hf
  refine ⟨hf, imp_f fun h => ?_, imp_t fun h => ?_⟩
  · replace h : decide (sgn x1 x2 false = mkWordR 0 0) = true := h
    rw [decide_eq_true_eq, mkWord_0] at h
    have h0 : magN x1 x2 = 0 := by rw [← sg_mag hf, h]; rfl
    have e : plS x1 x2 = bytesOf [98] := by unfold plS; rw [if_pos h0]
    show kR AT.str (LV.str (plS x1 x2)) _
    rw [e]
    rfl
  · replace h : decide (sgn x1 x2 false = mkWordR 0 0) = false := h
    rw [decide_eq_false_iff_not, mkWord_0] at h
    have h0 : magN x1 x2 ≠ 0 := fun hh => h (by rw [← sg_mag hf] at hh; exact BitVec.eq_of_toNat_eq hh)
    refine loop_rule (α := ByteArray × Int) (fun p => ⟨[.undef, .undef, .undef, .undef, .undef, .bool (ropsC.wneg x1 x2), .ptr 9 0, .str p.1, .int .i64 p.2, .undef, .undef, .undef, .undef, .undef, .undef, .undef, .undef, .undef, .undef, .undef, .undef, .undef, .undef, .undef, .undef, .undef, .undef, .undef, .undef, .undef, .undef, .undef, .undef, .undef, .undef, .undef], ofL [some (wordT, .word x2), none, none, none, none, none, none, none, none, some (wordT, .word (ropsC.sgn x1 x2 false)), none, none, none, none, none, none], 16⟩)
      (fun m p => -1 ≤ p.2 ∧ p.2 ≤ 127 ∧ p.1.data.toList ++ bitsL (magN x1 x2) (wNeg x1 x2) (p.2 + 1).toNat = bitsL (magN x1 x2) (wNeg x1 x2) 128 ∧ p.2 + 1 ≤ ((m : Nat) : Int)) ?_ 128 (bytesOf [], 127) ⟨by decide, by decide, rfl, by decide⟩
    rintro m ⟨s, i⟩ X ⟨h1, h2, h3, h4⟩ hX
    (generalize hK : kR _ _ = K; generalize hO : real = O; generalize hS0 : rops = S0; generalize hS1 : ropsB = S1; generalize hS2 : ropsC = S2; generalize hS3 : ropsD = S3; generalize hS4 : ropsE = S4; generalize hS5 : ropsF = S5; generalize hS6 : ropsG = S6; generalize hS7 : ropsH = S7; generalize hS8 : ropsI = S8; generalize hS9 : ropsJ = S9; generalize hS10 : ropsK = S10; generalize hS11 : ropsL = S11; generalize hS12 : ropsM = S12; generalize hS13 : ropsN = S13; generalize hS14 : ropsP = S14; generalize hS15 : ropsQ = S15; generalize hS16 : ropsT = S16; generalize hS17 : ropsU = S17; generalize hS18 : ropsV = S18; generalize hS19 : ropsPl = S19; set_option maxRecDepth 100000 in cbv; subst hO hK hS0 hS1 hS2 hS3 hS4 hS5 hS6 hS7 hS8 hS9 hS10 hS11 hS12 hS13 hS14 hS15 hS16 hS17 hS18 hS19; dsimp only [real, rops, ropsB, ropsC, ropsD, ropsE, ropsF, ropsG, ropsH, ropsI, ropsJ, ropsK, ropsL, ropsM, ropsN, ropsP, ropsQ, ropsT, ropsU, ropsV, ropsPl])
    have h5 : s.data.toList ++ bitsL (magN x1 x2) (wNeg x1 x2) (i + 1).toNat = bitsL (magN x1 x2) (wNeg x1 x2) 128 := h3
    have h6 : i + 1 ≤ ((m : Nat) : Int) := h4
    have h7 : -1 ≤ i := h1
    have h8 : i ≤ 127 := h2
    clear h1 h2 h3 h4
    have hl := pl_len h5
    have hb : 0 ≤ i → (!(wdBit (sgn x1 x2 false) i == wNeg x1 x2)) = ((magN x1 x2).testBit i.toNat != wNeg x1 x2) := fun h => by
      unfold wdBit; rw [decide_eq_true h, Bool.true_and, sg_mag hf]; rfl
    have e1 : arithR .sub .i64 i 1 = i - 1 := sub_i64 (by omega) (by omega)
    rw [e1]
    refine ⟨imp_f fun h => ⟨?_, imp_f fun g => ⟨?_, ?_⟩, imp_t fun g => ⟨?_, ?_⟩⟩, imp_t fun h => ⟨imp_f fun g => ⟨?_, ?_⟩, imp_t fun g => ⟨?_, ?_⟩⟩⟩
    · rw [c_geq_t] at h
      exact h
    · show ((s.size + 1 : Nat) : Int) ≤ _
      rw [i64_max]; omega
    · rw [c_geq_t] at h
      have g' := (hb h).symm.trans g
      have st := pl_step h h5
      rw [g'] at st
      have hm : m = (m - 1) + 1 := by omega
      have hc : i - 1 + 1 ≤ ((m - 1 : Nat) : Int) := by omega
      exact hX (m - 1) (s ++ bytesOf [49], i - 1) hm ⟨by show -1 ≤ i - 1; omega, by show i - 1 ≤ 127; omega, st, hc⟩
    · show ((s.size + 1 : Nat) : Int) ≤ _
      rw [i64_max]; omega
    · rw [c_geq_t] at h
      have g' := (hb h).symm.trans g
      have st := pl_step h h5
      rw [g'] at st
      have hm : m = (m - 1) + 1 := by omega
      have hc : i - 1 + 1 ≤ ((m - 1 : Nat) : Int) := by omega
      exact hX (m - 1) (s ++ bytesOf [48], i - 1) hm ⟨by show -1 ≤ i - 1; omega, by show i - 1 ≤ 127; omega, st, hc⟩
    · show ((1 + s.size : Nat) : Int) ≤ _
      rw [i64_max]; omega
    · rw [c_geq_f] at h
      rw [g] at h5
      have e : plS x1 x2 = bytesOf [97] ++ s := by
        unfold plS
        rw [if_neg h0, g]
        exact (pl_end h h5 97).symm
      show kR AT.str (LV.str (plS x1 x2)) (LV.str (bytesOf [97] ++ s))
      rw [e]
      rfl
    · show ((1 + s.size : Nat) : Int) ≤ _
      rw [i64_max]; omega
    · rw [c_geq_f] at h
      rw [g] at h5
      have e : plS x1 x2 = bytesOf [99] ++ s := by
        unfold plS
        rw [if_neg h0, g]
        exact (pl_end h h5 99).symm
      show kR AT.str (LV.str (plS x1 x2)) (LV.str (bytesOf [99] ++ s))
      rw [e]
      rfl
set_option exponentiation.threshold 600 in
theorem p_PackOrder : SpecOk Tryd.prog globs 6 (mkSpec real [.st [.int .i64, .int .i64], .st [.bool, .int .i64, .wide], .st [.bool, .int .i64, .wide]] (s_PackOrder ropsPl)) := by
  have hfns : FnsOk Tryd.prog globs [(22, .spec (mkSpec real [.int .i64] (s_is rops))), (18, .spec (mkSpec real [.int .i64] (s_mIs08 ropsT))), (24, .spec (mkSpec real [.int .i64] (s_prec rops))), (23, .spec (mkSpec real [.int .i64, .st [.bool, .int .i64, .wide], .bool] (s_right09 ropsT))), (25, .spec (mkSpec real [.st [.bool, .int .i64, .wide], .st [.bool, .int .i64, .wide]] (s_ucmp ropsQ))), (21, .spec (mkSpec real [.int .i64, .int .i64, .st [.bool, .int .i64, .wide], .bool] (s_round ropsT))), (26, .spec (mkSpec real [.int .i64, .word] (s_place09 ropsPl))), (19, .spec (mkSpec real [] (s_awake09 ropsV)))] := (fnsCons (fnSpec (p_is)) (fnsCons (fnSpec (p_mIs08)) (fnsCons (fnSpec (p_prec)) (fnsCons (fnSpec (p_right09)) (fnsCons (fnSpec (p_ucmp)) (fnsCons (fnSpec (p_round)) (fnsCons (fnSpec (p_place09)) (fnsCons (fnSpec (p_awake09)) fnsNil))))))))
  refine spec0 hfns (by kernel_rfl) Tryd.func6 (by kernel_rfl) (by kernel_rfl) (by kernel_rfl) 7 _ _ (.bool) ?_
  clear hfns
  generalize hEE : env0 [(22, .spec (mkSpec real [.int .i64] (s_is rops))), (18, .spec (mkSpec real [.int .i64] (s_mIs08 ropsT))), (24, .spec (mkSpec real [.int .i64] (s_prec rops))), (23, .spec (mkSpec real [.int .i64, .st [.bool, .int .i64, .wide], .bool] (s_right09 ropsT))), (25, .spec (mkSpec real [.st [.bool, .int .i64, .wide], .st [.bool, .int .i64, .wide]] (s_ucmp ropsQ))), (21, .spec (mkSpec real [.int .i64, .int .i64, .st [.bool, .int .i64, .wide], .bool] (s_round ropsT))), (26, .spec (mkSpec real [.int .i64, .word] (s_place09 ropsPl))), (19, .spec (mkSpec real [] (s_awake09 ropsV)))] = EE
  intro l r hl hr
  simp only [Forms, Form] at hl
  obtain ⟨_, _, rfl, ⟨_, rfl, ⟨_, _, rfl, ⟨x1_1, rfl, x1_1lo, x1_1hi⟩, _, _, rfl, ⟨x1_2, rfl, x1_2lo, x1_2hi⟩, rfl⟩⟩, _, _, rfl, ⟨_, rfl, ⟨_, _, rfl, ⟨x2_1, rfl⟩, _, _, rfl, ⟨x2_2, rfl, x2_2lo, x2_2hi⟩, _, _, rfl, ⟨x2_3, rfl⟩, rfl⟩⟩, _, _, rfl, ⟨_, rfl, ⟨_, _, rfl, ⟨x3_1, rfl⟩, _, _, rfl, ⟨x3_2, rfl, x3_2lo, x3_2hi⟩, _, _, rfl, ⟨x3_3, rfl⟩, rfl⟩⟩, rfl⟩ := hl
  subst hEE
  generalize hK : kR (.bool) r = K
  generalize hO : real = O
  generalize hS0 : rops = S0
  generalize hS1 : ropsB = S1
  generalize hS2 : ropsC = S2
  generalize hS3 : ropsD = S3
  generalize hS4 : ropsE = S4
  generalize hS5 : ropsF = S5
  generalize hS6 : ropsG = S6
  generalize hS7 : ropsH = S7
  generalize hS8 : ropsI = S8
  generalize hS9 : ropsJ = S9
  generalize hS10 : ropsK = S10
  generalize hS11 : ropsL = S11
  generalize hS12 : ropsM = S12
  generalize hS13 : ropsN = S13
  generalize hS14 : ropsP = S14
  generalize hS15 : ropsQ = S15
  generalize hS16 : ropsT = S16
  generalize hS17 : ropsU = S17
  generalize hS18 : ropsV = S18
  generalize hS19 : ropsPl = S19
  set_option maxRecDepth 100000 in cbv
  subst hO hK hS0 hS1 hS2 hS3 hS4 hS5 hS6 hS7 hS8 hS9 hS10 hS11 hS12 hS13 hS14 hS15 hS16 hS17 hS18 hS19
  simp only [s_PackOrder, R.Y] at hr
  subst hr
  try dsimp only [real, rops, ropsB, ropsC, ropsD, ropsE, ropsF, ropsG, ropsH, ropsI, ropsJ, ropsK, ropsL, ropsM, ropsN, ropsP, ropsQ, ropsT, ropsU, ropsV, ropsPl]
  have kt : kR AT.bool (LV.bool true) (LV.bool true) := rfl
  cases hk : fOk x1_1 with
  | false => simp [kt]
  | true =>
    cases hm : isM x1_2 with
    | false => simp [kt]
    | true =>
      cases r1 : rightN (fPrec x1_1) x2_2 x2_3 false with
      | false => simp [kt]
      | true =>
        cases r2 : rightN (fPrec x1_1) x3_2 x3_3 false with
        | false => simp [kt]
        | true =>
          have hf : 1 ≤ x1_1 ∧ x1_1 ≤ 4 := of_decide_eq_true hk
          have o1 : rOk x1_1 x1_2 x2_2 x2_3 false = true := by unfold rOk; rw [hk, hm, r1]; rfl
          have o2 : rOk x1_1 x1_2 x3_2 x3_3 false = true := by unfold rOk; rw [hk, hm, r2]; rfl
          have E1 : rE x1_1 x1_2 x2_2 x2_3 false = 0 := by unfold rE; rw [o1]; rfl
          have E2 : rE x1_1 x1_2 x3_2 x3_3 false = 0 := by unfold rE; rw [o2]; rfl
          have g1 : rgtE x2_2 = true := decide_eq_true (right_parts r1).2.1
          have g2 : rgtE x3_2 = true := decide_eq_true (right_parts r2).2.1
          have hu : ucmp x2_1 x2_2 x2_3 x3_1 x3_2 x3_3 = cmp7 x2_1 x2_3.toNat x2_2 x3_1 x3_3.toNat x3_2 := by unfold ucmp; rw [g1, g2]; rfl
          rw [hu, gtr_dec]
          by_cases hc : 0 < cmp7 x2_1 x2_3.toNat x2_2 x3_1 x3_3.toNat x3_2
          · have p1 : (Op.bytesLess (plS x1_1 (rW x1_1 x1_2 x3_1 x3_2 x3_3 false)).toList (plS x1_1 (rW x1_1 x1_2 x2_1 x2_2 x2_3 false)).toList || (plS x1_1 (rW x1_1 x1_2 x3_1 x3_2 x3_3 false)).toList == (plS x1_1 (rW x1_1 x1_2 x2_1 x2_2 x2_3 false)).toList) = true :=
              pl_le (mag_wide _ _) (mag_wide _ _) (rd_le o2 o1 (cmp7_ge hc))
            rw [p1, E1, E2, decide_eq_true (show cmp7 x2_1 x2_3.toNat x2_2 x3_1 x3_3.toNat x3_2 > 0 from hc)]
            simp [kt, hf, show cmpR .eql 0 0 = true from rfl]
          · have p1 : (Op.bytesLess (plS x1_1 (rW x1_1 x1_2 x2_1 x2_2 x2_3 false)).toList (plS x1_1 (rW x1_1 x1_2 x3_1 x3_2 x3_3 false)).toList || (plS x1_1 (rW x1_1 x1_2 x2_1 x2_2 x2_3 false)).toList == (plS x1_1 (rW x1_1 x1_2 x3_1 x3_2 x3_3 false)).toList) = true :=
              pl_le (mag_wide _ _) (mag_wide _ _) (rd_le o1 o2 (by omega))
            rw [p1, E1, E2, decide_eq_false (show ¬ cmp7 x2_1 x2_3.toNat x2_2 x3_1 x3_3.toNat x3_2 > 0 by omega)]
            simp [kt, hf, show cmpR .eql 0 0 = true from rfl]
end Go.LE