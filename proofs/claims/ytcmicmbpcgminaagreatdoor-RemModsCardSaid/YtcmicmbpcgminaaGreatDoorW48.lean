import Derived.Test.YtcmicmbpcgminaaGreatDoorW47
set_option linter.unusedVariables false
set_option linter.unusedSimpArgs false
namespace Go.LE
open Go Go.Proofs
structure OpsRn where
  isS : Int → BitVec 128 → BitVec 128 → Prop
  noS : Int → BitVec 128 → BitVec 128 → Prop
  isF : Int → BitVec 128 → BitVec 128 → Prop
  noF : Int → BitVec 128 → BitVec 128 → Prop
  parP : Int → Int → BitVec 128 → BitVec 128 → Prop
  parI : Int → BitVec 128 → BitVec 128 → Int
  fin : Int → BitVec 128 → Prop
  md : Int → BitVec 128 → BitVec 128 → BitVec 128
  spW : Int → BitVec 128 → BitVec 128 → BitVec 128
  spX : Int → BitVec 128 → BitVec 128 → Int
  spC : Int → BitVec 128 → BitVec 128 → Int
def parN (f : Int) (a b : BitVec 128) : Int := bif rmO f a b then 1 else 0
noncomputable def ropsRn : OpsRn where
  isS := fun f a b => spB f a b = true
  noS := fun f a b => spB f a b = false
  isF := fun f a b => farB f a b = true
  noF := fun f a b => farB f a b = false
  parP := fun n f a b => parN f a b = n
  parI := parN
  fin := fun f w => wFin f w = true
  md := mdWord
  spW := spW
  spX := spX
  spC := spC
def s_special31T (S : OpsRn) : List LV → R LV
  | [.int _ f, .word a, .word b] => .req (S.isS f a b) (.ok (.tup [.word (S.spW f a b), .int .i64 (S.spX f a b), .int .i64 (S.spC f a b), .blit true]))
  | _ => .fail
def s_special31F (S : OpsRn) : List LV → R LV
  | [.int _ f, .word a, .word b] => .req (S.noS f a b) (.ok (.tup [.word (S.spW f a b), .int .i64 (S.spX f a b), .int .i64 (S.spC f a b), .blit false]))
  | _ => .fail
def s_rModS (S : OpsRn) : List LV → R LV
  | [.int _ f, .word a, .word b] => .req (S.isS f a b) (.ok (.tup [.word (S.spW f a b), .int .i64 (S.spX f a b), .int .i64 (S.spC f a b)]))
  | _ => .fail
def s_rModF (S : OpsRn) : List LV → R LV
  | [.int _ f, .word a, .word b] => .req (S.noS f a b) (.ok (.tup [.word (S.md f a b), .lit .i64 0, .lit .i64 0]))
  | _ => .fail
def s_rParityS (S : OpsRn) : List LV → R LV
  | [.int _ f, .word a, .word b] => .req (S.isS f a b) (.ok (.tup [.lit .i64 0, .blit false]))
  | _ => .fail
def s_rParityO (S : OpsRn) : List LV → R LV
  | [.int _ f, .word a, .word b] => .req (S.noS f a b) (.ok (.tup [.int .i64 (S.parI f a b), .blit true]))
  | _ => .fail
def s_rParityF (n : Int) (S : OpsRn) : List LV → R LV
  | [.int _ f, .word a, .word b] => .req (S.noS f a b) (.req (S.parP n f a b) (.ok (.tup [.lit .i64 n, .blit true])))
  | _ => .fail
def s_far31T (S : OpsRn) : List LV → R LV
  | [.int _ f, .word a, .word b] => .req (S.fin f a) (.req (S.fin f b) (.req (S.isF f a b) (.ok (.blit true))))
  | _ => .fail
def s_far31F (S : OpsRn) : List LV → R LV
  | [.int _ f, .word a, .word b] => .req (S.fin f a) (.req (S.fin f b) (.req (S.noF f a b) (.ok (.blit false))))
  | _ => .fail
def s_RemModsS (S : OpsRn) : List LV → R LV
  | [.int _ f, .word a, .word b] => .req (S.isS f a b) (.ok (.bool true))
  | _ => .fail
def s_RemModsF (S : OpsRn) : List LV → R LV
  | [.int _ f, .word a, .word b] => .req (S.noS f a b) (.req (S.isF f a b) (.ok (.bool true)))
  | _ => .fail
def s_RemMods0 (S : OpsRn) : List LV → R LV
  | [.int _ f, .word a, .word b] => .req (S.noS f a b) (.req (S.noF f a b) (.req (S.parP 0 f a b) (.ok (.bool true))))
  | _ => .fail
def s_RemMods1 (S : OpsRn) : List LV → R LV
  | [.int _ f, .word a, .word b] => .req (S.noS f a b) (.req (S.noF f a b) (.req (S.parP 1 f a b) (.ok (.bool true))))
  | _ => .fail
def s_RemMods (_ : OpsRn) : List LV → R LV := fun _ => .ok (.bool true)
theorem rm_sp {f : Int} {a b : BitVec 128} (h : spB f a b = true) : rtIs f a b = false ∨ (fFits f a && fFits f b) = false ∨ nanIs f [a, b] = true := by
  unfold spB at h
  rw [Bool.not_eq_true'] at h
  cases h1 : (fFits f a && fFits f b) with
  | false => exact .inr (.inl rfl)
  | true =>
    cases h2 : nanIs f [a, b] with
    | true => exact .inr (.inr rfl)
    | false =>
      rw [h1, h2, Bool.not_false, Bool.and_true, Bool.true_and] at h
      exact .inl h
theorem rm_spi {f : Int} {a b : BitVec 128} (h : spB f a b = true) : rtIs f a b = false := by
  cases hi : rtIs f a b with
  | false => rfl
  | true =>
    unfold rtIs at hi
    rw [Bool.and_eq_true] at hi
    rw [sp_fin hi.1 hi.2] at h
    cases h
theorem rm_spn {f : Int} {a b : BitVec 128} (h : spB f a b = false) : rtIs f a b = true := by
  obtain ⟨ha, _, hu, _⟩ := sp_no h 0
  unfold rtIs
  rw [ha, hu]; rfl
theorem p_special31T : SpecOk Tryz.prog globs 27 (mkSpec real [.int .i64, .word, .word] (s_special31T ropsRn)) := by
  refine spec_as p_special31 ?_
  intro l r h
  unfold s_special31T at h
  split at h
  · rename_i k f a b
    obtain ⟨h1, rfl⟩ := h
    have h1 : spB f a b = true := h1
    refine ⟨_, rfl, ?_⟩
    show Same (.tup [.word (spW f a b), .int .i64 (spX f a b), .int .i64 (spC f a b), .bool (spB f a b)]) (.tup [.word (spW f a b), .int .i64 (spX f a b), .int .i64 (spC f a b), .blit true])
    rw [h1]
    intro ρ w v h
    simpa only [VV, VVs, VC, VCs] using h
  · exact h.elim
theorem p_special31F : SpecOk Tryz.prog globs 27 (mkSpec real [.int .i64, .word, .word] (s_special31F ropsRn)) := by
  refine spec_as p_special31 ?_
  intro l r h
  unfold s_special31F at h
  split at h
  · rename_i k f a b
    obtain ⟨h1, rfl⟩ := h
    have h1 : spB f a b = false := h1
    refine ⟨_, rfl, ?_⟩
    show Same (.tup [.word (spW f a b), .int .i64 (spX f a b), .int .i64 (spC f a b), .bool (spB f a b)]) (.tup [.word (spW f a b), .int .i64 (spX f a b), .int .i64 (spC f a b), .blit false])
    rw [h1]
    intro ρ w v h
    simpa only [VV, VVs, VC, VCs] using h
  · exact h.elim
theorem p_rModS : SpecOk Tryz.prog globs 34 (mkSpec real [.int .i64, .word, .word] (s_rModS ropsRn)) := by
  refine spec_as p_rMod ?_
  intro l r h
  unfold s_rModS at h
  split at h
  · rename_i k f a b
    obtain ⟨h1, rfl⟩ := h
    have h1 : spB f a b = true := h1
    obtain ⟨e1, e2, e3⟩ := sp_yes h1 (mdWord f a b)
    refine ⟨_, rfl, ?_⟩
    show Same (.tup [.word (rtW f a b (mdWord f a b)), .int .i64 (rtX f a b), .int .i64 (rtE f a b)]) _
    rw [e1, e2, e3]
    exact same_refl _
  · exact h.elim
theorem p_rModF : SpecOk Tryz.prog globs 34 (mkSpec real [.int .i64, .word, .word] (s_rModF ropsRn)) := by
  refine spec_as p_rMod ?_
  intro l r h
  unfold s_rModF at h
  split at h
  · rename_i k f a b
    obtain ⟨h1, rfl⟩ := h
    have h1 : spB f a b = false := h1
    obtain ⟨_, _, _, _, e1, e2, e3, _⟩ := sp_no h1 (mdWord f a b)
    refine ⟨_, rfl, ?_⟩
    show Same (.tup [.word (rtW f a b (mdWord f a b)), .int .i64 (rtX f a b), .int .i64 (rtE f a b)]) (.tup [.word (mdWord f a b), .lit .i64 0, .lit .i64 0])
    rw [e1, e2, e3]
    intro ρ w v h
    simpa only [VV, VVs, VC, VCs] using h
  · exact h.elim
theorem p_rParityS : SpecOk Tryz.prog globs 38 (mkSpec real [.int .i64, .word, .word] (s_rParityS ropsRn)) := by
  refine spec_as p_rParity ?_
  intro l r h
  unfold s_rParityS at h
  split at h
  · rename_i k f a b
    obtain ⟨h1, rfl⟩ := h
    have h1 : spB f a b = true := h1
    refine ⟨_, rfl, ?_⟩
    show Same (.tup [.int .i64 (bif rtIs f a b && rmO f a b then 1 else 0), .bool (rtIs f a b)]) _
    rw [rm_spi h1]
    intro ρ w v h
    simpa only [VV, VVs, VC, VCs, Bool.false_and, cond_false] using h
  · exact h.elim
theorem p_rParityO : SpecOk Tryz.prog globs 38 (mkSpec real [.int .i64, .word, .word] (s_rParityO ropsRn)) := by
  refine spec_as p_rParity ?_
  intro l r h
  unfold s_rParityO at h
  split at h
  · rename_i k f a b
    obtain ⟨h1, rfl⟩ := h
    have h1 : spB f a b = false := h1
    refine ⟨_, rfl, ?_⟩
    show Same (.tup [.int .i64 (bif rtIs f a b && rmO f a b then 1 else 0), .bool (rtIs f a b)]) (.tup [.int .i64 (parN f a b), .blit true])
    rw [rm_spn h1, Bool.true_and]
    show Same (.tup [.int .i64 (parN f a b), .bool true]) _
    intro ρ w v h
    simpa only [VV, VVs, VC, VCs] using h
  · exact h.elim
theorem p_rParityF (n : Int) : SpecOk Tryz.prog globs 38 (mkSpec real [.int .i64, .word, .word] (s_rParityF n ropsRn)) := by
  refine spec_as p_rParity ?_
  intro l r h
  unfold s_rParityF at h
  split at h
  · rename_i k f a b
    obtain ⟨h1, h2, rfl⟩ := h
    have h1 : spB f a b = false := h1
    have h2 : parN f a b = n := h2
    refine ⟨_, rfl, ?_⟩
    show Same (.tup [.int .i64 (bif rtIs f a b && rmO f a b then 1 else 0), .bool (rtIs f a b)]) _
    rw [rm_spn h1, Bool.true_and, ← h2]
    show Same (.tup [.int .i64 (parN f a b), .bool true]) _
    intro ρ w v h
    simpa only [VV, VVs, VC, VCs] using h
  · exact h.elim
theorem p_far31T : SpecOk Tryz.prog globs 29 (mkSpec real [.int .i64, .word, .word] (s_far31T ropsRn)) := by
  refine spec_as p_far31 ?_
  intro l r h
  unfold s_far31T at h
  split at h
  · rename_i k f a b
    obtain ⟨h1, h2, h3, rfl⟩ := h
    have h3 : farB f a b = true := h3
    refine ⟨_, ⟨h1, h2, rfl⟩, ?_⟩
    show Same (.bool (farB f a b)) _
    rw [h3]
    exact same_blit _
  · exact h.elim
theorem p_far31F : SpecOk Tryz.prog globs 29 (mkSpec real [.int .i64, .word, .word] (s_far31F ropsRn)) := by
  refine spec_as p_far31 ?_
  intro l r h
  unfold s_far31F at h
  split at h
  · rename_i k f a b
    obtain ⟨h1, h2, h3, rfl⟩ := h
    have h3 : farB f a b = false := h3
    refine ⟨_, ⟨h1, h2, rfl⟩, ?_⟩
    show Same (.bool (farB f a b)) _
    rw [h3]
    exact same_blit _
  · exact h.elim
theorem p_RemModsS : SpecOk Tryz.prog globs 8 (mkSpec real [.int .i64, .word, .word] (s_RemModsS ropsRn)) := by
  have hfns : FnsOk Tryz.prog globs [(34, .spec (mkSpec real [.int .i64, .word, .word] (s_rModS ropsRn))), (38, .spec (mkSpec real [.int .i64, .word, .word] (s_rParityS ropsRn))), (27, .spec (mkSpec real [.int .i64, .word, .word] (s_special31T ropsRn))), (28, .spec (mkSpec real [] (s_awake31 ropsRl)))] := (fnsCons (fnSpec (p_rModS)) (fnsCons (fnSpec (p_rParityS)) (fnsCons (fnSpec (p_special31T)) (fnsCons (fnSpec (p_awake31)) fnsNil))))
  refine spec0 hfns (by kernel_rfl) Tryz.func8 (by kernel_rfl) (by kernel_rfl) (by kernel_rfl) 4 _ _ (.bool) ?_
  clear hfns
  generalize hEE : env0 [(34, .spec (mkSpec real [.int .i64, .word, .word] (s_rModS ropsRn))), (38, .spec (mkSpec real [.int .i64, .word, .word] (s_rParityS ropsRn))), (27, .spec (mkSpec real [.int .i64, .word, .word] (s_special31T ropsRn))), (28, .spec (mkSpec real [] (s_awake31 ropsRl)))] = EE
  intro l r hl hr
  simp only [Forms, Form] at hl
  obtain ⟨_, _, rfl, ⟨x1, rfl, x1lo, x1hi⟩, _, _, rfl, ⟨x2, rfl⟩, _, _, rfl, ⟨x3, rfl⟩, rfl⟩ := hl
  subst hEE
  generalize hK : kR (.bool) r = K
  generalize hO : real = O
  generalize hS0 : rops = S0
  generalize hS1 : ropsB = S1
  generalize hS2 : ropsC = S2
  generalize hS3 : ropsD = S3
  generalize hS4 : ropsE = S4
  generalize hS5 : ropsF = S5
  generalize hS6 : ropsG = S6
  generalize hS7 : ropsH = S7
  generalize hS8 : ropsI = S8
  generalize hS9 : ropsJ = S9
  generalize hS10 : ropsK = S10
  generalize hS11 : ropsL = S11
  generalize hS12 : ropsM = S12
  generalize hS13 : ropsN = S13
  generalize hS14 : ropsP = S14
  generalize hS15 : ropsQ = S15
  generalize hS16 : ropsDv = S16
  generalize hS17 : ropsRm = S17
  generalize hS18 : ropsRs = S18
  generalize hS19 : ropsT = S19
  generalize hS20 : ropsU = S20
  generalize hS21 : ropsV = S21
  generalize hS22 : ropsRt = S22
  generalize hS23 : ropsQs = S23
  generalize hS24 : ropsRf = S24
  generalize hS25 : ropsRl = S25
  generalize hS26 : ropsRn = S26
  set_option maxRecDepth 100000 in cbv
  subst hO hK hS0 hS1 hS2 hS3 hS4 hS5 hS6 hS7 hS8 hS9 hS10 hS11 hS12 hS13 hS14 hS15 hS16 hS17 hS18 hS19 hS20 hS21 hS22 hS23 hS24 hS25 hS26
  simp only [s_RemModsS, R.Y] at hr
  obtain ⟨hreq, hr⟩ := hr
  try dsimp only [rops, ropsB, ropsC, ropsD, ropsE, ropsF, ropsG, ropsH, ropsI, ropsJ, ropsK, ropsL, ropsM, ropsN, ropsP, ropsQ, ropsDv, ropsRm, ropsRs, ropsT, ropsU, ropsV, ropsRt, ropsQs, ropsRf, ropsRl, ropsRn] at hreq
  subst hr
  try dsimp only [real, rops, ropsB, ropsC, ropsD, ropsE, ropsF, ropsG, ropsH, ropsI, ropsJ, ropsK, ropsL, ropsM, ropsN, ropsP, ropsQ, ropsDv, ropsRm, ropsRs, ropsT, ropsU, ropsV, ropsRt, ropsQs, ropsRf, ropsRl, ropsRn]
  have kt : kR AT.bool (LV.bool true) (LV.bool true) := rfl
  replace hreq : spB x1 x2 x3 = true := hreq
  simp [hreq, eql_self, kt]
theorem p_RemModsF : SpecOk Tryz.prog globs 8 (mkSpec real [.int .i64, .word, .word] (s_RemModsF ropsRn)) := by
  have hfns : FnsOk Tryz.prog globs [(34, .spec (mkSpec real [.int .i64, .word, .word] (s_rModF ropsRn))), (38, .spec (mkSpec real [.int .i64, .word, .word] (s_rParityO ropsRn))), (27, .spec (mkSpec real [.int .i64, .word, .word] (s_special31F ropsRn))), (29, .spec (mkSpec real [.int .i64, .word, .word] (s_far31T ropsRn))), (28, .spec (mkSpec real [] (s_awake31 ropsRl)))] := (fnsCons (fnSpec (p_rModF)) (fnsCons (fnSpec (p_rParityO)) (fnsCons (fnSpec (p_special31F)) (fnsCons (fnSpec (p_far31T)) (fnsCons (fnSpec (p_awake31)) fnsNil)))))
  refine spec0 hfns (by kernel_rfl) Tryz.func8 (by kernel_rfl) (by kernel_rfl) (by kernel_rfl) 4 _ _ (.bool) ?_
  clear hfns
  generalize hEE : env0 [(34, .spec (mkSpec real [.int .i64, .word, .word] (s_rModF ropsRn))), (38, .spec (mkSpec real [.int .i64, .word, .word] (s_rParityO ropsRn))), (27, .spec (mkSpec real [.int .i64, .word, .word] (s_special31F ropsRn))), (29, .spec (mkSpec real [.int .i64, .word, .word] (s_far31T ropsRn))), (28, .spec (mkSpec real [] (s_awake31 ropsRl)))] = EE
  intro l r hl hr
  simp only [Forms, Form] at hl
  obtain ⟨_, _, rfl, ⟨x1, rfl, x1lo, x1hi⟩, _, _, rfl, ⟨x2, rfl⟩, _, _, rfl, ⟨x3, rfl⟩, rfl⟩ := hl
  subst hEE
  generalize hK : kR (.bool) r = K
  generalize hO : real = O
  generalize hS0 : rops = S0
  generalize hS1 : ropsB = S1
  generalize hS2 : ropsC = S2
  generalize hS3 : ropsD = S3
  generalize hS4 : ropsE = S4
  generalize hS5 : ropsF = S5
  generalize hS6 : ropsG = S6
  generalize hS7 : ropsH = S7
  generalize hS8 : ropsI = S8
  generalize hS9 : ropsJ = S9
  generalize hS10 : ropsK = S10
  generalize hS11 : ropsL = S11
  generalize hS12 : ropsM = S12
  generalize hS13 : ropsN = S13
  generalize hS14 : ropsP = S14
  generalize hS15 : ropsQ = S15
  generalize hS16 : ropsDv = S16
  generalize hS17 : ropsRm = S17
  generalize hS18 : ropsRs = S18
  generalize hS19 : ropsT = S19
  generalize hS20 : ropsU = S20
  generalize hS21 : ropsV = S21
  generalize hS22 : ropsRt = S22
  generalize hS23 : ropsQs = S23
  generalize hS24 : ropsRf = S24
  generalize hS25 : ropsRl = S25
  generalize hS26 : ropsRn = S26
  set_option maxRecDepth 100000 in cbv
  subst hO hK hS0 hS1 hS2 hS3 hS4 hS5 hS6 hS7 hS8 hS9 hS10 hS11 hS12 hS13 hS14 hS15 hS16 hS17 hS18 hS19 hS20 hS21 hS22 hS23 hS24 hS25 hS26
  simp only [s_RemModsF, R.Y] at hr
  try dsimp only [real, rops, ropsB, ropsC, ropsD, ropsE, ropsF, ropsG, ropsH, ropsI, ropsJ, ropsK, ropsL, ropsM, ropsN, ropsP, ropsQ, ropsDv, ropsRm, ropsRs, ropsT, ropsU, ropsV, ropsRt, ropsQs, ropsRf, ropsRl, ropsRn]
  obtain ⟨h1, h2, rfl⟩ := hr
  replace h1 : spB x1 x2 x3 = false := h1
  replace h2 : farB x1 x2 x3 = true := h2
  have kt : kR AT.bool (LV.bool true) (LV.bool true) := rfl
  obtain ⟨ha, hb, hu, hne, _⟩ := sp_no h1 0
  simp [h1, h2, ha, hb, kt]
theorem p_RemMods0 : SpecOk Tryz.prog globs 8 (mkSpec real [.int .i64, .word, .word] (s_RemMods0 ropsRn)) := by
  have hfns : FnsOk Tryz.prog globs [(34, .spec (mkSpec real [.int .i64, .word, .word] (s_rModF ropsRn))), (38, .spec (mkSpec real [.int .i64, .word, .word] (s_rParityF 0 ropsRn))), (27, .spec (mkSpec real [.int .i64, .word, .word] (s_special31F ropsRn))), (29, .spec (mkSpec real [.int .i64, .word, .word] (s_far31F ropsRn))), (31, .spec (mkSpec real [.int .i64, .word, .word] (s_mod31 ropsRf))), (33, .spec (mkSpec real [.int .i64, .big, .int .i64, .bool] (s_word31 ropsRf))), (32, .spec (mkSpec real [.int .i64, .word] (s_neg06 ropsC))), (28, .spec (mkSpec real [] (s_awake31 ropsRl)))] := (fnsCons (fnSpec (p_rModF)) (fnsCons (fnSpec (p_rParityF 0)) (fnsCons (fnSpec (p_special31F)) (fnsCons (fnSpec (p_far31F)) (fnsCons (fnSpec (p_mod31)) (fnsCons (fnSpec (p_word31)) (fnsCons (fnSpec (p_neg06)) (fnsCons (fnSpec (p_awake31)) fnsNil))))))))
  refine spec0 hfns (by kernel_rfl) Tryz.func8 (by kernel_rfl) (by kernel_rfl) (by kernel_rfl) 4 _ _ (.bool) ?_
  clear hfns
  generalize hEE : env0 [(34, .spec (mkSpec real [.int .i64, .word, .word] (s_rModF ropsRn))), (38, .spec (mkSpec real [.int .i64, .word, .word] (s_rParityF 0 ropsRn))), (27, .spec (mkSpec real [.int .i64, .word, .word] (s_special31F ropsRn))), (29, .spec (mkSpec real [.int .i64, .word, .word] (s_far31F ropsRn))), (31, .spec (mkSpec real [.int .i64, .word, .word] (s_mod31 ropsRf))), (33, .spec (mkSpec real [.int .i64, .big, .int .i64, .bool] (s_word31 ropsRf))), (32, .spec (mkSpec real [.int .i64, .word] (s_neg06 ropsC))), (28, .spec (mkSpec real [] (s_awake31 ropsRl)))] = EE
  intro l r hl hr
  simp only [Forms, Form] at hl
  obtain ⟨_, _, rfl, ⟨x1, rfl, x1lo, x1hi⟩, _, _, rfl, ⟨x2, rfl⟩, _, _, rfl, ⟨x3, rfl⟩, rfl⟩ := hl
  subst hEE
  generalize hK : kR (.bool) r = K
  generalize hO : real = O
  generalize hS0 : rops = S0
  generalize hS1 : ropsB = S1
  generalize hS2 : ropsC = S2
  generalize hS3 : ropsD = S3
  generalize hS4 : ropsE = S4
  generalize hS5 : ropsF = S5
  generalize hS6 : ropsG = S6
  generalize hS7 : ropsH = S7
  generalize hS8 : ropsI = S8
  generalize hS9 : ropsJ = S9
  generalize hS10 : ropsK = S10
  generalize hS11 : ropsL = S11
  generalize hS12 : ropsM = S12
  generalize hS13 : ropsN = S13
  generalize hS14 : ropsP = S14
  generalize hS15 : ropsQ = S15
  generalize hS16 : ropsDv = S16
  generalize hS17 : ropsRm = S17
  generalize hS18 : ropsRs = S18
  generalize hS19 : ropsT = S19
  generalize hS20 : ropsU = S20
  generalize hS21 : ropsV = S21
  generalize hS22 : ropsRt = S22
  generalize hS23 : ropsQs = S23
  generalize hS24 : ropsRf = S24
  generalize hS25 : ropsRl = S25
  generalize hS26 : ropsRn = S26
  set_option maxRecDepth 100000 in cbv
  subst hO hK hS0 hS1 hS2 hS3 hS4 hS5 hS6 hS7 hS8 hS9 hS10 hS11 hS12 hS13 hS14 hS15 hS16 hS17 hS18 hS19 hS20 hS21 hS22 hS23 hS24 hS25 hS26
  simp only [s_RemMods0, R.Y] at hr
  try dsimp only [real, rops, ropsB, ropsC, ropsD, ropsE, ropsF, ropsG, ropsH, ropsI, ropsJ, ropsK, ropsL, ropsM, ropsN, ropsP, ropsQ, ropsDv, ropsRm, ropsRs, ropsT, ropsU, ropsV, ropsRt, ropsQs, ropsRf, ropsRl, ropsRn]
  obtain ⟨h1, h2, h3, rfl⟩ := hr
  replace h1 : spB x1 x2 x3 = false := h1
  replace h2 : farB x1 x2 x3 = false := h2
  replace h3 : parN x1 x2 x3 = 0 := h3
  have kt : kR AT.bool (LV.bool true) (LV.bool true) := rfl
  obtain ⟨ha, hb, hu, hne, _, _, _, hf⟩ := sp_no h1 0
  have hlt := rm_below (a := x2) hne
  obtain ⟨f1, f2⟩ := lf_word ha hb hne (Nat.le_refl (rmR x1 x2 x3))
  obtain ⟨b1, b2, b3⟩ := rm_near ha hb h2
  have hok : okN (rmR x1 x2 x3) (rmE x1 x2 x3) := ⟨Nat.le_trans (bitN_mono (Nat.le_of_lt hlt)) (by omega), by omega, by omega⟩
  have hW : mdWord x1 x2 x3 = fWordOf x1 (wNeg x1 x2) (findM x1 (rmR x1 x2 x3) (rmE x1 x2 x3)) := rfl
  have hO : rmO x1 x2 x3 = false := by
    unfold parN at h3
    cases hh : rmO x1 x2 x3 with
    | false => first | rfl | (rw [hh] at h3; cases h3)
    | true => first | rfl | (rw [hh] at h3; cases h3)
  refine ⟨h1, h1, h3, h1, ha, hb, h2, ha, hb, hne, h2, hf, hok, ⟨f1, f2⟩, ?_⟩
  rw [hW, hO]
  simp [kt]
theorem p_RemMods1 : SpecOk Tryz.prog globs 8 (mkSpec real [.int .i64, .word, .word] (s_RemMods1 ropsRn)) := by
  have hfns : FnsOk Tryz.prog globs [(34, .spec (mkSpec real [.int .i64, .word, .word] (s_rModF ropsRn))), (38, .spec (mkSpec real [.int .i64, .word, .word] (s_rParityF 1 ropsRn))), (27, .spec (mkSpec real [.int .i64, .word, .word] (s_special31F ropsRn))), (29, .spec (mkSpec real [.int .i64, .word, .word] (s_far31F ropsRn))), (31, .spec (mkSpec real [.int .i64, .word, .word] (s_mod31 ropsRf))), (33, .spec (mkSpec real [.int .i64, .big, .int .i64, .bool] (s_word31 ropsRf))), (32, .spec (mkSpec real [.int .i64, .word] (s_neg06 ropsC))), (28, .spec (mkSpec real [] (s_awake31 ropsRl)))] := (fnsCons (fnSpec (p_rModF)) (fnsCons (fnSpec (p_rParityF 1)) (fnsCons (fnSpec (p_special31F)) (fnsCons (fnSpec (p_far31F)) (fnsCons (fnSpec (p_mod31)) (fnsCons (fnSpec (p_word31)) (fnsCons (fnSpec (p_neg06)) (fnsCons (fnSpec (p_awake31)) fnsNil))))))))
  refine spec0 hfns (by kernel_rfl) Tryz.func8 (by kernel_rfl) (by kernel_rfl) (by kernel_rfl) 4 _ _ (.bool) ?_
  clear hfns
  generalize hEE : env0 [(34, .spec (mkSpec real [.int .i64, .word, .word] (s_rModF ropsRn))), (38, .spec (mkSpec real [.int .i64, .word, .word] (s_rParityF 1 ropsRn))), (27, .spec (mkSpec real [.int .i64, .word, .word] (s_special31F ropsRn))), (29, .spec (mkSpec real [.int .i64, .word, .word] (s_far31F ropsRn))), (31, .spec (mkSpec real [.int .i64, .word, .word] (s_mod31 ropsRf))), (33, .spec (mkSpec real [.int .i64, .big, .int .i64, .bool] (s_word31 ropsRf))), (32, .spec (mkSpec real [.int .i64, .word] (s_neg06 ropsC))), (28, .spec (mkSpec real [] (s_awake31 ropsRl)))] = EE
  intro l r hl hr
  simp only [Forms, Form] at hl
  obtain ⟨_, _, rfl, ⟨x1, rfl, x1lo, x1hi⟩, _, _, rfl, ⟨x2, rfl⟩, _, _, rfl, ⟨x3, rfl⟩, rfl⟩ := hl
  subst hEE
  generalize hK : kR (.bool) r = K
  generalize hO : real = O
  generalize hS0 : rops = S0
  generalize hS1 : ropsB = S1
  generalize hS2 : ropsC = S2
  generalize hS3 : ropsD = S3
  generalize hS4 : ropsE = S4
  generalize hS5 : ropsF = S5
  generalize hS6 : ropsG = S6
  generalize hS7 : ropsH = S7
  generalize hS8 : ropsI = S8
  generalize hS9 : ropsJ = S9
  generalize hS10 : ropsK = S10
  generalize hS11 : ropsL = S11
  generalize hS12 : ropsM = S12
  generalize hS13 : ropsN = S13
  generalize hS14 : ropsP = S14
  generalize hS15 : ropsQ = S15
  generalize hS16 : ropsDv = S16
  generalize hS17 : ropsRm = S17
  generalize hS18 : ropsRs = S18
  generalize hS19 : ropsT = S19
  generalize hS20 : ropsU = S20
  generalize hS21 : ropsV = S21
  generalize hS22 : ropsRt = S22
  generalize hS23 : ropsQs = S23
  generalize hS24 : ropsRf = S24
  generalize hS25 : ropsRl = S25
  generalize hS26 : ropsRn = S26
  set_option maxRecDepth 100000 in cbv
  subst hO hK hS0 hS1 hS2 hS3 hS4 hS5 hS6 hS7 hS8 hS9 hS10 hS11 hS12 hS13 hS14 hS15 hS16 hS17 hS18 hS19 hS20 hS21 hS22 hS23 hS24 hS25 hS26
  simp only [s_RemMods1, R.Y] at hr
  try dsimp only [real, rops, ropsB, ropsC, ropsD, ropsE, ropsF, ropsG, ropsH, ropsI, ropsJ, ropsK, ropsL, ropsM, ropsN, ropsP, ropsQ, ropsDv, ropsRm, ropsRs, ropsT, ropsU, ropsV, ropsRt, ropsQs, ropsRf, ropsRl, ropsRn]
  obtain ⟨h1, h2, h3, rfl⟩ := hr
  replace h1 : spB x1 x2 x3 = false := h1
  replace h2 : farB x1 x2 x3 = false := h2
  replace h3 : parN x1 x2 x3 = 1 := h3
  have kt : kR AT.bool (LV.bool true) (LV.bool true) := rfl
  obtain ⟨ha, hb, hu, hne, _, _, _, hf⟩ := sp_no h1 0
  have hlt := rm_below (a := x2) hne
  obtain ⟨f1, f2⟩ := lf_word ha hb hne (Nat.le_refl (rmR x1 x2 x3))
  obtain ⟨b1, b2, b3⟩ := rm_near ha hb h2
  have hok : okN (rmR x1 x2 x3) (rmE x1 x2 x3) := ⟨Nat.le_trans (bitN_mono (Nat.le_of_lt hlt)) (by omega), by omega, by omega⟩
  have hW : mdWord x1 x2 x3 = fWordOf x1 (wNeg x1 x2) (findM x1 (rmR x1 x2 x3) (rmE x1 x2 x3)) := rfl
  have hO : rmO x1 x2 x3 = true := by
    unfold parN at h3
    cases hh : rmO x1 x2 x3 with
    | false => first | rfl | (rw [hh] at h3; cases h3)
    | true => first | rfl | (rw [hh] at h3; cases h3)
  refine ⟨h1, h1, h3, h1, ha, hb, h2, ha, hb, hne, h2, hf, hok, ⟨f1, f2⟩, ?_⟩
  rw [hW, hO]
  simp [kt]
theorem p_RemMods : SpecOk Tryz.prog globs 8 (mkSpec real [.int .i64, .word, .word] (s_RemMods ropsRn)) := by
  refine spec_or (g1 := fun l => match l with
    | [.int _ f, .word a, .word b] => if spB f a b = true then s_RemModsS ropsRn l else s_RemModsF ropsRn l
    | _ => .fail) (g2 := fun l => match l with
    | [.int _ f, .word a, .word b] => if parN f a b = 0 then s_RemMods0 ropsRn l else s_RemMods1 ropsRn l
    | _ => .fail) ?_ ?_ ?_
  · refine spec_or p_RemModsS p_RemModsF ?_
    intro l r hl hr
    split at hr
    · split at hr
      · exact .inl hr
      · exact .inr hr
    · exact hr.elim
  · refine spec_or p_RemMods0 p_RemMods1 ?_
    intro l r hl hr
    split at hr
    · split at hr
      · exact .inl hr
      · exact .inr hr
    · exact hr.elim
  · intro l r hl hr
    simp only [Forms, Form] at hl
    obtain ⟨_, _, rfl, ⟨f, rfl, _⟩, _, _, rfl, ⟨a, rfl⟩, _, _, rfl, ⟨b, rfl⟩, rfl⟩ := hl
    have hr : LV.bool true = r := hr
    subst hr
    cases hS : spB f a b with
    | true => exact .inl (by show (if _ then _ else _ : R LV).Y _; rw [if_pos hS]; exact ⟨hS, rfl⟩)
    | false =>
      cases hF : farB f a b with
      | true => exact .inl (by show (if _ then _ else _ : R LV).Y _; rw [if_neg (by rw [hS]; decide)]; exact ⟨hS, hF, rfl⟩)
      | false =>
        by_cases h0 : parN f a b = 0
        · exact .inr (by show (if _ then _ else _ : R LV).Y _; rw [if_pos h0]; exact ⟨hS, hF, h0, rfl⟩)
        · have h1 : parN f a b = 1 := by
            unfold parN at h0 ⊢
            cases hh : rmO f a b with
            | true => rfl
            | false => rw [hh] at h0; exact absurd rfl h0
          exact .inr (by show (if _ then _ else _ : R LV).Y _; rw [if_neg h0]; exact ⟨hS, hF, h1, rfl⟩)
end Go.LE