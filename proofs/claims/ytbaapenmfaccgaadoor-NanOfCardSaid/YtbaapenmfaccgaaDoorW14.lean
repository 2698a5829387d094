import Derived.Test.YtbaapenmfaccgaaDoorW13
import Derived.Test.YtbaapenmfaccgaaDoorLeO
set_option linter.unusedVariables false
set_option linter.unusedSimpArgs false
namespace Go.LE
open Go Go.Proofs
structure OpsI where
  nanW : Int → BitVec 128
  inv : Int → Int
noncomputable def ropsI : OpsI where
  nanW := fun f => fNaN f
  inv := fun f => bif fOk f then 1 else 0
def s_none10 (S : OpsI) : List LV → R LV
  | [.int _ f] => .ok (.tup [.word (S.nanW f), .int .i64 (S.inv f)])
  | _ => .fail
def s_awake10 (_ : OpsI) : List LV → R LV := fun _ => .ok (.bool true)
def s_NanQuiets (_ : OpsI) : List LV → R LV := fun _ => .ok (.bool true)
def s_NanOf (_ : OpsI) : List LV → R LV := fun _ => .ok (.bool true)
def s_of10 (S : OpsG) : List LV → R LV
  | [.int _ f, .words l] => .ok (.tup [.word (S.nanV f l), .int .i64 (S.nanX f l), .bool (S.nanIs f l)])
  | _ => .fail
theorem p_none10 : SpecOk Tryd.prog globs 68 (mkSpec real [.int .i64] (s_none10 ropsI)) := by
  have hfns : FnsOk Tryd.prog globs [(28, .spec (mkSpec real [.int .i64] (s_fmtOf rops))), (17, .spec (mkSpec real [.int .i64] (s_nanW rops)))] := (fnsCons (fnSpec (p_fmtOf)) (fnsCons (fnSpec (p_nanW)) fnsNil))
  refine spec0 hfns (by kernel_rfl) Tryd.func68 (by kernel_rfl) (by kernel_rfl) (by kernel_rfl) 4 _ _ (.tup [.word, .int .i64]) ?_
  clear hfns
  generalize hEE : env0 [(28, .spec (mkSpec real [.int .i64] (s_fmtOf rops))), (17, .spec (mkSpec real [.int .i64] (s_nanW rops)))] = EE
  intro l r hl hr
  simp only [Forms, Form] at hl
  obtain ⟨_, _, rfl, ⟨x1, rfl, x1lo, x1hi⟩, rfl⟩ := hl
  subst hEE
  generalize hK : kR (.tup [.word, .int .i64]) r = K
  generalize hO : real = O
  generalize hS0 : rops = S0
  generalize hS1 : ropsB = S1
  generalize hS2 : ropsC = S2
  generalize hS3 : ropsD = S3
  generalize hS4 : ropsE = S4
  generalize hS5 : ropsF = S5
  generalize hS6 : ropsG = S6
  generalize hS7 : ropsH = S7
  generalize hS8 : ropsI = S8
  set_option maxRecDepth 100000 in cbv
  subst hO hK hS0 hS1 hS2 hS3 hS4 hS5 hS6 hS7 hS8
  simp only [s_none10, R.Y] at hr
  subst hr
  try dsimp only [real, rops, ropsB, ropsC, ropsD, ropsE, ropsF, ropsG, ropsH, ropsI]
  refine ⟨imp_f fun h => ?_, imp_t fun h => ?_⟩
  · have h : fOk x1 = false := by simpa using h
    have e : fNaN x1 = 0 := by
      unfold fNaN fWordOf
      rw [if_neg (by unfold fOk at h; simpa using h)]
    rw [h, e]
    simp only [kR, canon, canons, getW, getWord, allInts8, asInt, isK, kindEq, isArgB, strOf, cBig, cInts, cWords, allInts, allWords, r_ofLimbs, r_mkWord, Option.some.injEq, LV.wide.injEq, LV.word.injEq, LV.int.injEq, LV.bool.injEq, LV.str.injEq, LV.big.injEq, LV.tup.injEq, LV.agg.injEq, List.cons.injEq, and_true, true_and]
    exact ⟨rfl, rfl⟩
  · have h : fOk x1 = true := by simpa using h
    rw [h]
    simp only [kR, canon, canons, getW, getWord, allInts8, asInt, isK, kindEq, isArgB, strOf, cBig, cInts, cWords, allInts, allWords, r_ofLimbs, r_mkWord, Option.some.injEq, LV.wide.injEq, LV.word.injEq, LV.int.injEq, LV.bool.injEq, LV.str.injEq, LV.big.injEq, LV.tup.injEq, LV.agg.injEq, List.cons.injEq, and_true, true_and]
    rfl
theorem p_awake10 : SpecOk Tryd.prog globs 59 (mkSpec real [] (s_awake10 ropsI)) := by
  have hfns : FnsOk Tryd.prog globs [(66, .spec (mkSpec real [.int .i64, .words] (s_nanOf ropsG)))] := (fnsCons (fnSpec (p_nanOf)) fnsNil)
  refine spec0 hfns (by kernel_rfl) Tryd.func59 (by kernel_rfl) (by kernel_rfl) (by kernel_rfl) 4 _ _ (.bool) ?_
  clear hfns
  generalize hEE : env0 [(66, .spec (mkSpec real [.int .i64, .words] (s_nanOf ropsG)))] = EE
  intro l r hl hr
  simp only [Forms, Form] at hl
  obtain rfl := hl
  subst hEE
  generalize hK : kR (.bool) r = K
  generalize hO : real = O
  generalize hS0 : rops = S0
  generalize hS1 : ropsB = S1
  generalize hS2 : ropsC = S2
  generalize hS3 : ropsD = S3
  generalize hS4 : ropsE = S4
  generalize hS5 : ropsF = S5
  generalize hS6 : ropsG = S6
  generalize hS7 : ropsH = S7
  generalize hS8 : ropsI = S8
  set_option maxRecDepth 100000 in cbv
  subst hO hK hS0 hS1 hS2 hS3 hS4 hS5 hS6 hS7 hS8
  simp only [s_awake10, R.Y] at hr
  subst hr
  try dsimp only [real, rops, ropsB, ropsC, ropsD, ropsE, ropsF, ropsG, ropsH, ropsI]
  simp only [kb_t, kb_lt, kb_lf]; decide +kernel
theorem p_NanQuiets : SpecOk Tryd.prog globs 10 (mkSpec real [.int .i64, .word] (s_NanQuiets ropsI)) := by
  have hfns : FnsOk Tryd.prog globs [(56, .spec (mkSpec real [.int .i64, .word] (s_quieted ropsF))), (57, .spec (mkSpec real [.int .i64, .word] (s_quieted10 ropsF))), (58, .spec (mkSpec real [.int .i64, .word] (s_payload ropsF))), (39, .spec (mkSpec real [.int .i64, .word] (s_class06 ropsC))), (59, .spec (mkSpec real [] (s_awake10 ropsI)))] := (fnsCons (fnSpec (p_quieted)) (fnsCons (fnSpec (p_quieted10)) (fnsCons (fnSpec (p_payload)) (fnsCons (fnSpec (p_class06)) (fnsCons (fnSpec (p_awake10)) fnsNil)))))
  refine spec0 hfns (by kernel_rfl) Tryd.func10 (by kernel_rfl) (by kernel_rfl) (by kernel_rfl) 4 _ _ (.bool) ?_
  clear hfns
  generalize hEE : env0 [(56, .spec (mkSpec real [.int .i64, .word] (s_quieted ropsF))), (57, .spec (mkSpec real [.int .i64, .word] (s_quieted10 ropsF))), (58, .spec (mkSpec real [.int .i64, .word] (s_payload ropsF))), (39, .spec (mkSpec real [.int .i64, .word] (s_class06 ropsC))), (59, .spec (mkSpec real [] (s_awake10 ropsI)))] = EE
  intro l r hl hr
  simp only [Forms, Form] at hl
  obtain ⟨_, _, rfl, ⟨x1, rfl, x1lo, x1hi⟩, _, _, rfl, ⟨x2, rfl⟩, rfl⟩ := hl
  subst hEE
  generalize hK : kR (.bool) r = K
  generalize hO : real = O
  generalize hS0 : rops = S0
  generalize hS1 : ropsB = S1
  generalize hS2 : ropsC = S2
  generalize hS3 : ropsD = S3
  generalize hS4 : ropsE = S4
  generalize hS5 : ropsF = S5
  generalize hS6 : ropsG = S6
  generalize hS7 : ropsH = S7
  generalize hS8 : ropsI = S8
  set_option maxRecDepth 100000 in cbv
  subst hO hK hS0 hS1 hS2 hS3 hS4 hS5 hS6 hS7 hS8
  simp only [s_NanQuiets, R.Y] at hr
  subst hr
  try dsimp only [real, rops, ropsB, ropsC, ropsD, ropsE, ropsF, ropsG, ropsH, ropsI]
  have hn : wNaN x1 x2 = decide (cls x1 x2 = 1 ∨ cls x1 x2 = 2) := rfl
  simp only [q_nan, q_pay, decide_true, kb_t, kb_lt, kb_lf]
  by_cases h1 : cls x1 x2 = 1
  · have h2 := (q_cls h1).1
    have h3 : wNaN x1 x2 = true := by rw [hn]; exact decide_eq_true (.inl h1)
    simp only [h1, h2, h3, eql_dec]
    decide
  · rw [q_other h1]
    by_cases h2 : cls x1 x2 = 2
    · have h3 : wNaN x1 x2 = true := by rw [hn]; exact decide_eq_true (.inr h2)
      simp only [h2, h3, eql_dec]
      decide
    · have h3 : wNaN x1 x2 = false := by rw [hn]; exact decide_eq_false (by omega)
      simp only [h3, eql_dec, decide_eq_false h1, decide_eq_false h2]
      decide
theorem p_of10 : SpecOk Tryd.prog globs 67 (mkSpec real [.int .i64, .words] (s_of10 ropsG)) := by
  have hfns : FnsOk Tryd.prog globs [(39, .spec (mkSpec real [.int .i64, .word] (s_class06 ropsC))), (57, .spec (mkSpec real [.int .i64, .word] (s_quieted10 ropsF)))] := (fnsCons (fnSpec (p_class06)) (fnsCons (fnSpec (p_quieted10)) fnsNil))
  refine specL (fun _ => [0,1,4,7,8,9,10]) hfns (by kernel_rfl) Tryd.func67 (by kernel_rfl) (by kernel_rfl) (by kernel_rfl) 4 _ _ (.tup [.word, .int .i64, .bool]) ?_
  clear hfns
  generalize hEE : envL (fun _ => [0,1,4,7,8,9,10]) [(39, .spec (mkSpec real [.int .i64, .word] (s_class06 ropsC))), (57, .spec (mkSpec real [.int .i64, .word] (s_quieted10 ropsF)))] = EE
  intro l r hl hr
  simp only [Forms, Form] at hl
  obtain ⟨_, _, rfl, ⟨x1, rfl, x1lo, x1hi⟩, _, _, rfl, ⟨x2, rfl, x2len⟩, rfl⟩ := hl
  subst hEE
  generalize hK : kR (.tup [.word, .int .i64, .bool]) r = K
  generalize hO : real = O
  generalize hS0 : rops = S0
  generalize hS1 : ropsB = S1
  generalize hS2 : ropsC = S2
  generalize hS3 : ropsD = S3
  generalize hS4 : ropsE = S4
  generalize hS5 : ropsF = S5
  generalize hS6 : ropsG = S6
  generalize hS7 : ropsH = S7
  generalize hS8 : ropsI = S8
  set_option maxRecDepth 100000 in cbv
  have hr : r = _ := hr.symm
  subst hO hK hS0 hS1 hS2 hS3 hS4 hS5 hS6 hS7 hS8
  subst hr
  have h7 : ((x2.length : Nat) : Int) < 4611686018427387904 := x2len
  have hst : arithR .sub .i64 ((x2.length : Nat) : Int) 1 = ((x2.length : Nat) : Int) - 1 := sub_i64 (by omega) (by omega)
  refine loop_rule (α := BitVec 128 × BitVec 128 × Int × Bool × Int) (fun p => ⟨[.int .i64 x1, .words x2, .undef, .undef, .ptr 0 0, .undef, .undef, .ptr 3 0, .int .i64 p.2.2.1, .bool p.2.2.2.1, .int .i64 p.2.2.2.2, .undef, .undef, .undef, .undef, .undef, .undef, .undef, .undef, .undef, .undef, .undef, .undef, .undef, .undef, .undef, .undef, .undef, .undef, .undef, .undef, .undef, .undef, .undef, .undef, .undef, .undef, .undef, .undef, .undef, .undef, .undef], ofL [some (wordT, .word p.1), none, none, some (wordT, .word p.2.1), none, none, none, none, none, none], 10⟩)
    (fun m p => -1 ≤ p.2.2.2.2 ∧ p.2.2.2.2 < ((x2.length : Nat) : Int) ∧ p.2.1 = nanV x1 (x2.drop (p.2.2.2.2 + 1).toNat) ∧ p.2.2.1 = nanX x1 (x2.drop (p.2.2.2.2 + 1).toNat) ∧ p.2.2.2.1 = nanIs x1 (x2.drop (p.2.2.2.2 + 1).toNat) ∧ p.2.2.2.2 < ((m : Nat) : Int)) ?_ x2.length (real.mkWord 0 0, real.mkWord 0 0, 0, false, real.arith .sub .i64 (real.lenW x2) 1) ?_
  · rintro m ⟨b0, b3, fl, is, i⟩ X ⟨h1, h2, h3, h4, h5, h6⟩ hX
    (generalize hK : kR _ _ = K; generalize hO : real = O; generalize hS0 : rops = S0; generalize hS1 : ropsB = S1; generalize hS2 : ropsC = S2; generalize hS3 : ropsD = S3; generalize hS4 : ropsE = S4; generalize hS5 : ropsF = S5; generalize hS6 : ropsG = S6; generalize hS7 : ropsH = S7; generalize hS8 : ropsI = S8; set_option maxRecDepth 100000 in cbv; subst hO hK hS0 hS1 hS2 hS3 hS4 hS5 hS6 hS7 hS8; dsimp only [real, rops, ropsB, ropsC, ropsD, ropsE, ropsF, ropsG, ropsH, ropsI])
    have k1 : -1 ≤ i := h1
    have k2 : i < ((x2.length : Nat) : Int) := h2
    have k3 : b3 = nanV x1 (x2.drop (i + 1).toNat) := h3
    have k4 : fl = nanX x1 (x2.drop (i + 1).toNat) := h4
    have k5 : is = nanIs x1 (x2.drop (i + 1).toNat) := h5
    have k6 : i < ((m : Nat) : Int) := h6
    have k7 : ((x2.length : Nat) : Int) < 4611686018427387904 := x2len
    clear h1 h2 h3 h4 h5 h6
    refine ⟨imp_f fun h => ?_, imp_t fun h => ?_⟩
    · rw [c_geq_t] at h
      have e3 : arithR .sub .i64 i 1 = i - 1 := sub_i64 (by omega) (by omega)
      rw [e3]
      have hm : m = (m - 1) + 1 := by omega
      have hc2 : i - 1 < ((m - 1 : Nat) : Int) := by omega
      have hd : x2.drop (i - 1 + 1).toNat = x2.getD i.toNat 0#128 :: x2.drop (i + 1).toNat := by
        have := drop_at (l := x2) (i := i.toNat) (by omega)
        rw [show (i - 1 + 1).toNat = i.toNat by omega, this, show (i + 1).toNat = i.toNat + 1 by omega]
      obtain ⟨s1, s2, s3⟩ := nan_step (f := x1) (w := x2.getD i.toNat 0#128) (x2.drop (i + 1).toNat)
      have go : ∀ v x n, v = nanV x1 (x2.getD i.toNat 0#128 :: x2.drop (i + 1).toNat) → x = nanX x1 (x2.getD i.toNat 0#128 :: x2.drop (i + 1).toNat) → n = nanIs x1 (x2.getD i.toNat 0#128 :: x2.drop (i + 1).toNat) → X ⟨[.int .i64 x1, .words x2, .undef, .undef, .ptr 0 0, .undef, .undef, .ptr 3 0, .int .i64 x, .bool n, .int .i64 (i - 1), .undef, .undef, .undef, .undef, .undef, .undef, .undef, .undef, .undef, .undef, .undef, .undef, .undef, .undef, .undef, .undef, .undef, .undef, .undef, .undef, .undef, .undef, .undef, .undef, .undef, .undef, .undef, .undef, .undef, .undef, .undef], ofL [some (wordT, .word b0), none, none, some (wordT, .word v), none, none, none, none, none, none], 10⟩ := fun v x n e1 e2 e3 =>
        hX (m - 1) (b0, v, x, n, i - 1) hm ⟨by show -1 ≤ i - 1; omega, by show i - 1 < ((x2.length : Nat) : Int); omega, by show v = nanV x1 (x2.drop (i - 1 + 1).toNat); rw [hd]; exact e1, by show x = nanX x1 (x2.drop (i - 1 + 1).toNat); rw [hd]; exact e2, by show n = nanIs x1 (x2.drop (i - 1 + 1).toNat); rw [hd]; exact e3, hc2⟩
      have hii : 0 ≤ i ∧ i < ((x2.length : Nat) : Int) := ⟨h, k2⟩
      refine ⟨hii, imp_f fun g1 => ?_, imp_t fun g1 => ?_⟩
      · rw [c_eql_t] at g1
        obtain ⟨e1, e2, e3⟩ := s1 g1
        refine ⟨imp_f fun _ => ⟨hii, go _ _ _ e1.symm e2.symm e3.symm⟩, imp_t fun g2 => ?_⟩
        rw [c_eql_f] at g2; exact absurd g1 g2
      · rw [c_eql_f] at g1
        refine ⟨imp_f fun g2 => ?_, imp_t fun g2 => ⟨imp_f fun g3 => ?_, imp_t fun g3 => ?_⟩⟩
        · rw [c_eql_t] at g2; exact absurd g2 g1
        · rw [c_eql_t] at g3
          obtain ⟨e1, e2, e3⟩ := s2 g3
          exact ⟨hii, go _ _ _ e1.symm (k4.trans e2.symm) e3.symm⟩
        · rw [c_eql_f] at g3
          obtain ⟨e1, e2, e3⟩ := s3 g1 g3
          exact go _ _ _ (k3.trans e1.symm) (k4.trans e2.symm) (k5.trans e3.symm)
    · rw [c_geq_f] at h
      have hi : i = -1 := by omega
      subst hi
      simp only [kR, canon, canons, getW, getWord, allInts8, asInt, isK, kindEq, isArgB, strOf, cBig, cInts, cWords, allInts, allWords, r_ofLimbs, r_mkWord, Option.some.injEq, LV.wide.injEq, LV.word.injEq, LV.int.injEq, LV.bool.injEq, LV.str.injEq, LV.big.injEq, LV.tup.injEq, LV.agg.injEq, List.cons.injEq, and_true, true_and]
      rw [k3, k4, k5]
      exact ⟨rfl, rfl, rfl⟩
  · have hv : ∀ v : Int, v = ((x2.length : Nat) : Int) - 1 → (-1 ≤ v ∧ v < ((x2.length : Nat) : Int) ∧ real.mkWord 0 0 = nanV x1 (x2.drop (v + 1).toNat) ∧ (0 : Int) = nanX x1 (x2.drop (v + 1).toNat) ∧ false = nanIs x1 (x2.drop (v + 1).toNat) ∧ v < ((x2.length : Nat) : Int)) := by
      intro v hv
      subst hv
      have : x2.drop (((x2.length : Nat) : Int) - 1 + 1).toNat = [] := by rw [List.drop_eq_nil_iff]; omega
      rw [this]
      exact ⟨by omega, by omega, rfl, rfl, rfl, by omega⟩
    exact hv _ hst
theorem p_NanOf : SpecOk Tryd.prog globs 12 (mkSpec real [.int .i64, .words] (s_NanOf ropsI)) := by
  have hfns : FnsOk Tryd.prog globs [(66, .spec (mkSpec real [.int .i64, .words] (s_nanOf ropsG))), (67, .spec (mkSpec real [.int .i64, .words] (s_of10 ropsG))), (68, .spec (mkSpec real [.int .i64] (s_none10 ropsI))), (15, .spec (mkSpec real [.int .i64] (s_is rops))), (24, .spec (mkSpec real [.int .i64] (s_refNaN rops))), (59, .spec (mkSpec real [] (s_awake10 ropsI)))] := (fnsCons (fnSpec (p_nanOf)) (fnsCons (fnSpec (p_of10)) (fnsCons (fnSpec (p_none10)) (fnsCons (fnSpec (p_is)) (fnsCons (fnSpec (p_refNaN)) (fnsCons (fnSpec (p_awake10)) fnsNil))))))
  refine spec0 hfns (by kernel_rfl) Tryd.func12 (by kernel_rfl) (by kernel_rfl) (by kernel_rfl) 4 _ _ (.bool) ?_
  clear hfns
  generalize hEE : env0 [(66, .spec (mkSpec real [.int .i64, .words] (s_nanOf ropsG))), (67, .spec (mkSpec real [.int .i64, .words] (s_of10 ropsG))), (68, .spec (mkSpec real [.int .i64] (s_none10 ropsI))), (15, .spec (mkSpec real [.int .i64] (s_is rops))), (24, .spec (mkSpec real [.int .i64] (s_refNaN rops))), (59, .spec (mkSpec real [] (s_awake10 ropsI)))] = EE
  intro l r hl hr
  simp only [Forms, Form] at hl
  obtain ⟨_, _, rfl, ⟨x1, rfl, x1lo, x1hi⟩, _, _, rfl, ⟨x2, rfl, x2len⟩, rfl⟩ := hl
  subst hEE
  generalize hK : kR (.bool) r = K
  generalize hO : real = O
  generalize hS0 : rops = S0
  generalize hS1 : ropsB = S1
  generalize hS2 : ropsC = S2
  generalize hS3 : ropsD = S3
  generalize hS4 : ropsE = S4
  generalize hS5 : ropsF = S5
  generalize hS6 : ropsG = S6
  generalize hS7 : ropsH = S7
  generalize hS8 : ropsI = S8
  set_option maxRecDepth 100000 in cbv
  subst hO hK hS0 hS1 hS2 hS3 hS4 hS5 hS6 hS7 hS8
  simp only [s_NanOf, R.Y] at hr
  subst hr
  try dsimp only [real, rops, ropsB, ropsC, ropsD, ropsE, ropsF, ropsG, ropsH, ropsI]
  refine ⟨imp_f fun _ => by rw [kb_t], imp_t fun _ => ?_⟩
  cases h : fOk x1 with
  | true =>
    have hf : 1 ≤ x1 ∧ x1 ≤ 4 := by unfold fOk at h; simpa using h
    simp only [decide_true, eql_self, beq_self_eq_true, cond_true, kb_t, kb_lt, kb_lf, hf, and_self]
    simp
  | false =>
    have e : fNaN x1 = mkWordR 0 0 := by
      unfold fNaN fWordOf
      rw [if_neg (by unfold fOk at h; simpa using h)]
      rfl
    rw [e]
    simp only [decide_true, eql_self, beq_self_eq_true, cond_false, kb_t, kb_lt, kb_lf]
    simp
end Go.LE