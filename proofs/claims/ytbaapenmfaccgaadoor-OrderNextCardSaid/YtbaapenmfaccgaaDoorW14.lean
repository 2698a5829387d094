import Derived.Test.YtbaapenmfaccgaaDoorW13
import Derived.Test.YtbaapenmfaccgaaDoorLeO
set_option linter.unusedVariables false
set_option linter.unusedSimpArgs false
namespace Go.LE
open Go Go.Proofs
structure OpsI where
  nanW : Int → BitVec 128
  inv : Int → Int
noncomputable def ropsI : OpsI where
  nanW := fun f => fNaN f
  inv := fun f => bif fOk f then 1 else 0
def s_none10 (S : OpsI) : List LV → R LV
  | [.int _ f] => .ok (.tup [.word (S.nanW f), .int .i64 (S.inv f)])
  | _ => .fail
def s_awake10 (_ : OpsI) : List LV → R LV := fun _ => .ok (.bool true)
def s_NanQuiets (_ : OpsI) : List LV → R LV := fun _ => .ok (.bool true)
def s_NanOf (_ : OpsI) : List LV → R LV := fun _ => .ok (.bool true)
def s_of10 (S : OpsG) : List LV → R LV
  | [.int _ f, .words l] => .ok (.tup [.word (S.nanV f l), .int .i64 (S.nanX f l), .bool (S.nanIs f l)])
  | _ => .fail
theorem p_none10 : SpecOk Tryd.prog globs 68 (mkSpec real [.int .i64] (s_none10 ropsI)) := by
  have hfns : FnsOk Tryd.prog globs [(28, .spec (mkSpec real [.int .i64] (s_fmtOf rops))), (17, .spec (mkSpec real [.int .i64] (s_nanW rops)))] := (fnsCons (fnSpec (p_fmtOf)) (fnsCons (fnSpec (p_nanW)) fnsNil))
  refine spec0 hfns (by kernel_rfl) Tryd.func68 (by kernel_rfl) (by kernel_rfl) (by kernel_rfl) 4 _ _ (.tup [.word, .int .i64]) ?_
  clear hfns
  generalize hEE : env0 [(28, .spec (mkSpec real [.int .i64] (s_fmtOf rops))), (17, .spec (mkSpec real [.int .i64] (s_nanW rops)))] = EE
  intro l r hl hr
  simp only [Forms, Form] at hl
  obtain ⟨_, _, rfl, ⟨x1, rfl, x1lo, x1hi⟩, rfl⟩ := hl
  subst hEE
  generalize hK : kR (.tup [.word, .int .i64]) r = K
  generalize hO : real = O
  generalize hS0 : rops = S0
  generalize hS1 : ropsB = S1
  generalize hS2 : ropsC = S2
  generalize hS3 : ropsD = S3
  generalize hS4 : ropsE = S4
  generalize hS5 : ropsF = S5
  generalize hS6 : ropsG = S6
  generalize hS7 : ropsH = S7
  generalize hS8 : ropsI = S8
  set_option maxRecDepth 100000 in cbv
  subst hO hK hS0 hS1 hS2 hS3 hS4 hS5 hS6 hS7 hS8
  simp only [s_none10, R.Y] at hr
  subst hr
  try dsimp only [real, rops, ropsB, ropsC, ropsD, ropsE, ropsF, ropsG, ropsH, ropsI]
  refine ⟨imp_f fun h => ?_, imp_t fun h => ?_⟩
  · have h : fOk x1 = false := by simpa using h
    have e : fNaN x1 = 0 := by
      unfold fNaN fWordOf
      rw [if_neg (by unfold fOk at h; simpa using h)]
    rw [h, e]
    simp only [kR, canon, canons, getW, getWord, allInts8, asInt, isK, kindEq, isArgB, strOf, cBig, cInts, cWords, allInts, allWords, r_ofLimbs, r_mkWord, Option.some.injEq, LV.wide.injEq, LV.word.injEq, LV.int.injEq, LV.bool.injEq, LV.str.injEq, LV.big.injEq, LV.tup.injEq, LV.agg.injEq, List.cons.injEq, and_true, true_and]
    exact ⟨rfl, rfl⟩
  · have h : fOk x1 = true := by simpa using h
    rw [h]
    simp only [kR, canon, canons, getW, getWord, allInts8, asInt, isK, kindEq, isArgB, strOf, cBig, cInts, cWords, allInts, allWords, r_ofLimbs, r_mkWord, Option.some.injEq, LV.wide.injEq, LV.word.injEq, LV.int.injEq, LV.bool.injEq, LV.str.injEq, LV.big.injEq, LV.tup.injEq, LV.agg.injEq, List.cons.injEq, and_true, true_and]
    rfl
theorem p_awake10 : SpecOk Tryd.prog globs 59 (mkSpec real [] (s_awake10 ropsI)) := by
  have hfns : FnsOk Tryd.prog globs [(66, .spec (mkSpec real [.int .i64, .words] (s_nanOf ropsG)))] := (fnsCons (fnSpec (p_nanOf)) fnsNil)
  refine spec0 hfns (by kernel_rfl) Tryd.func59 (by kernel_rfl) (by kernel_rfl) (by kernel_rfl) 4 _ _ (.bool) ?_
  clear hfns
  generalize hEE : env0 [(66, .spec (mkSpec real [.int .i64, .words] (s_nanOf ropsG)))] = EE
  intro l r hl hr
  simp only [Forms, Form] at hl
  obtain rfl := hl
  subst hEE
  generalize hK : kR (.bool) r = K
  generalize hO : real = O
  generalize hS0 : rops = S0
  generalize hS1 : ropsB = S1
  generalize hS2 : ropsC = S2
  generalize hS3 : ropsD = S3
  generalize hS4 : ropsE = S4
  generalize hS5 : ropsF = S5
  generalize hS6 : ropsG = S6
  generalize hS7 : ropsH = S7
  generalize hS8 : ropsI = S8
  set_option maxRecDepth 100000 in cbv
  subst hO hK hS0 hS1 hS2 hS3 hS4 hS5 hS6 hS7 hS8
  simp only [s_awake10, R.Y] at hr
  subst hr
  try dsimp only [real, rops, ropsB, ropsC, ropsD, ropsE, ropsF, ropsG, ropsH, ropsI]
  simp only [kb_t, kb_lt, kb_lf]; decide +kernel
theorem p_NanQuiets : SpecOk Tryd.prog globs 10 (mkSpec real [.int .i64, .word] (s_NanQuiets ropsI)) := by
  have hfns : FnsOk Tryd.prog globs [(56, .spec (mkSpec real [.int .i64, .word] (s_quieted ropsF))), (57, .spec (mkSpec real [.int .i64, .word] (s_quieted10 ropsF))), (58, .spec (mkSpec real [.int .i64, .word] (s_payload ropsF))), (39, .spec (mkSpec real [.int .i64, .word] (s_class06 ropsC))), (59, .spec (mkSpec real [] (s_awake10 ropsI)))] := (fnsCons (fnSpec (p_quieted)) (fnsCons (fnSpec (p_quieted10)) (fnsCons (fnSpec (p_payload)) (fnsCons (fnSpec (p_class06)) (fnsCons (fnSpec (p_awake10)) fnsNil)))))
  refine spec0 hfns (by kernel_rfl) Tryd.func10 (by kernel_rfl) (by kernel_rfl) (by kernel_rfl) 4 _ _ (.bool) ?_
  clear hfns
  generalize hEE : env0 [(56, .spec (mkSpec real [.int .i64, .word] (s_quieted ropsF))), (57, .spec (mkSpec real [.int .i64, .word] (s_quieted10 ropsF))), (58, .spec (mkSpec real [.int .i64, .word] (s_payload ropsF))), (39, .spec (mkSpec real [.int .i64, .word] (s_class06 ropsC))), (59, .spec (mkSpec real [] (s_awake10 ropsI)))] = EE
  intro l r hl hr
  simp only [Forms, Form] at hl
  obtain ⟨_, _, rfl, ⟨x1, rfl, x1lo, x1hi⟩, _, _, rfl, ⟨x2, rfl⟩, rfl⟩ := hl
  subst hEE
  generalize hK : kR (.bool) r = K
  generalize hO : real = O
  generalize hS0 : rops = S0
  generalize hS1 : ropsB = S1
  generalize hS2 : ropsC = S2
  generalize hS3 : ropsD = S3
  generalize hS4 : ropsE = S4
  generalize hS5 : ropsF = S5
  generalize hS6 : ropsG = S6
  generalize hS7 : ropsH = S7
  generalize hS8 : ropsI = S8
  set_option maxRecDepth 100000 in cbv
  subst hO hK hS0 hS1 hS2 hS3 hS4 hS5 hS6 hS7 hS8
  simp only [s_NanQuiets, R.Y] at hr
  subst hr
  try dsimp only [real, rops, ropsB, ropsC, ropsD, ropsE, ropsF, ropsG, ropsH, ropsI]
  have hn : wNaN x1 x2 = decide (cls x1 x2 = 1 ∨ cls x1 x2 = 2) := rfl
  simp only [q_nan, q_pay, decide_true, kb_t, kb_lt, kb_lf]
  by_cases h1 : cls x1 x2 = 1
  · have h2 := (q_cls h1).1
    have h3 : wNaN x1 x2 = true := by rw [hn]; exact decide_eq_true (.inl h1)
    simp only [h1, h2, h3, eql_dec]
    decide
  · rw [q_other h1]
    by_cases h2 : cls x1 x2 = 2
    · have h3 : wNaN x1 x2 = true := by rw [hn]; exact decide_eq_true (.inr h2)
      simp only [h2, h3, eql_dec]
      decide
    · have h3 : wNaN x1 x2 = false := by rw [hn]; exact decide_eq_false (by omega)
      simp only [h3, eql_dec, decide_eq_false h1, decide_eq_false h2]
      decide
theorem p_of10 : SpecOk Tryd.prog globs 67 (mkSpec real [.int .i64, .words] (s_of10 ropsG)) := by
  have hfns : FnsOk Tryd.prog globs [(39, .spec (mkSpec real [.int .i64, .word] (s_class06 ropsC))), (57, .spec (mkSpec real [.int .i64, .word] (s_quieted10 ropsF)))] := (fnsCons (fnSpec (p_class06)) (fnsCons (fnSpec (p_quieted10)) fnsNil))
  refine specL (fun _ => [0,1,4,7,8,9,10]) hfns (by kernel_rfl) Tryd.func67 (by kernel_rfl) (by kernel_rfl) (by kernel_rfl) 4 _ _ (.tup [.word, .int .i64, .bool]) ?_
  clear hfns
  generalize hEE : envL (fun _ => [0,1,4,7,8,9,10]) [(39, .spec (mkSpec real [.int .i64, .word] (s_class06 ropsC))), (57, .spec (mkSpec real [.int .i64, .word] (s_quieted10 ropsF)))] = EE
  intro l r hl hr
  simp only [Forms, Form] at hl
  obtain ⟨_, _, rfl, ⟨x1, rfl, x1lo, x1hi⟩, _, _, rfl, ⟨x2, rfl, x2len⟩, rfl⟩ := hl
  subst hEE
  generalize hK : kR (.tup [.word, .int .i64, .bool]) r = K
  generalize hO : real = O
  generalize hS0 : rops = S0
  generalize hS1 : ropsB = S1
  generalize hS2 : ropsC = S2
  generalize hS3 : ropsD = S3
  generalize hS4 : ropsE = S4
  generalize hS5 : ropsF = S5
  generalize hS6 : ropsG = S6
  generalize hS7 : ropsH = S7
  generalize hS8 : ropsI = S8
  set_option maxRecDepth 100000 in cbv
  have hr : r = _ := hr.symm
  subst hO hK hS0 hS1 hS2 hS3 hS4 hS5 hS6 hS7 hS8
  subst hr
  have h7 : ((x2.length : Nat) : Int) < 4611686018427387904 := x2len
  have hst : arithR .sub .i64 ((x2.length : Nat) : Int) 1 = ((x2.length : Nat) : Int) - 1 := sub_i64 (by omega) (by omega)
  refine loop_rule (α := BitVec 128 × BitVec 128 × Int × Bool × Int) (fun p => ⟨[.int .i64 x1, .words x2, .undef, .undef, .ptr 0 0, .undef, .undef, .ptr 3 0, .int .i64 p.2.2.1, .bool p.2.2.2.1, .int .i64 p.2.2.2.2, .undef, .undef, .undef, .undef, .undef, .undef, .undef, .undef, .undef, .undef, .undef, .undef, .undef, .undef, .undef, .undef, .undef, .undef, .undef, .undef, .undef, .undef, .undef, .undef, .undef, .undef, .undef, .undef, .undef, .undef, .undef], ofL [some (wordT, .word p.1), none, none, some (wordT, .word p.2.1), none, none, none, none, none, none], 10⟩)
    (fun m p => -1 ≤ p.2.2.2.2 ∧ p.2.2.2.2 < ((x2.length : Nat) : Int) ∧ p.2.1 = nanV x1 (x2.drop (p.2.2.2.2 + 1).toNat) ∧ p.2.2.1 = nanX x1 (x2.drop (p.2.2.2.2 + 1).toNat) ∧ p.2.2.2.1 = nanIs x1 (x2.drop (p.2.2.2.2 + 1).toNat) ∧ p.2.2.2.2 < ((m : Nat) : Int)) ?_ x2.length (real.mkWord 0 0, real.mkWord 0 0, 0, false, real.arith .sub .i64 (real.lenW x2) 1) ?_
  · rintro m ⟨b0, b3, fl, is, i⟩ X ⟨h1, h2, h3, h4, h5, h6⟩ hX
    (generalize hK : kR _ _ = K; generalize hO : real = O; generalize hS0 : rops = S0; generalize hS1 : ropsB = S1; generalize hS2 : ropsC = S2; generalize hS3 : ropsD = S3; generalize hS4 : ropsE = S4; generalize hS5 : ropsF = S5; generalize hS6 : ropsG = S6; generalize hS7 : ropsH = S7; generalize hS8 : ropsI = S8; set_option maxRecDepth 100000 in cbv; subst hO hK hS0 hS1 hS2 hS3 hS4 hS5 hS6 hS7 hS8; dsimp only [real, rops, ropsB, ropsC, ropsD, ropsE, ropsF, ropsG, ropsH, ropsI])
    have k1 : -1 ≤ i := h1
    have k2 : i < ((x2.length : Nat) : Int) := h2
    have k3 : b3 = nanV x1 (x2.drop (i + 1).toNat) := h3
    have k4 : fl = nanX x1 (x2.drop (i + 1).toNat) := h4
    have k5 : is = nanIs x1 (x2.drop (i + 1).toNat) := h5
    have k6 : i < ((m : Nat) : Int) := h6
    have k7 : ((x2.length : Nat) : Int) < 4611686018427387904 := x2len
    clear h1 h2 h3 h4 h5 h6
    refine ⟨imp_f fun h => ?_, imp_t fun h => ?_⟩
    · rw [c_geq_t] at h
      have e3 : arithR .sub .i64 i 1 = i - 1 := sub_i64 (by omega) (by omega)
      rw [e3]
      have hm : m = (m - 1) + 1 := by omega
      have hc2 : i - 1 < ((m - 1 : Nat) : Int) := by omega
      have hd : x2.drop (i - 1 + 1).toNat = x2.getD i.toNat 0#128 :: x2.drop (i + 1).toNat := by
        have := drop_at (l := x2) (i := i.toNat) (by omega)
        rw [show (i - 1 + 1).toNat = i.toNat by omega, this, show (i + 1).toNat = i.toNat + 1 by omega]
      obtain ⟨s1, s2, s3⟩ := nan_step (f := x1) (w := x2.getD i.toNat 0#128) (x2.drop (i + 1).toNat)
      have go : ∀ v x n, v = nanV x1 (x2.getD i.toNat 0#128 :: x2.drop (i + 1).toNat) → x = nanX x1 (x2.getD i.toNat 0#128 :: x2.drop (i + 1).toNat) → n = nanIs x1 (x2.getD i.toNat 0#128 :: x2.drop (i + 1).toNat) → X ⟨[.int .i64 x1, .words x2, .undef, .undef, .ptr 0 0, .undef, .undef, .ptr 3 0, .int .i64 x, .bool n, .int .i64 (i - 1), .undef, .undef, .undef, .undef, .undef, .undef, .undef, .undef, .undef, .undef, .undef, .undef, .undef, .undef, .undef, .undef, .undef, .undef, .undef, .undef, .undef, .undef, .undef, .undef, .undef, .undef, .undef, .undef, .undef, .undef, .undef], ofL [some (wordT, .word b0), none, none, some (wordT, .word v), none, none, none, none, none, none], 10⟩ := fun v x n e1 e2 e3 =>
        hX (m - 1) (b0, v, x, n, i - 1) hm ⟨by show -1 ≤ i - 1; omega, by show i - 1 < ((x2.length : Nat) : Int); omega, by show v = nanV x1 (x2.drop (i - 1 + 1).toNat); rw [hd]; exact e1, by show x = nanX x1 (x2.drop (i - 1 + 1).toNat); rw [hd]; exact e2, by show n = nanIs x1 (x2.drop (i - 1 + 1).toNat); rw [hd]; exact e3, hc2⟩
      have hii : 0 ≤ i ∧ i < ((x2.length : Nat) : Int) := ⟨h, k2⟩
      refine ⟨hii, imp_f fun g1 => ?_, imp_t fun g1 => ?_⟩
      · rw [c_eql_t] at g1
        obtain ⟨e1, e2, e3⟩ := s1 g1
        refine ⟨imp_f fun _ => ⟨hii, go _ _ _ e1.symm e2.symm e3.symm⟩, imp_t fun g2 => ?_⟩
        rw [c_eql_f] at g2; exact absurd g1 g2
      · rw [c_eql_f] at g1
        refine ⟨imp_f fun g2 => ?_, imp_t fun g2 => ⟨imp_f fun g3 => ?_, imp_t fun g3 => ?_⟩⟩
        · rw [c_eql_t] at g2; exact absurd g2 g1
        · rw [c_eql_t] at g3
          obtain ⟨e1, e2, e3⟩ := s2 g3
          exact ⟨hii, go _ _ _ e1.symm (k4.trans e2.symm) e3.symm⟩
        · rw [c_eql_f] at g3
          obtain ⟨e1, e2, e3⟩ := s3 g1 g3
          exact go _ _ _ (k3.trans e1.symm) (k4.trans e2.symm) (k5.trans e3.symm)
    · rw [c_geq_f] at h
      have hi : i = -1 := by omega
      subst hi
      simp only [kR, canon, canons, getW, getWord, allInts8, asInt, isK, kindEq, isArgB, strOf, cBig, cInts, cWords, allInts, allWords, r_ofLimbs, r_mkWord, Option.some.injEq, LV.wide.injEq, LV.word.injEq, LV.int.injEq, LV.bool.injEq, LV.str.injEq, LV.big.injEq, LV.tup.injEq, LV.agg.injEq, List.cons.injEq, and_true, true_and]
      rw [k3, k4, k5]
      exact ⟨rfl, rfl, rfl⟩
  · have hv : ∀ v : Int, v = ((x2.length : Nat) : Int) - 1 → (-1 ≤ v ∧ v < ((x2.length : Nat) : Int) ∧ real.mkWord 0 0 = nanV x1 (x2.drop (v + 1).toNat) ∧ (0 : Int) = nanX x1 (x2.drop (v + 1).toNat) ∧ false = nanIs x1 (x2.drop (v + 1).toNat) ∧ v < ((x2.length : Nat) : Int)) := by
      intro v hv
      subst hv
      have : x2.drop (((x2.length : Nat) : Int) - 1 + 1).toNat = [] := by rw [List.drop_eq_nil_iff]; omega
      rw [this]
      exact ⟨by omega, by omega, rfl, rfl, rfl, by omega⟩
    exact hv _ hst
theorem p_NanOf : SpecOk Tryd.prog globs 12 (mkSpec real [.int .i64, .words] (s_NanOf ropsI)) := by
  have hfns : FnsOk Tryd.prog globs [(66, .spec (mkSpec real [.int .i64, .words] (s_nanOf ropsG))), (67, .spec (mkSpec real [.int .i64, .words] (s_of10 ropsG))), (68, .spec (mkSpec real [.int .i64] (s_none10 ropsI))), (15, .spec (mkSpec real [.int .i64] (s_is rops))), (24, .spec (mkSpec real [.int .i64] (s_refNaN rops))), (59, .spec (mkSpec real [] (s_awake10 ropsI)))] := (fnsCons (fnSpec (p_nanOf)) (fnsCons (fnSpec (p_of10)) (fnsCons (fnSpec (p_none10)) (fnsCons (fnSpec (p_is)) (fnsCons (fnSpec (p_refNaN)) (fnsCons (fnSpec (p_awake10)) fnsNil))))))
  refine spec0 hfns (by kernel_rfl) Tryd.func12 (by kernel_rfl) (by kernel_rfl) (by kernel_rfl) 4 _ _ (.bool) ?_
  clear hfns
  generalize hEE : env0 [(66, .spec (mkSpec real [.int .i64, .words] (s_nanOf ropsG))), (67, .spec (mkSpec real [.int .i64, .words] (s_of10 ropsG))), (68, .spec (mkSpec real [.int .i64] (s_none10 ropsI))), (15, .spec (mkSpec real [.int .i64] (s_is rops))), (24, .spec (mkSpec real [.int .i64] (s_refNaN rops))), (59, .spec (mkSpec real [] (s_awake10 ropsI)))] = EE
  intro l r hl hr
  simp only [Forms, Form] at hl
  obtain ⟨_, _, rfl, ⟨x1, rfl, x1lo, x1hi⟩, _, _, rfl, ⟨x2, rfl, x2len⟩, rfl⟩ := hl
  subst hEE
  generalize hK : kR (.bool) r = K
  generalize hO : real = O
  generalize hS0 : rops = S0
  generalize hS1 : ropsB = S1
  generalize hS2 : ropsC = S2
  generalize hS3 : ropsD = S3
  generalize hS4 : ropsE = S4
  generalize hS5 : ropsF = S5
  generalize hS6 : ropsG = S6
  generalize hS7 : ropsH = S7
  generalize hS8 : ropsI = S8
  set_option maxRecDepth 100000 in cbv
  subst hO hK hS0 hS1 hS2 hS3 hS4 hS5 hS6 hS7 hS8
  simp only [s_NanOf, R.Y] at hr
  subst hr
  try dsimp only [real, rops, ropsB, ropsC, ropsD, ropsE, ropsF, ropsG, ropsH, ropsI]
  refine ⟨imp_f fun _ => by rw [kb_t], imp_t fun _ => ?_⟩
  cases h : fOk x1 with
  | true =>
    have hf : 1 ≤ x1 ∧ x1 ≤ 4 := by unfold fOk at h; simpa using h
    simp only [decide_true, eql_self, beq_self_eq_true, cond_true, kb_t, kb_lt, kb_lf, hf, and_self]
    simp
  | false =>
    have e : fNaN x1 = mkWordR 0 0 := by
      unfold fNaN fWordOf
      rw [if_neg (by unfold fOk at h; simpa using h)]
      rfl
    rw [e]
    simp only [decide_true, eql_self, beq_self_eq_true, cond_false, kb_t, kb_lt, kb_lf]
    simp
end Go.LE
namespace Go.LE
open Go Go.Proofs
structure OpsJ where
  cnt : Int → List (BitVec 128) → Int → Int
noncomputable def ropsJ : OpsJ where
  cnt := cntC
def cntT : Ty := .arr 7 (.int .i64)
def s_count (S : OpsJ) : List LV → R LV
  | [.int _ f, .words l] => .ok (.agg [.int .i64 (S.cnt f l 0), .int .i64 (S.cnt f l 1), .int .i64 (S.cnt f l 2), .int .i64 (S.cnt f l 3), .int .i64 (S.cnt f l 4), .int .i64 (S.cnt f l 5), .int .i64 (S.cnt f l 6)])
  | _ => .fail
def s_ClassCounts (_ : OpsJ) : List LV → R LV := fun _ => .ok (.bool true)
theorem p_count : SpecOk Tryd.prog globs 40 (mkSpec real [.int .i64, .words] (s_count ropsJ)) := by
  have hfns : FnsOk Tryd.prog globs [(50, .spec (mkSpec real [.int .i64, .word] (s_cOf ropsC)))] := (fnsCons (fnSpec (p_cOf)) fnsNil)
  refine specL (fun _ => [0,4,5,8,9,10]) hfns (by kernel_rfl) Tryd.func40 (by kernel_rfl) (by kernel_rfl) (by kernel_rfl) 4 _ _ (.st [.int .i64, .int .i64, .int .i64, .int .i64, .int .i64, .int .i64, .int .i64]) ?_
  clear hfns
  generalize hEE : envL (fun _ => [0,4,5,8,9,10]) [(50, .spec (mkSpec real [.int .i64, .word] (s_cOf ropsC)))] = EE
  intro l r hl hr
  simp only [Forms, Form] at hl
  obtain ⟨_, _, rfl, ⟨x1, rfl, x1lo, x1hi⟩, _, _, rfl, ⟨x2, rfl, x2len⟩, rfl⟩ := hl
  subst hEE
  generalize hK : kR (.st [.int .i64, .int .i64, .int .i64, .int .i64, .int .i64, .int .i64, .int .i64]) r = K
  generalize hO : real = O
  generalize hS0 : rops = S0
  generalize hS1 : ropsB = S1
  generalize hS2 : ropsC = S2
  generalize hS3 : ropsD = S3
  generalize hS4 : ropsE = S4
  generalize hS5 : ropsF = S5
  generalize hS6 : ropsG = S6
  generalize hS7 : ropsH = S7
  generalize hS8 : ropsI = S8
  generalize hS9 : ropsJ = S9
  set_option maxRecDepth 100000 in cbv
  have hr : r = _ := hr.symm
  subst hO hK hS0 hS1 hS2 hS3 hS4 hS5 hS6 hS7 hS8 hS9
  subst hr
  refine loop_rule (α := (Int → Int) × Int × Int) (fun p => ⟨[.int .i64 x1, .undef, .undef, .undef, .ptr 0 0, .ptr 1 0, .undef, .undef, .words x2, .int .i64 p.2.1, .int .i64 p.2.2, .undef, .undef, .undef, .undef, .undef, .undef, .undef, .undef, .undef, .undef, .undef, .undef], ofL [some (cntT, .agg [.int .i64 0, .int .i64 0, .int .i64 0, .int .i64 0, .int .i64 0, .int .i64 0, .int .i64 0]), some (cntT, .agg [.int .i64 (p.1 0), .int .i64 (p.1 1), .int .i64 (p.1 2), .int .i64 (p.1 3), .int .i64 (p.1 4), .int .i64 (p.1 5), .int .i64 (p.1 6)]), none, none, none], 5⟩)
    (fun m p => p.2.1 = ((x2.length : Nat) : Int) ∧ 0 ≤ p.2.2 ∧ (∀ k, p.1 k = cntC x1 (x2.take p.2.2.toNat) k) ∧ p.2.1 - p.2.2 ≤ ((m : Nat) : Int)) ?_ x2.length (fun _ => 0, real.lenW x2, 0) ⟨rfl, Int.le_refl _, fun k => by show (0 : Int) = cntC x1 (x2.take 0) k; rw [List.take_zero, cntC_nil], by show ((x2.length : Nat) : Int) - 0 ≤ _; omega⟩
  rintro m ⟨c, n, i⟩ X ⟨h1, h2, h3, h4⟩ hX
  (generalize hK : kR _ _ = K; generalize hO : real = O; generalize hS0 : rops = S0; generalize hS1 : ropsB = S1; generalize hS2 : ropsC = S2; generalize hS3 : ropsD = S3; generalize hS4 : ropsE = S4; generalize hS5 : ropsF = S5; generalize hS6 : ropsG = S6; generalize hS7 : ropsH = S7; generalize hS8 : ropsI = S8; generalize hS9 : ropsJ = S9; set_option maxRecDepth 100000 in cbv; subst hO hK hS0 hS1 hS2 hS3 hS4 hS5 hS6 hS7 hS8 hS9; dsimp only [real, rops, ropsB, ropsC, ropsD, ropsE, ropsF, ropsG, ropsH, ropsI, ropsJ])
  have k1 : n = ((x2.length : Nat) : Int) := h1
  have k2 : 0 ≤ i := h2
  have k3 : ∀ k, c k = cntC x1 (x2.take i.toNat) k := h3
  have k4 : n - i ≤ ((m : Nat) : Int) := h4
  have k7 : ((x2.length : Nat) : Int) < 4611686018427387904 := x2len
  clear h1 h2 h3 h4
  refine ⟨imp_f fun h => ?_, imp_t fun h => ?_⟩
  · rw [c_lss_t] at h
    have e3 : arithR .add .i64 i 1 = i + 1 := add_i64 (by omega) (by omega)
    rw [e3]
    have hm : m = (m - 1) + 1 := by omega
    have hc2 : n - (i + 1) ≤ ((m - 1 : Nat) : Int) := by omega
    have hs := cntC_step x1 x2 i.toNat (by omega)
    have go : ∀ v0 v1 v2 v3 v4 v5 v6, v0 = cntC x1 (x2.take (i.toNat + 1)) 0 → v1 = cntC x1 (x2.take (i.toNat + 1)) 1 → v2 = cntC x1 (x2.take (i.toNat + 1)) 2 → v3 = cntC x1 (x2.take (i.toNat + 1)) 3 → v4 = cntC x1 (x2.take (i.toNat + 1)) 4 → v5 = cntC x1 (x2.take (i.toNat + 1)) 5 → v6 = cntC x1 (x2.take (i.toNat + 1)) 6 →
        X ⟨[.int .i64 x1, .undef, .undef, .undef, .ptr 0 0, .ptr 1 0, .undef, .undef, .words x2, .int .i64 n, .int .i64 (i + 1), .undef, .undef, .undef, .undef, .undef, .undef, .undef, .undef, .undef, .undef, .undef, .undef], ofL [some (cntT, .agg [.int .i64 0, .int .i64 0, .int .i64 0, .int .i64 0, .int .i64 0, .int .i64 0, .int .i64 0]), some (cntT, .agg [.int .i64 v0, .int .i64 v1, .int .i64 v2, .int .i64 v3, .int .i64 v4, .int .i64 v5, .int .i64 v6]), none, none, none], 5⟩ := by
      intro v0 v1 v2 v3 v4 v5 v6 q0 q1 q2 q3 q4 q5 q6
      subst q0 q1 q2 q3 q4 q5 q6
      exact hX (m - 1) (fun k => cntC x1 (x2.take (i.toNat + 1)) k, n, i + 1) hm ⟨k1, by show 0 ≤ i + 1; omega, fun k => by show _ = cntC x1 (x2.take (i + 1).toNat) k; rw [show (i + 1).toNat = i.toNat + 1 by omega], hc2⟩
    have hcr := cls_rng x1 (x2.getD i.toNat 0#128)
    have hne : ∀ k, cls x1 (x2.getD i.toNat 0#128) ≠ k → c k = cntC x1 (x2.take (i.toNat + 1)) k := fun k hk => by rw [hs, if_neg hk, k3]; omega
    have heq : ∀ k, cls x1 (x2.getD i.toNat 0#128) = k → arithR .add .i64 (c k) 1 = cntC x1 (x2.take (i.toNat + 1)) k := fun k hk => by
      have hb := cntC_rng x1 (x2.take i.toNat) k
      have hl : ((x2.take i.toNat).length : Int) ≤ ((x2.length : Nat) : Int) := by rw [List.length_take]; omega
      rw [hs, if_pos hk, k3]
      exact add_i64 (by omega) (by omega)
    have hii : 0 ≤ i ∧ i < ((x2.length : Nat) : Int) := by omega
    clear hs hX k3
    generalize cls x1 (x2.getD i.toNat 0#128) = cv at hne heq hcr ⊢
    rcases (show cv = 0 ∨ cv = 1 ∨ cv = 2 ∨ cv = 3 ∨ cv = 4 ∨ cv = 5 ∨ cv = 6 by omega) with rfl | rfl | rfl | rfl | rfl | rfl | rfl
    all_goals repeat' (first | exact hii | exact Or.inl rfl | apply And.intro | apply Or.inr)
    all_goals first
      | decide
      | (refine go _ _ _ _ _ _ _ ?_ ?_ ?_ ?_ ?_ ?_ ?_ <;> first | exact hne _ (by decide) | exact heq _ rfl)
  · rw [c_lss_f] at h
    simp only [kR, canon, canons, getW, getWord, allInts8, asInt, isK, kindEq, isArgB, strOf, cBig, cInts, cWords, allInts, allWords, r_ofLimbs, r_mkWord, Option.some.injEq, LV.wide.injEq, LV.word.injEq, LV.int.injEq, LV.bool.injEq, LV.str.injEq, LV.big.injEq, LV.tup.injEq, LV.agg.injEq, List.cons.injEq, and_true, true_and]
    simp only [k3, cntC_all x1 x2 _ (show ((x2.length : Nat) : Int) ≤ i by omega), and_self]
theorem p_ClassCounts : SpecOk Tryd.prog globs 6 (mkSpec real [.int .i64, .words] (s_ClassCounts ropsJ)) := by
  have hfns : FnsOk Tryd.prog globs [(39, .spec (mkSpec real [.int .i64, .word] (s_class06 ropsC))), (40, .spec (mkSpec real [.int .i64, .words] (s_count ropsJ))), (38, .spec (mkSpec real [] (s_awake06 ropsB)))] := (fnsCons (fnSpec (p_class06)) (fnsCons (fnSpec (p_count)) (fnsCons (fnSpec (p_awake06)) fnsNil)))
  refine specL (fun _ => [0,1,5,6]) hfns (by kernel_rfl) Tryd.func6 (by kernel_rfl) (by kernel_rfl) (by kernel_rfl) 4 _ _ (.bool) ?_
  clear hfns
  generalize hEE : envL (fun _ => [0,1,5,6]) [(39, .spec (mkSpec real [.int .i64, .word] (s_class06 ropsC))), (40, .spec (mkSpec real [.int .i64, .words] (s_count ropsJ))), (38, .spec (mkSpec real [] (s_awake06 ropsB)))] = EE
  intro l r hl hr
  simp only [Forms, Form] at hl
  obtain ⟨_, _, rfl, ⟨x1, rfl, x1lo, x1hi⟩, _, _, rfl, ⟨x2, rfl, x2len⟩, rfl⟩ := hl
  subst hEE
  generalize hK : kR (.bool) r = K
  generalize hO : real = O
  generalize hS0 : rops = S0
  generalize hS1 : ropsB = S1
  generalize hS2 : ropsC = S2
  generalize hS3 : ropsD = S3
  generalize hS4 : ropsE = S4
  generalize hS5 : ropsF = S5
  generalize hS6 : ropsG = S6
  generalize hS7 : ropsH = S7
  generalize hS8 : ropsI = S8
  generalize hS9 : ropsJ = S9
  set_option maxRecDepth 100000 in cbv
  have hr : r = _ := hr.symm
  subst hO hK hS0 hS1 hS2 hS3 hS4 hS5 hS6 hS7 hS8 hS9
  subst hr
  refine ⟨imp_f fun _ => by rw [kb_t], imp_t fun _ => ?_⟩
  refine loop_rule (α := (Int → Int) × Int) (fun p => ⟨[.int .i64 x1, .words x2, .undef, .undef, .undef, .ptr 4 0, .int .i64 p.2, .undef, .undef, .undef, .undef, .undef, .undef, .undef, .undef, .undef, .undef, .undef, .undef, .undef, .undef, .undef, .undef, .undef, .undef, .undef, .undef, .undef, .undef, .undef, .undef, .undef, .undef, .undef, .undef], ofL [none, none, none, none, some (cntT, .agg [.int .i64 (p.1 0), .int .i64 (p.1 1), .int .i64 (p.1 2), .int .i64 (p.1 3), .int .i64 (p.1 4), .int .i64 (p.1 5), .int .i64 (p.1 6)]), none], 6⟩)
    (fun m p => 0 ≤ p.2 ∧ (∀ k, p.1 k = cntC x1 (x2.take p.2.toNat) k) ∧ ((x2.length : Nat) : Int) - p.2 ≤ ((m : Nat) : Int)) ?_ x2.length (fun _ => 0, 0) ⟨Int.le_refl _, fun k => by show (0 : Int) = cntC x1 (x2.take 0) k; rw [List.take_zero, cntC_nil], by show ((x2.length : Nat) : Int) - 0 ≤ _; omega⟩
  rintro m ⟨c, i⟩ X ⟨h2, h3, h4⟩ hX
  (generalize hK : kR _ _ = K; generalize hO : real = O; generalize hS0 : rops = S0; generalize hS1 : ropsB = S1; generalize hS2 : ropsC = S2; generalize hS3 : ropsD = S3; generalize hS4 : ropsE = S4; generalize hS5 : ropsF = S5; generalize hS6 : ropsG = S6; generalize hS7 : ropsH = S7; generalize hS8 : ropsI = S8; generalize hS9 : ropsJ = S9; set_option maxRecDepth 100000 in cbv; subst hO hK hS0 hS1 hS2 hS3 hS4 hS5 hS6 hS7 hS8 hS9; dsimp only [real, rops, ropsB, ropsC, ropsD, ropsE, ropsF, ropsG, ropsH, ropsI, ropsJ])
  have k2 : 0 ≤ i := h2
  have k3 : ∀ k, c k = cntC x1 (x2.take i.toNat) k := h3
  have k4 : ((x2.length : Nat) : Int) - i ≤ ((m : Nat) : Int) := h4
  have k7 : ((x2.length : Nat) : Int) < 4611686018427387904 := x2len
  clear h2 h3 h4
  refine ⟨imp_f fun h => ?_, imp_t fun h => ?_⟩
  · rw [c_lss_t] at h
    have h : i < ((x2.length : Nat) : Int) := h
    have e3 : arithR .add .i64 i 1 = i + 1 := add_i64 (by omega) (by omega)
    rw [e3]
    have hm : m = (m - 1) + 1 := by omega
    have hc2 : ((x2.length : Nat) : Int) - (i + 1) ≤ ((m - 1 : Nat) : Int) := by omega
    have hs := cntC_step x1 x2 i.toNat (by omega)
    have go : ∀ v0 v1 v2 v3 v4 v5 v6, v0 = cntC x1 (x2.take (i.toNat + 1)) 0 → v1 = cntC x1 (x2.take (i.toNat + 1)) 1 → v2 = cntC x1 (x2.take (i.toNat + 1)) 2 → v3 = cntC x1 (x2.take (i.toNat + 1)) 3 → v4 = cntC x1 (x2.take (i.toNat + 1)) 4 → v5 = cntC x1 (x2.take (i.toNat + 1)) 5 → v6 = cntC x1 (x2.take (i.toNat + 1)) 6 →
        X ⟨[.int .i64 x1, .words x2, .undef, .undef, .undef, .ptr 4 0, .int .i64 (i + 1), .undef, .undef, .undef, .undef, .undef, .undef, .undef, .undef, .undef, .undef, .undef, .undef, .undef, .undef, .undef, .undef, .undef, .undef, .undef, .undef, .undef, .undef, .undef, .undef, .undef, .undef, .undef, .undef], ofL [none, none, none, none, some (cntT, .agg [.int .i64 v0, .int .i64 v1, .int .i64 v2, .int .i64 v3, .int .i64 v4, .int .i64 v5, .int .i64 v6]), none], 6⟩ := by
      intro v0 v1 v2 v3 v4 v5 v6 q0 q1 q2 q3 q4 q5 q6
      subst q0 q1 q2 q3 q4 q5 q6
      exact hX (m - 1) (fun k => cntC x1 (x2.take (i.toNat + 1)) k, i + 1) hm ⟨by show 0 ≤ i + 1; omega, fun k => by show _ = cntC x1 (x2.take (i + 1).toNat) k; rw [show (i + 1).toNat = i.toNat + 1 by omega], hc2⟩
    have hcr := cls_rng x1 (x2.getD i.toNat 0#128)
    have hne : ∀ k, cls x1 (x2.getD i.toNat 0#128) ≠ k → c k = cntC x1 (x2.take (i.toNat + 1)) k := fun k hk => by rw [hs, if_neg hk, k3]; omega
    have heq : ∀ k, cls x1 (x2.getD i.toNat 0#128) = k → arithR .add .i64 (c k) 1 = cntC x1 (x2.take (i.toNat + 1)) k := fun k hk => by
      have hb := cntC_rng x1 (x2.take i.toNat) k
      have hl : ((x2.take i.toNat).length : Int) ≤ ((x2.length : Nat) : Int) := by rw [List.length_take]; omega
      rw [hs, if_pos hk, k3]
      exact add_i64 (by omega) (by omega)
    have hii : 0 ≤ i ∧ i < ((x2.length : Nat) : Int) := by omega
    clear hs hX k3
    generalize cls x1 (x2.getD i.toNat 0#128) = cv at hne heq hcr ⊢
    rcases (show cv = 0 ∨ cv = 1 ∨ cv = 2 ∨ cv = 3 ∨ cv = 4 ∨ cv = 5 ∨ cv = 6 by omega) with rfl | rfl | rfl | rfl | rfl | rfl | rfl
    all_goals repeat' (first | exact hii | exact Or.inl rfl | apply And.intro | apply Or.inr)
    all_goals first
      | decide
      | (refine go _ _ _ _ _ _ _ ?_ ?_ ?_ ?_ ?_ ?_ ?_ <;> first | exact hne _ (by decide) | exact heq _ rfl)
  · rw [c_lss_f] at h
    have h : ((x2.length : Nat) : Int) ≤ i := h
    simp only [k3, cntC_all x1 x2 _ h, eql_self, kb_t, Bool.and_self]
    simp
end Go.LE
namespace Go.LE
open Go Go.Proofs
structure OpsK where
  wn : W → Nat
  pow : Int → Nat
  rgt : Int → Bool
  yes : Int → Prop
  isC : Int → BitVec 128 → Int → Prop
  okS : Int → Prop
  wthW : Int → Bool → W → BitVec 128
  wthOk : Int → W → Bool
noncomputable def ropsK : OpsK where
  wn := fun a => a.toNat
  pow := fun n => 2 ^ n.toNat
  rgt := fun e => decide (-1048576 ≤ e ∧ e ≤ 1048576)
  yes := fun f => fOk f = true
  isC := fun f w c => cls f w = c
  okS := fun n => 0 ≤ n ∧ n ≤ 17179869184
  wthW := wthW
  wthOk := wthOk
def s_big02 (S : OpsK) : List LV → R LV
  | [.wide a] => .ok (.big (S.wn a))
  | _ => .fail
def s_power02 (S : OpsK) : List LV → R LV
  | [.int _ n] => .req (S.okS n) (.ok (.big (S.pow n)))
  | _ => .fail
def s_with10 (S : OpsK) : List LV → R LV
  | [.int _ f, .bool b, .wide p] => .ok (.tup [.word (S.wthW f b p), .bool (S.wthOk f p)])
  | _ => .fail
def s_right07 (S : OpsK) : List LV → R LV
  | [.agg [_, .int _ e, _]] => .ok (.bool (S.rgt e))
  | _ => .fail
def s_right (S : OpsK) : List LV → R LV
  | [.agg [_, .int _ e, _]] => .ok (.bool (S.rgt e))
  | _ => .fail
def s_ClassMakes (_ : OpsK) : List LV → R LV := fun _ => .ok (.bool true)
def s_NanPayloads (_ : OpsK) : List LV → R LV := fun _ => .ok (.bool true)
theorem rgt_leq {e : Int} (h : -1048576 ≤ e) : cmpR .leq e 1048576 = decide (-1048576 ≤ e ∧ e ≤ 1048576) := by
  cases h2 : cmpR .leq e 1048576 with
  | true => rw [c_leq_t] at h2; exact (decide_eq_true ⟨h, h2⟩).symm
  | false => rw [c_leq_f] at h2; exact (decide_eq_false (by omega)).symm
theorem rgt_no {e : Int} (h : e < -1048576) : decide (-1048576 ≤ e ∧ e ≤ 1048576) = false := decide_eq_false (by omega)
set_option exponentiation.threshold 600 in
theorem p_big02 : SpecOk Tryd.prog globs 43 (mkSpec real [.wide] (s_big02 ropsK)) := by
  have hfns : FnsOk Tryd.prog globs [(97, .spec (mkSpec real [.int .u64] (s_small01 ropsH))), (96, .spec (mkSpec real [.big, .int .i64] (s_shl01 ropsH))), (95, .spec (mkSpec real [.big, .big] (s_add01 ropsH)))] := (fnsCons (fnSpec (p_small01)) (fnsCons (fnSpec (p_shl01)) (fnsCons (fnSpec (p_add01)) fnsNil)))
  refine spec0 hfns (by kernel_rfl) Tryd.func43 (by kernel_rfl) (by kernel_rfl) (by kernel_rfl) 4 _ _ (.big) ?_
  clear hfns
  generalize hEE : env0 [(97, .spec (mkSpec real [.int .u64] (s_small01 ropsH))), (96, .spec (mkSpec real [.big, .int .i64] (s_shl01 ropsH))), (95, .spec (mkSpec real [.big, .big] (s_add01 ropsH)))] = EE
  intro l r hl hr
  simp only [Forms, Form] at hl
  obtain ⟨_, _, rfl, ⟨x1, rfl⟩, rfl⟩ := hl
  subst hEE
  generalize hK : kR (.big) r = K
  generalize hO : real = O
  generalize hS0 : rops = S0
  generalize hS1 : ropsB = S1
  generalize hS2 : ropsC = S2
  generalize hS3 : ropsD = S3
  generalize hS4 : ropsE = S4
  generalize hS5 : ropsF = S5
  generalize hS6 : ropsG = S6
  generalize hS7 : ropsH = S7
  generalize hS8 : ropsI = S8
  generalize hS9 : ropsJ = S9
  generalize hS10 : ropsK = S10
  set_option maxRecDepth 100000 in cbv
  subst hO hK hS0 hS1 hS2 hS3 hS4 hS5 hS6 hS7 hS8 hS9 hS10
  simp only [s_big02, R.Y] at hr
  subst hr
  try dsimp only [real, rops, ropsB, ropsC, ropsD, ropsE, ropsF, ropsG, ropsH, ropsI, ropsJ, ropsK]
  have l0 := small_low x1 0
  have s0 := small_limbs x1 0
  rw [wideLow_0] at l0
  simp only [Nat.mul_zero, Nat.pow_zero, Nat.mul_one] at s0
  have e0 := wideLow_step x1 0
  rw [wideLow_0] at e0
  simp only [Nat.mul_zero, Nat.pow_zero, Nat.mul_one] at e0
  have c1 : Int.toNat 64 = 64 := rfl
  have c2 : Int.toNat 128 = 128 := rfl
  have c3 : Int.toNat 192 = 192 := rfl
  have c4 : Int.toNat 256 = 256 := rfl
  have c5 : Int.toNat 320 = 320 := rfl
  have c6 : Int.toNat 384 = 384 := rfl
  have c7 : Int.toNat 448 = 448 := rfl
  have c0 : Int.toNat 0 = 0 := rfl
  rw [c0, c1, c2, c3, c4, c5, c6, c7, Nat.pow_zero, Nat.mul_one, e0, show (64 : Nat) = 64 * 1 from rfl, show (128 : Nat) = 64 * 2 from rfl, show (192 : Nat) = 64 * 3 from rfl, show (256 : Nat) = 64 * 4 from rfl, show (320 : Nat) = 64 * 5 from rfl, show (384 : Nat) = 64 * 6 from rfl, show (448 : Nat) = 64 * 7 from rfl]
  rw [wideLow_step, wideLow_step, wideLow_step, wideLow_step, wideLow_step, wideLow_step, wideLow_step, wideLow_8]
  have h2 := fun i => small_low x1 i
  have h3 := fun i => small_limb x1 i
  have h4 := fun i => small_limbs x1 i
  refine ⟨h3 0, by decide, l0, s0, h3 1, by decide, h2 _, h4 1, h3 2, by decide, h2 _, h4 2, h3 3, by decide, h2 _, h4 3, h3 4, by decide, h2 _, h4 4, h3 5, by decide, h2 _, h4 5, h3 6, by decide, h2 _, h4 6, h3 7, by decide, h2 _, h4 7, ?_⟩
  simp only [kR, canon, canons, getW, getWord, allInts8, asInt, isK, kindEq, isArgB, strOf, cBig, cInts, cWords, allInts, allWords, r_ofLimbs, r_mkWord, Option.some.injEq, LV.wide.injEq, LV.word.injEq, LV.int.injEq, LV.bool.injEq, LV.str.injEq, LV.big.injEq, LV.tup.injEq, LV.agg.injEq, List.cons.injEq, and_true, true_and]
theorem p_right07 : SpecOk Tryd.prog globs 62 (mkSpec real [.st [.bool, .int .i64, .wide]] (s_right07 ropsK)) := by
  have hfns : FnsOk Tryd.prog globs [] := fnsNil
  refine spec0 hfns (by kernel_rfl) Tryd.func62 (by kernel_rfl) (by kernel_rfl) (by kernel_rfl) 4 _ _ (.bool) ?_
  clear hfns
  generalize hEE : env0 [] = EE
  intro l r hl hr
  simp only [Forms, Form] at hl
  obtain ⟨_, _, rfl, ⟨_, rfl, ⟨_, _, rfl, ⟨x1_1, rfl⟩, _, _, rfl, ⟨x1_2, rfl, x1_2lo, x1_2hi⟩, _, _, rfl, ⟨x1_3, rfl⟩, rfl⟩⟩, rfl⟩ := hl
  subst hEE
  generalize hK : kR (.bool) r = K
  generalize hO : real = O
  set_option maxRecDepth 100000 in cbv
  subst hO hK 
  simp only [s_right07, R.Y] at hr
  subst hr
  try dsimp only [real, rops, ropsB, ropsC, ropsD, ropsE, ropsF, ropsG, ropsH, ropsI, ropsJ, ropsK]
  refine ⟨imp_f fun h => ?_, imp_t fun h => ?_⟩
  · rw [c_geq_t] at h
    simp only [kR, canon, canons, getW, getWord, allInts8, asInt, isK, kindEq, isArgB, strOf, cBig, cInts, cWords, allInts, allWords, r_ofLimbs, r_mkWord, Option.some.injEq, LV.wide.injEq, LV.word.injEq, LV.int.injEq, LV.bool.injEq, LV.str.injEq, LV.big.injEq, LV.tup.injEq, LV.agg.injEq, List.cons.injEq, and_true, true_and]
    exact rgt_leq h
  · rw [c_geq_f] at h
    simp only [kR, canon, canons, getW, getWord, allInts8, asInt, isK, kindEq, isArgB, strOf, cBig, cInts, cWords, allInts, allWords, r_ofLimbs, r_mkWord, Option.some.injEq, LV.wide.injEq, LV.word.injEq, LV.int.injEq, LV.bool.injEq, LV.str.injEq, LV.big.injEq, LV.tup.injEq, LV.agg.injEq, List.cons.injEq, and_true, true_and]
    exact (rgt_no h).symm
theorem p_right : SpecOk Tryd.prog globs 111 (mkSpec real [.st [.bool, .int .i64, .wide]] (s_right ropsK)) := by
  have hfns : FnsOk Tryd.prog globs [] := fnsNil
  refine spec0 hfns (by kernel_rfl) Tryd.func111 (by kernel_rfl) (by kernel_rfl) (by kernel_rfl) 4 _ _ (.bool) ?_
  clear hfns
  generalize hEE : env0 [] = EE
  intro l r hl hr
  simp only [Forms, Form] at hl
  obtain ⟨_, _, rfl, ⟨_, rfl, ⟨_, _, rfl, ⟨x1_1, rfl⟩, _, _, rfl, ⟨x1_2, rfl, x1_2lo, x1_2hi⟩, _, _, rfl, ⟨x1_3, rfl⟩, rfl⟩⟩, rfl⟩ := hl
  subst hEE
  generalize hK : kR (.bool) r = K
  generalize hO : real = O
  set_option maxRecDepth 100000 in cbv
  subst hO hK 
  simp only [s_right, R.Y] at hr
  subst hr
  try dsimp only [real, rops, ropsB, ropsC, ropsD, ropsE, ropsF, ropsG, ropsH, ropsI, ropsJ, ropsK]
  refine ⟨imp_f fun h => ?_, imp_t fun h => ?_⟩
  · rw [c_geq_t] at h
    simp only [kR, canon, canons, getW, getWord, allInts8, asInt, isK, kindEq, isArgB, strOf, cBig, cInts, cWords, allInts, allWords, r_ofLimbs, r_mkWord, Option.some.injEq, LV.wide.injEq, LV.word.injEq, LV.int.injEq, LV.bool.injEq, LV.str.injEq, LV.big.injEq, LV.tup.injEq, LV.agg.injEq, List.cons.injEq, and_true, true_and]
    exact rgt_leq h
  · rw [c_geq_f] at h
    simp only [kR, canon, canons, getW, getWord, allInts8, asInt, isK, kindEq, isArgB, strOf, cBig, cInts, cWords, allInts, allWords, r_ofLimbs, r_mkWord, Option.some.injEq, LV.wide.injEq, LV.word.injEq, LV.int.injEq, LV.bool.injEq, LV.str.injEq, LV.big.injEq, LV.tup.injEq, LV.agg.injEq, List.cons.injEq, and_true, true_and]
    exact (rgt_no h).symm
def s_ClassMakesN (S : OpsB) : List LV → R LV
  | [.agg [.int _ f, _, _, _], _] => .req (S.notF f) (.ok (.bool true))
  | _ => .fail
def s_ClassMakesY (c : Int) (S : OpsK) : List LV → R LV
  | [.agg [.int _ f, _, _, _], .word w] => .req (S.yes f) (.req (S.isC f w c) (.ok (.bool true)))
  | _ => .fail
theorem p_ClassMakesN : SpecOk Tryd.prog globs 7 (mkSpec real [.st [.int .i64, .bool, .int .i64, .wide], .word] (s_ClassMakesN ropsB)) := by
  have hfns : FnsOk Tryd.prog globs [(41, .spec (mkSpec real [.int .i64, .bool, .int .i64, .wide] (s_make ropsD))), (15, .spec (mkSpec real [.int .i64] (s_isNot ropsB))), (39, .spec (mkSpec real [.int .i64, .word] (s_class06 ropsC))), (47, .spec (mkSpec real [.int .i64, .word] (s_cNeg ropsC))), (48, .spec (mkSpec real [.int .i64, .word] (s_cField ropsC))), (49, .spec (mkSpec real [.int .i64, .word] (s_cFrac ropsC))), (38, .spec (mkSpec real [] (s_awake06 ropsB)))] := (fnsCons (fnSpec (p_make)) (fnsCons (fnSpec (p_isNot)) (fnsCons (fnSpec (p_class06)) (fnsCons (fnSpec (p_cNeg)) (fnsCons (fnSpec (p_cField)) (fnsCons (fnSpec (p_cFrac)) (fnsCons (fnSpec (p_awake06)) fnsNil)))))))
  refine spec0 hfns (by kernel_rfl) Tryd.func7 (by kernel_rfl) (by kernel_rfl) (by kernel_rfl) 4 _ _ (.bool) ?_
  clear hfns
  generalize hEE : env0 [(41, .spec (mkSpec real [.int .i64, .bool, .int .i64, .wide] (s_make ropsD))), (15, .spec (mkSpec real [.int .i64] (s_isNot ropsB))), (39, .spec (mkSpec real [.int .i64, .word] (s_class06 ropsC))), (47, .spec (mkSpec real [.int .i64, .word] (s_cNeg ropsC))), (48, .spec (mkSpec real [.int .i64, .word] (s_cField ropsC))), (49, .spec (mkSpec real [.int .i64, .word] (s_cFrac ropsC))), (38, .spec (mkSpec real [] (s_awake06 ropsB)))] = EE
  intro l r hl hr
  simp only [Forms, Form] at hl
  obtain ⟨_, _, rfl, ⟨_, rfl, ⟨_, _, rfl, ⟨x1_1, rfl, x1_1lo, x1_1hi⟩, _, _, rfl, ⟨x1_2, rfl⟩, _, _, rfl, ⟨x1_3, rfl, x1_3lo, x1_3hi⟩, _, _, rfl, ⟨x1_4, rfl⟩, rfl⟩⟩, _, _, rfl, ⟨x2, rfl⟩, rfl⟩ := hl
  subst hEE
  generalize hK : kR (.bool) r = K
  generalize hO : real = O
  generalize hS0 : rops = S0
  generalize hS1 : ropsB = S1
  generalize hS2 : ropsC = S2
  generalize hS3 : ropsD = S3
  generalize hS4 : ropsE = S4
  generalize hS5 : ropsF = S5
  generalize hS6 : ropsG = S6
  generalize hS7 : ropsH = S7
  generalize hS8 : ropsI = S8
  generalize hS9 : ropsJ = S9
  generalize hS10 : ropsK = S10
  set_option maxRecDepth 100000 in cbv
  subst hO hK hS0 hS1 hS2 hS3 hS4 hS5 hS6 hS7 hS8 hS9 hS10
  simp only [s_ClassMakesN, R.Y] at hr
  obtain ⟨hreq, hr⟩ := hr
  try dsimp only [rops, ropsB, ropsC, ropsD, ropsE, ropsF, ropsG, ropsH, ropsI, ropsJ, ropsK] at hreq
  subst hr
  try dsimp only [real, rops, ropsB, ropsC, ropsD, ropsE, ropsF, ropsG, ropsH, ropsI, ropsJ, ropsK]
  have hc : cls x1_1 x2 = 0 := cls_none (fits_no hreq x2)
  simp only [hreq, mkOk_no hreq, mkW_no (mkOk_no hreq _ _), hc, decide_true, kb_t, kb_lt, kb_lf, eql_self]
  simp
set_option maxHeartbeats 4000000 in
theorem p_ClassMakesY (c : Int) (hc : 0 ≤ c ∧ c ≤ 6) : SpecOk Tryd.prog globs 7 (mkSpec real [.st [.int .i64, .bool, .int .i64, .wide], .word] (s_ClassMakesY c ropsK)) := by
  have hfns : FnsOk Tryd.prog globs [(41, .spec (mkSpec real [.int .i64, .bool, .int .i64, .wide] (s_make ropsD))), (15, .spec (mkSpec real [.int .i64] (s_isYes ropsB))), (33, .spec (mkSpec real [.int .i64] (s_emax rops))), (43, .spec (mkSpec real [.wide] (s_big02 ropsK))), (42, .spec (mkSpec real [.big] (s_len01 ropsH))), (32, .spec (mkSpec real [.int .i64] (s_prec rops))), (44, .spec (mkSpec real [.int .i64, .word] (s_neg06 ropsC))), (45, .spec (mkSpec real [.int .i64, .word] (s_field06 ropsC))), (46, .spec (mkSpec real [.int .i64, .word] (s_frac06 ropsC))), (37, .spec (mkSpec real [.int .i64, .word] (s_fits05 ropsB))), (39, .spec (mkSpec real [.int .i64, .word] (s_class06L c ropsE))), (47, .spec (mkSpec real [.int .i64, .word] (s_cNeg ropsC))), (48, .spec (mkSpec real [.int .i64, .word] (s_cField ropsC))), (49, .spec (mkSpec real [.int .i64, .word] (s_cFrac ropsC))), (38, .spec (mkSpec real [] (s_awake06 ropsB)))] := (fnsCons (fnSpec (p_make)) (fnsCons (fnSpec (p_isYes)) (fnsCons (fnSpec (p_emax)) (fnsCons (fnSpec (p_big02)) (fnsCons (fnSpec (p_len01)) (fnsCons (fnSpec (p_prec)) (fnsCons (fnSpec (p_neg06)) (fnsCons (fnSpec (p_field06)) (fnsCons (fnSpec (p_frac06)) (fnsCons (fnSpec (p_fits05)) (fnsCons (fnSpec (p_class06L c)) (fnsCons (fnSpec (p_cNeg)) (fnsCons (fnSpec (p_cField)) (fnsCons (fnSpec (p_cFrac)) (fnsCons (fnSpec (p_awake06)) fnsNil)))))))))))))))
  refine spec0' hfns (by kernel_rfl) Tryd.func7 (by kernel_rfl) (by kernel_rfl) (by kernel_rfl) 4 _ _ (.bool) ?_
  clear hfns
  generalize hEE : env0 [(41, .spec (mkSpec real [.int .i64, .bool, .int .i64, .wide] (s_make ropsD))), (15, .spec (mkSpec real [.int .i64] (s_isYes ropsB))), (33, .spec (mkSpec real [.int .i64] (s_emax rops))), (43, .spec (mkSpec real [.wide] (s_big02 ropsK))), (42, .spec (mkSpec real [.big] (s_len01 ropsH))), (32, .spec (mkSpec real [.int .i64] (s_prec rops))), (44, .spec (mkSpec real [.int .i64, .word] (s_neg06 ropsC))), (45, .spec (mkSpec real [.int .i64, .word] (s_field06 ropsC))), (46, .spec (mkSpec real [.int .i64, .word] (s_frac06 ropsC))), (37, .spec (mkSpec real [.int .i64, .word] (s_fits05 ropsB))), (39, .spec (mkSpec real [.int .i64, .word] (s_class06L c ropsE))), (47, .spec (mkSpec real [.int .i64, .word] (s_cNeg ropsC))), (48, .spec (mkSpec real [.int .i64, .word] (s_cField ropsC))), (49, .spec (mkSpec real [.int .i64, .word] (s_cFrac ropsC))), (38, .spec (mkSpec real [] (s_awake06 ropsB)))] = EE
  intro l r hl hr
  simp only [Forms, Form] at hl
  obtain ⟨_, _, rfl, ⟨_, rfl, ⟨_, _, rfl, ⟨x1_1, rfl, x1_1lo, x1_1hi⟩, _, _, rfl, ⟨x1_2, rfl⟩, _, _, rfl, ⟨x1_3, rfl, x1_3lo, x1_3hi⟩, _, _, rfl, ⟨x1_4, rfl⟩, rfl⟩⟩, _, _, rfl, ⟨x2, rfl⟩, rfl⟩ := hl
  subst hEE
  obtain ⟨hq, hn, hr⟩ := hr
  have hr : r = _ := hr.symm
  subst hr
  have hc' : c = 0 ∨ c = 1 ∨ c = 2 ∨ c = 3 ∨ c = 4 ∨ c = 5 ∨ c = 6 := by omega
  refine ⟨[.agg [.int .i64 x1_1, .bool x1_2, .int .i64 x1_3, .wide x1_4], .word x2], ⟨same_refl _, same_refl _, trivial⟩, ?_⟩
  rcases hc' with rfl | rfl | rfl | rfl | rfl | rfl | rfl
  all_goals (generalize hK : kR _ _ = K; generalize hO : real = O; generalize hS0 : rops = S0; generalize hS1 : ropsB = S1; generalize hS2 : ropsC = S2; generalize hS3 : ropsD = S3; generalize hS4 : ropsE = S4; generalize hS5 : ropsF = S5; generalize hS6 : ropsG = S6; generalize hS7 : ropsH = S7; generalize hS8 : ropsI = S8; generalize hS9 : ropsJ = S9; generalize hS10 : ropsK = S10; set_option maxRecDepth 100000 in cbv; subst hO hK hS0 hS1 hS2 hS3 hS4 hS5 hS6 hS7 hS8 hS9 hS10; dsimp only [real, rops, ropsB, ropsC, ropsD, ropsE, ropsF, ropsG, ropsH, ropsI, ropsJ, ropsK])
  all_goals (replace hn : cls x1_1 x2 = _ := hn)
  all_goals (
    have hk : fOk x1_1 = true := hq
    have hf : 1 ≤ x1_1 ∧ x1_1 ≤ 4 := by unfold fOk at hk; simpa using hk
    have hown := fun h : cls x1_1 x2 ≠ 0 => mk_own h
    rw [mul_emax hf, (sub_prec hf).1, show lenN x1_4.toNat = wLen x1_4 from bitN_wLen _]
    have hsm := small_wide x1_4
    cases h : mkOk x1_1 x1_3 x1_4 with
    | true =>
      obtain ⟨⟨g1, g2⟩, g3⟩ := (mkOk_iff hk).1 h
      obtain ⟨_, m1, m2, m3, m4⟩ := mk_fits h x1_2
      have b1 : cmpR .lss x1_3 0 = false := by rw [c_lss_f]; exact g1
      have b2 : cmpR .gtr x1_3 (2 * fEMax x1_1 + 1) = false := by rw [c_gtr_f]; exact g2
      have b3 : cmpR .gtr (wLen x1_4) (fPrec x1_1 - 1) = false := by rw [c_gtr_f]; exact g3
      have b4 : cmpR .neq x1_3 x1_3 = false := by rw [c_neq_f]
      simp only [hn, m1, m2, m3, m4, b1, b2, b3, b4, hk, hf, hsm, kb_t, kb_lt, kb_lf]
      by_cases h0 : cls x1_1 x2 = 0
      · first
          | (exfalso; omega)
          | simp
      · obtain ⟨o1, o2⟩ := hown h0
        simp [o1, o2]
    | false =>
      have hw := mkW_no h x1_2
      have hno : ¬ ((0 ≤ x1_3 ∧ x1_3 ≤ 2 * fEMax x1_1 + 1) ∧ wLen x1_4 ≤ fPrec x1_1 - 1) := fun hh => by rw [(mkOk_iff hk).2 hh] at h; cases h
      have htail : (cls x1_1 x2 = 0 ∨ (mkOk x1_1 (wFld x1_1 x2) (wFrc x1_1 x2) = true ∧ mkW x1_1 (wNeg x1_1 x2) (wFld x1_1 x2) (wFrc x1_1 x2) = x2)) := by
        by_cases h0 : cls x1_1 x2 = 0
        · exact .inl h0
        · exact .inr (hown h0)
      have e1 : (cmpR .lss x1_3 0 = false ∧ cmpR .gtr x1_3 (2 * fEMax x1_1 + 1) = false ∧ cmpR .gtr (wLen x1_4) (fPrec x1_1 - 1) = false) → False := fun ⟨b1, b2, b3⟩ => by
        rw [c_lss_f] at b1
        rw [c_gtr_f] at b2 b3
        exact hno ⟨⟨b1, b2⟩, b3⟩
      rcases htail with h0 | ⟨o1, o2⟩
      · first
          | (exfalso; omega)
          | (simp only [hn, hw, hk, hf, hsm, kb_t, kb_lt, kb_lf]
             cases b1 : cmpR .lss x1_3 0 <;> cases b2 : cmpR .gtr x1_3 (2 * fEMax x1_1 + 1) <;> cases b3 : cmpR .gtr (wLen x1_4) (fPrec x1_1 - 1) <;> first | (exfalso; exact e1 ⟨b1, b2, b3⟩) | simp)
      · simp only [hn, hw, hk, hf, hsm, o1, o2, kb_t, kb_lt, kb_lf]
        cases b1 : cmpR .lss x1_3 0 <;> cases b2 : cmpR .gtr x1_3 (2 * fEMax x1_1 + 1) <;> cases b3 : cmpR .gtr (wLen x1_4) (fPrec x1_1 - 1) <;> first | (exfalso; exact e1 ⟨b1, b2, b3⟩) | simp)
def s_ClassMakesYes (S : OpsK) : List LV → R LV
  | [.agg [.int _ f, _, _, _], .word w] => .req (S.yes f) (.ok (.bool true))
  | _ => .fail
theorem p_ClassMakesYes : SpecOk Tryd.prog globs 7 (mkSpec real [.st [.int .i64, .bool, .int .i64, .wide], .word] (s_ClassMakesYes ropsK)) := by
  refine spec_fam (ι := Int) (g := fun i => s_ClassMakesY i ropsK) 0 (fun i => 0 ≤ i ∧ i ≤ 6) (by decide) (fun i hi => p_ClassMakesY i hi) ?_
  intro l r hl hr
  simp only [Forms, Form] at hl
  obtain ⟨_, _, rfl, ⟨_, rfl, _, _, rfl, ⟨f, rfl, _⟩, _, _, rfl, _, _, _, rfl, _, _, _, rfl, _, rfl⟩, _, _, rfl, ⟨w, rfl⟩, rfl⟩ := hl
  exact ⟨cls f w, cls_rng f w, hr.1, rfl, hr.2⟩
theorem p_ClassMakes : SpecOk Tryd.prog globs 7 (mkSpec real [.st [.int .i64, .bool, .int .i64, .wide], .word] (s_ClassMakes ropsK)) := by
  refine spec_or p_ClassMakesYes p_ClassMakesN ?_
  intro l r hl hr
  simp only [Forms, Form] at hl
  obtain ⟨_, _, rfl, ⟨_, rfl, _, _, rfl, ⟨f, rfl, _⟩, _, _, rfl, _, _, _, rfl, _, _, _, rfl, _, rfl⟩, _, _, rfl, ⟨w, rfl⟩, rfl⟩ := hl
  cases h : fOk f with
  | true => exact .inl ⟨h, hr⟩
  | false => exact .inr ⟨h, hr⟩
end Go.LE
namespace Go.LE
open Go Go.Proofs
theorem p_with10 : SpecOk Tryd.prog globs 69 (mkSpec real [.int .i64, .bool, .wide] (s_with10 ropsK)) := by
  have hfns : FnsOk Tryd.prog globs [(28, .spec (mkSpec real [.int .i64] (s_fmtOf rops))), (88, .spec (mkSpec real [.wide] (s_wLen rops))), (108, .spec (mkSpec real [.int .i64] (s_high ropsF))), (78, .spec (mkSpec real [.int .i64] (s_power rops))), (91, .spec (mkSpec real [.wide, .wide] (s_wAdd rops))), (41, .spec (mkSpec real [.int .i64, .bool, .int .i64, .wide] (s_make ropsD)))] := (fnsCons (fnSpec (p_fmtOf)) (fnsCons (fnSpec (p_wLen)) (fnsCons (fnSpec (p_high)) (fnsCons (fnSpec (p_power)) (fnsCons (fnSpec (p_wAdd)) (fnsCons (fnSpec (p_make)) fnsNil))))))
  refine spec0 hfns (by kernel_rfl) Tryd.func69 (by kernel_rfl) (by kernel_rfl) (by kernel_rfl) 4 _ _ (.tup [.word, .bool]) ?_
  clear hfns
  generalize hEE : env0 [(28, .spec (mkSpec real [.int .i64] (s_fmtOf rops))), (88, .spec (mkSpec real [.wide] (s_wLen rops))), (108, .spec (mkSpec real [.int .i64] (s_high ropsF))), (78, .spec (mkSpec real [.int .i64] (s_power rops))), (91, .spec (mkSpec real [.wide, .wide] (s_wAdd rops))), (41, .spec (mkSpec real [.int .i64, .bool, .int .i64, .wide] (s_make ropsD)))] = EE
  intro l r hl hr
  simp only [Forms, Form] at hl
  obtain ⟨_, _, rfl, ⟨x1, rfl, x1lo, x1hi⟩, _, _, rfl, ⟨x2, rfl⟩, _, _, rfl, ⟨x3, rfl⟩, rfl⟩ := hl
  subst hEE
  generalize hK : kR (.tup [.word, .bool]) r = K
  generalize hO : real = O
  generalize hS0 : rops = S0
  generalize hS1 : ropsB = S1
  generalize hS2 : ropsC = S2
  generalize hS3 : ropsD = S3
  generalize hS4 : ropsE = S4
  generalize hS5 : ropsF = S5
  generalize hS6 : ropsG = S6
  generalize hS7 : ropsH = S7
  generalize hS8 : ropsI = S8
  generalize hS9 : ropsJ = S9
  generalize hS10 : ropsK = S10
  set_option maxRecDepth 100000 in cbv
  subst hO hK hS0 hS1 hS2 hS3 hS4 hS5 hS6 hS7 hS8 hS9 hS10
  simp only [s_with10, R.Y] at hr
  subst hr
  try dsimp only [real, rops, ropsB, ropsC, ropsD, ropsE, ropsF, ropsG, ropsH, ropsI, ropsJ, ropsK]
  have hno : wthOk x1 x3 = false → kR (AT.tup [AT.word, AT.bool]) (LV.tup [LV.word (wthW x1 x2 x3), LV.bool (wthOk x1 x3)]) (LV.tup [LV.agg [LV.lit IntKind.u64 0, LV.lit IntKind.u64 0], LV.blit false]) := by
    intro h
    have e : wthW x1 x2 x3 = 0 := by unfold wthW; rw [h]; rfl
    rw [h, e]
    simp only [kR, canon, canons, getW, getWord, allInts8, asInt, isK, kindEq, isArgB, strOf, cBig, cInts, cWords, allInts, allWords, r_ofLimbs, r_mkWord, Option.some.injEq, LV.wide.injEq, LV.word.injEq, LV.int.injEq, LV.bool.injEq, LV.str.injEq, LV.big.injEq, LV.tup.injEq, LV.agg.injEq, List.cons.injEq, and_true, true_and]
    rfl
  cases h : fOk x1 with
  | false => exact ⟨.inr (hno (by unfold wthOk; rw [h]; rfl)), .inl rfl⟩
  | true =>
    have hf : 1 ≤ x1 ∧ x1 ≤ 4 := by unfold fOk at h; simpa using h
    rw [(sub_prec hf).2.1, mul_emax hf]
    refine ⟨.inl rfl, .inr ⟨imp_f fun g => ?_, imp_t fun g => ?_⟩⟩
    · rw [c_gtr_t] at g
      exact hno (by unfold wthOk; rw [decide_eq_false (by omega), Bool.and_false])
    · rw [c_gtr_f] at g
      have ho : wthOk x1 x3 = true := by unfold wthOk; rw [h, decide_eq_true g]; rfl
      obtain ⟨_, _, _, hm⟩ := wth_leaf ho
      have e : wthW x1 x2 x3 = mkW x1 x2 (2 * fEMax x1 + 1) (x3 + wPower (fPrec x1 - 2)) := by unfold wthW; rw [ho]; rfl
      rw [hm, ho, e]
      simp only [kR, canon, canons, getW, getWord, allInts8, asInt, isK, kindEq, isArgB, strOf, cBig, cInts, cWords, allInts, allWords, r_ofLimbs, r_mkWord, Option.some.injEq, LV.wide.injEq, LV.word.injEq, LV.int.injEq, LV.bool.injEq, LV.str.injEq, LV.big.injEq, LV.tup.injEq, LV.agg.injEq, List.cons.injEq, and_true, true_and]
theorem p_NanPayloads : SpecOk Tryd.prog globs 13 (mkSpec real [.int .i64, .bool, .wide] (s_NanPayloads ropsK)) := by
  have hfns : FnsOk Tryd.prog globs [(69, .spec (mkSpec real [.int .i64, .bool, .wide] (s_with10 ropsK))), (15, .spec (mkSpec real [.int .i64] (s_is rops))), (43, .spec (mkSpec real [.wide] (s_big02 ropsK))), (42, .spec (mkSpec real [.big] (s_len01 ropsH))), (32, .spec (mkSpec real [.int .i64] (s_prec rops))), (59, .spec (mkSpec real [] (s_awake10 ropsI))), (58, .spec (mkSpec real [.int .i64, .word] (s_payload ropsF))), (39, .spec (mkSpec real [.int .i64, .word] (s_class06 ropsC))), (44, .spec (mkSpec real [.int .i64, .word] (s_neg06 ropsC)))] := (fnsCons (fnSpec (p_with10)) (fnsCons (fnSpec (p_is)) (fnsCons (fnSpec (p_big02)) (fnsCons (fnSpec (p_len01)) (fnsCons (fnSpec (p_prec)) (fnsCons (fnSpec (p_awake10)) (fnsCons (fnSpec (p_payload)) (fnsCons (fnSpec (p_class06)) (fnsCons (fnSpec (p_neg06)) fnsNil)))))))))
  refine spec0 hfns (by kernel_rfl) Tryd.func13 (by kernel_rfl) (by kernel_rfl) (by kernel_rfl) 4 _ _ (.bool) ?_
  clear hfns
  generalize hEE : env0 [(69, .spec (mkSpec real [.int .i64, .bool, .wide] (s_with10 ropsK))), (15, .spec (mkSpec real [.int .i64] (s_is rops))), (43, .spec (mkSpec real [.wide] (s_big02 ropsK))), (42, .spec (mkSpec real [.big] (s_len01 ropsH))), (32, .spec (mkSpec real [.int .i64] (s_prec rops))), (59, .spec (mkSpec real [] (s_awake10 ropsI))), (58, .spec (mkSpec real [.int .i64, .word] (s_payload ropsF))), (39, .spec (mkSpec real [.int .i64, .word] (s_class06 ropsC))), (44, .spec (mkSpec real [.int .i64, .word] (s_neg06 ropsC)))] = EE
  intro l r hl hr
  simp only [Forms, Form] at hl
  obtain ⟨_, _, rfl, ⟨x1, rfl, x1lo, x1hi⟩, _, _, rfl, ⟨x2, rfl⟩, _, _, rfl, ⟨x3, rfl⟩, rfl⟩ := hl
  subst hEE
  generalize hK : kR (.bool) r = K
  generalize hO : real = O
  generalize hS0 : rops = S0
  generalize hS1 : ropsB = S1
  generalize hS2 : ropsC = S2
  generalize hS3 : ropsD = S3
  generalize hS4 : ropsE = S4
  generalize hS5 : ropsF = S5
  generalize hS6 : ropsG = S6
  generalize hS7 : ropsH = S7
  generalize hS8 : ropsI = S8
  generalize hS9 : ropsJ = S9
  generalize hS10 : ropsK = S10
  set_option maxRecDepth 100000 in cbv
  subst hO hK hS0 hS1 hS2 hS3 hS4 hS5 hS6 hS7 hS8 hS9 hS10
  simp only [s_NanPayloads, R.Y] at hr
  subst hr
  try dsimp only [real, rops, ropsB, ropsC, ropsD, ropsE, ropsF, ropsG, ropsH, ropsI, ropsJ, ropsK]
  have hno : wthOk x1 x3 = false → wthW x1 x2 x3 = mkWordR 0 0 := fun h => by unfold wthW; rw [h]; rfl
  have hsm := small_wide x3
  rw [show lenN x3.toNat = wLen x3 from bitN_wLen _]
  cases h : fOk x1 with
  | false =>
    have ho : wthOk x1 x3 = false := by unfold wthOk; rw [h]; rfl
    simp only [ho, hno ho, decide_true, kb_t, kb_lt, kb_lf]
    simp
  | true =>
    have hf : 1 ≤ x1 ∧ x1 ≤ 4 := by unfold fOk at h; simpa using h
    rw [(sub_prec hf).2.1]
    cases ho : wthOk x1 x3 with
    | false =>
      have hg : cmpR .gtr (wLen x3) (fPrec x1 - 2) = true := by
        rw [c_gtr_t]
        unfold wthOk at ho
        rw [h, Bool.true_and, decide_eq_false_iff_not] at ho
        omega
      simp only [hno ho, hg, hsm, decide_true, kb_t, kb_lt, kb_lf]
      simp
    | true =>
      have hg : cmpR .gtr (wLen x3) (fPrec x1 - 2) = false := by
        rw [c_gtr_f]
        unfold wthOk at ho
        rw [h, Bool.true_and, decide_eq_true_eq] at ho
        exact ho
      obtain ⟨w1, w2, w3, w4⟩ := wth_nan ho x2
      simp only [w1, w2, w3, w4, hg, hsm, eql_self, decide_true, kb_t, kb_lt, kb_lf]
      simp
end Go.LE