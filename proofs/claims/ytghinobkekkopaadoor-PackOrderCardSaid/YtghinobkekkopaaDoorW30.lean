import Derived.Test.YtghinobkekkopaaDoorW29
import Derived.Test.YtghinobkekkopaaDoorLeS
set_option linter.unusedVariables false
set_option linter.unusedSimpArgs false
namespace Go.LE
open Go Go.Proofs
theorem sgn_wM {f : Int} (hf : 1 ≤ f ∧ f ≤ 4) {M : Nat} (hM : M < halfN f) (b : Bool) : sgn f (wM f M) b = fWordOf f b M := by
  have hm := wOf_mag hf hM false
  unfold magN halfN at hm
  unfold sgn wM
  rw [hm]
theorem over_dec (m : Int) (b : Bool) : overInf m b = (decide (m = 1) || (decide (m = 2) || ((decide (m = 4) && !b) || (decide (m = 5) && b)))) := by
  unfold overInf growsM
  by_cases h1 : m = 1
  · simp [h1]
  by_cases h2 : m = 2
  · simp [h2]
  by_cases h4 : m = 4
  · subst h4; cases b <;> decide
  by_cases h5 : m = 5
  · subst h5; cases b <;> decide
  simp [h1, h2, h4, h5]
theorem p_PackOwn : SpecOk Tryd.prog globs 5 (mkSpec real [.int .i64, .int .i64, .word] (s_PackOwn ropsV)) := by
  have hfns : FnsOk Tryd.prog globs [(14, .spec (mkSpec real [.int .i64, .word] (s_class06 ropsC))), (18, .spec (mkSpec real [.int .i64] (s_mIs08 ropsT))), (20, .spec (mkSpec real [.int .i64, .word] (s_value ropsL))), (21, .spec (mkSpec real [.int .i64, .int .i64, .st [.bool, .int .i64, .wide], .bool] (s_round ropsT))), (19, .spec (mkSpec real [] (s_awake09 ropsV)))] := (fnsCons (fnSpec (p_class06)) (fnsCons (fnSpec (p_mIs08)) (fnsCons (fnSpec (p_value)) (fnsCons (fnSpec (p_round)) (fnsCons (fnSpec (p_awake09)) fnsNil)))))
  refine spec0 hfns (by kernel_rfl) Tryd.func5 (by kernel_rfl) (by kernel_rfl) (by kernel_rfl) 4 _ _ (.bool) ?_
  clear hfns
  generalize hEE : env0 [(14, .spec (mkSpec real [.int .i64, .word] (s_class06 ropsC))), (18, .spec (mkSpec real [.int .i64] (s_mIs08 ropsT))), (20, .spec (mkSpec real [.int .i64, .word] (s_value ropsL))), (21, .spec (mkSpec real [.int .i64, .int .i64, .st [.bool, .int .i64, .wide], .bool] (s_round ropsT))), (19, .spec (mkSpec real [] (s_awake09 ropsV)))] = EE
  intro l r hl hr
  simp only [Forms, Form] at hl
  obtain ⟨_, _, rfl, ⟨x1, rfl, x1lo, x1hi⟩, _, _, rfl, ⟨x2, rfl, x2lo, x2hi⟩, _, _, rfl, ⟨x3, rfl⟩, rfl⟩ := hl
  subst hEE
  generalize hK : kR (.bool) r = K
  generalize hO : real = O
  generalize hS0 : rops = S0
  generalize hS1 : ropsB = S1
  generalize hS2 : ropsC = S2
  generalize hS3 : ropsD = S3
  generalize hS4 : ropsE = S4
  generalize hS5 : ropsF = S5
  generalize hS6 : ropsG = S6
  generalize hS7 : ropsH = S7
  generalize hS8 : ropsI = S8
  generalize hS9 : ropsJ = S9
  generalize hS10 : ropsK = S10
  generalize hS11 : ropsL = S11
  generalize hS12 : ropsM = S12
  generalize hS13 : ropsN = S13
  generalize hS14 : ropsP = S14
  generalize hS15 : ropsQ = S15
  generalize hS16 : ropsT = S16
  generalize hS17 : ropsU = S17
  generalize hS18 : ropsV = S18
  set_option maxRecDepth 100000 in cbv
  subst hO hK hS0 hS1 hS2 hS3 hS4 hS5 hS6 hS7 hS8 hS9 hS10 hS11 hS12 hS13 hS14 hS15 hS16 hS17 hS18
  simp only [s_PackOwn, R.Y] at hr
  subst hr
  try dsimp only [real, rops, ropsB, ropsC, ropsD, ropsE, ropsF, ropsG, ropsH, ropsI, ropsJ, ropsK, ropsL, ropsM, ropsN, ropsP, ropsQ, ropsT, ropsU, ropsV]
  simp only [lss_dec]
  by_cases h4 : cls x1 x3 < 4
  · simp [h4, kb_t]
  have hfin : wFin x1 x3 = true := (fin_iff _ _).2 (by omega)
  cases hm : isM x2 with
  | false => simp [h4, kb_t]
  | true =>
    obtain ⟨o1, o2, o3⟩ := own_round hfin hm
    rw [o1, o2, o3]
    simp [h4, hfin, eql_self, kb_t]
end Go.LE