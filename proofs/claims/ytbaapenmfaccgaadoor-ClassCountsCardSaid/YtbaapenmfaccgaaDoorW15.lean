import Derived.Test.YtbaapenmfaccgaaDoorW14
set_option linter.unusedVariables false
set_option linter.unusedSimpArgs false
namespace Go.LE
open Go Go.Proofs
structure OpsJ where
  cnt : Int → List (BitVec 128) → Int → Int
noncomputable def ropsJ : OpsJ where
  cnt := cntC
def cntT : Ty := .arr 7 (.int .i64)
def s_count (S : OpsJ) : List LV → R LV
  | [.int _ f, .words l] => .ok (.agg [.int .i64 (S.cnt f l 0), .int .i64 (S.cnt f l 1), .int .i64 (S.cnt f l 2), .int .i64 (S.cnt f l 3), .int .i64 (S.cnt f l 4), .int .i64 (S.cnt f l 5), .int .i64 (S.cnt f l 6)])
  | _ => .fail
def s_ClassCounts (_ : OpsJ) : List LV → R LV := fun _ => .ok (.bool true)
theorem p_count : SpecOk Tryd.prog globs 40 (mkSpec real [.int .i64, .words] (s_count ropsJ)) := by
  have hfns : FnsOk Tryd.prog globs [(50, .spec (mkSpec real [.int .i64, .word] (s_cOf ropsC)))] := (fnsCons (fnSpec (p_cOf)) fnsNil)
  refine specL (fun _ => [0,4,5,8,9,10]) hfns (by kernel_rfl) Tryd.func40 (by kernel_rfl) (by kernel_rfl) (by kernel_rfl) 4 _ _ (.st [.int .i64, .int .i64, .int .i64, .int .i64, .int .i64, .int .i64, .int .i64]) ?_
  clear hfns
  generalize hEE : envL (fun _ => [0,4,5,8,9,10]) [(50, .spec (mkSpec real [.int .i64, .word] (s_cOf ropsC)))] = EE
  intro l r hl hr
  simp only [Forms, Form] at hl
  obtain ⟨_, _, rfl, ⟨x1, rfl, x1lo, x1hi⟩, _, _, rfl, ⟨x2, rfl, x2len⟩, rfl⟩ := hl
  subst hEE
  generalize hK : kR (.st [.int .i64, .int .i64, .int .i64, .int .i64, .int .i64, .int .i64, .int .i64]) r = K
  generalize hO : real = O
  generalize hS0 : rops = S0
  generalize hS1 : ropsB = S1
  generalize hS2 : ropsC = S2
  generalize hS3 : ropsD = S3
  generalize hS4 : ropsE = S4
  generalize hS5 : ropsF = S5
  generalize hS6 : ropsG = S6
  generalize hS7 : ropsH = S7
  generalize hS8 : ropsI = S8
  generalize hS9 : ropsJ = S9
  set_option maxRecDepth 100000 in cbv
  have hr : r = _ := hr.symm
  subst hO hK hS0 hS1 hS2 hS3 hS4 hS5 hS6 hS7 hS8 hS9
  subst hr
  refine loop_rule (α := (Int → Int) × Int × Int) (fun p => ⟨[.int .i64 x1, .undef, .undef, .undef, .ptr 0 0, .ptr 1 0, .undef, .undef, .words x2, .int .i64 p.2.1, .int .i64 p.2.2, .undef, .undef, .undef, .undef, .undef, .undef, .undef, .undef, .undef, .undef, .undef, .undef], ofL [some (cntT, .agg [.int .i64 0, .int .i64 0, .int .i64 0, .int .i64 0, .int .i64 0, .int .i64 0, .int .i64 0]), some (cntT, .agg [.int .i64 (p.1 0), .int .i64 (p.1 1), .int .i64 (p.1 2), .int .i64 (p.1 3), .int .i64 (p.1 4), .int .i64 (p.1 5), .int .i64 (p.1 6)]), none, none, none], 5⟩)
    (fun m p => p.2.1 = ((x2.length : Nat) : Int) ∧ 0 ≤ p.2.2 ∧ (∀ k, p.1 k = cntC x1 (x2.take p.2.2.toNat) k) ∧ p.2.1 - p.2.2 ≤ ((m : Nat) : Int)) ?_ x2.length (fun _ => 0, real.lenW x2, 0) ⟨rfl, Int.le_refl _, fun k => by show (0 : Int) = cntC x1 (x2.take 0) k; rw [List.take_zero, cntC_nil], by show ((x2.length : Nat) : Int) - 0 ≤ _; omega⟩
  rintro m ⟨c, n, i⟩ X ⟨h1, h2, h3, h4⟩ hX
  (generalize hK : kR _ _ = K; generalize hO : real = O; generalize hS0 : rops = S0; generalize hS1 : ropsB = S1; generalize hS2 : ropsC = S2; generalize hS3 : ropsD = S3; generalize hS4 : ropsE = S4; generalize hS5 : ropsF = S5; generalize hS6 : ropsG = S6; generalize hS7 : ropsH = S7; generalize hS8 : ropsI = S8; generalize hS9 : ropsJ = S9; set_option maxRecDepth 100000 in cbv; subst hO hK hS0 hS1 hS2 hS3 hS4 hS5 hS6 hS7 hS8 hS9; dsimp only [real, rops, ropsB, ropsC, ropsD, ropsE, ropsF, ropsG, ropsH, ropsI, ropsJ])
  have k1 : n = ((x2.length : Nat) : Int) := h1
  have k2 : 0 ≤ i := h2
  have k3 : ∀ k, c k = cntC x1 (x2.take i.toNat) k := h3
  have k4 : n - i ≤ ((m : Nat) : Int) := h4
  have k7 : ((x2.length : Nat) : Int) < 4611686018427387904 := x2len
  clear h1 h2 h3 h4
  refine ⟨imp_f fun h => ?_, imp_t fun h => ?_⟩
  · rw [c_lss_t] at h
    have e3 : arithR .add .i64 i 1 = i + 1 := add_i64 (by omega) (by omega)
    rw [e3]
    have hm : m = (m - 1) + 1 := by omega
    have hc2 : n - (i + 1) ≤ ((m - 1 : Nat) : Int) := by omega
    have hs := cntC_step x1 x2 i.toNat (by omega)
    have go : ∀ v0 v1 v2 v3 v4 v5 v6, v0 = cntC x1 (x2.take (i.toNat + 1)) 0 → v1 = cntC x1 (x2.take (i.toNat + 1)) 1 → v2 = cntC x1 (x2.take (i.toNat + 1)) 2 → v3 = cntC x1 (x2.take (i.toNat + 1)) 3 → v4 = cntC x1 (x2.take (i.toNat + 1)) 4 → v5 = cntC x1 (x2.take (i.toNat + 1)) 5 → v6 = cntC x1 (x2.take (i.toNat + 1)) 6 →
        X ⟨[.int .i64 x1, .undef, .undef, .undef, .ptr 0 0, .ptr 1 0, .undef, .undef, .words x2, .int .i64 n, .int .i64 (i + 1), .undef, .undef, .undef, .undef, .undef, .undef, .undef, .undef, .undef, .undef, .undef, .undef], ofL [some (cntT, .agg [.int .i64 0, .int .i64 0, .int .i64 0, .int .i64 0, .int .i64 0, .int .i64 0, .int .i64 0]), some (cntT, .agg [.int .i64 v0, .int .i64 v1, .int .i64 v2, .int .i64 v3, .int .i64 v4, .int .i64 v5, .int .i64 v6]), none, none, none], 5⟩ := by
      intro v0 v1 v2 v3 v4 v5 v6 q0 q1 q2 q3 q4 q5 q6
      subst q0 q1 q2 q3 q4 q5 q6
      exact hX (m - 1) (fun k => cntC x1 (x2.take (i.toNat + 1)) k, n, i + 1) hm ⟨k1, by show 0 ≤ i + 1; omega, fun k => by show _ = cntC x1 (x2.take (i + 1).toNat) k; rw [show (i + 1).toNat = i.toNat + 1 by omega], hc2⟩
    have hcr := cls_rng x1 (x2.getD i.toNat 0#128)
    have hne : ∀ k, cls x1 (x2.getD i.toNat 0#128) ≠ k → c k = cntC x1 (x2.take (i.toNat + 1)) k := fun k hk => by rw [hs, if_neg hk, k3]; omega
    have heq : ∀ k, cls x1 (x2.getD i.toNat 0#128) = k → arithR .add .i64 (c k) 1 = cntC x1 (x2.take (i.toNat + 1)) k := fun k hk => by
      have hb := cntC_rng x1 (x2.take i.toNat) k
      have hl : ((x2.take i.toNat).length : Int) ≤ ((x2.length : Nat) : Int) := by rw [List.length_take]; omega
      rw [hs, if_pos hk, k3]
      exact add_i64 (by omega) (by omega)
    have hii : 0 ≤ i ∧ i < ((x2.length : Nat) : Int) := by omega
    clear hs hX k3
    generalize cls x1 (x2.getD i.toNat 0#128) = cv at hne heq hcr ⊢
    rcases (show cv = 0 ∨ cv = 1 ∨ cv = 2 ∨ cv = 3 ∨ cv = 4 ∨ cv = 5 ∨ cv = 6 by omega) with rfl | rfl | rfl | rfl | rfl | rfl | rfl
    all_goals repeat' (first | exact hii | exact Or.inl rfl | apply And.intro | apply Or.inr)
    all_goals first
      | decide
      | (refine go _ _ _ _ _ _ _ ?_ ?_ ?_ ?_ ?_ ?_ ?_ <;> first | exact hne _ (by decide) | exact heq _ rfl)
  · rw [c_lss_f] at h
    simp only [kR, canon, canons, getW, getWord, allInts8, asInt, isK, kindEq, isArgB, strOf, cBig, cInts, cWords, allInts, allWords, r_ofLimbs, r_mkWord, Option.some.injEq, LV.wide.injEq, LV.word.injEq, LV.int.injEq, LV.bool.injEq, LV.str.injEq, LV.big.injEq, LV.tup.injEq, LV.agg.injEq, List.cons.injEq, and_true, true_and]
    simp only [k3, cntC_all x1 x2 _ (show ((x2.length : Nat) : Int) ≤ i by omega), and_self]
theorem p_ClassCounts : SpecOk Tryd.prog globs 6 (mkSpec real [.int .i64, .words] (s_ClassCounts ropsJ)) := by
  have hfns : FnsOk Tryd.prog globs [(39, .spec (mkSpec real [.int .i64, .word] (s_class06 ropsC))), (40, .spec (mkSpec real [.int .i64, .words] (s_count ropsJ))), (38, .spec (mkSpec real [] (s_awake06 ropsB)))] := (fnsCons (fnSpec (p_class06)) (fnsCons (fnSpec (p_count)) (fnsCons (fnSpec (p_awake06)) fnsNil)))
  refine specL (fun _ => [0,1,5,6]) hfns (by kernel_rfl) Tryd.func6 (by kernel_rfl) (by kernel_rfl) (by kernel_rfl) 4 _ _ (.bool) ?_
  clear hfns
  generalize hEE : envL (fun _ => [0,1,5,6]) [(39, .spec (mkSpec real [.int .i64, .word] (s_class06 ropsC))), (40, .spec (mkSpec real [.int .i64, .words] (s_count ropsJ))), (38, .spec (mkSpec real [] (s_awake06 ropsB)))] = EE
  intro l r hl hr
  simp only [Forms, Form] at hl
  obtain ⟨_, _, rfl, ⟨x1, rfl, x1lo, x1hi⟩, _, _, rfl, ⟨x2, rfl, x2len⟩, rfl⟩ := hl
  subst hEE
  generalize hK : kR (.bool) r = K
  generalize hO : real = O
  generalize hS0 : rops = S0
  generalize hS1 : ropsB = S1
  generalize hS2 : ropsC = S2
  generalize hS3 : ropsD = S3
  generalize hS4 : ropsE = S4
  generalize hS5 : ropsF = S5
  generalize hS6 : ropsG = S6
  generalize hS7 : ropsH = S7
  generalize hS8 : ropsI = S8
  generalize hS9 : ropsJ = S9
  set_option maxRecDepth 100000 in cbv
  have hr : r = _ := hr.symm
  subst hO hK hS0 hS1 hS2 hS3 hS4 hS5 hS6 hS7 hS8 hS9
  subst hr
  refine ⟨imp_f fun _ => by rw [kb_t], imp_t fun _ => ?_⟩
  refine loop_rule (α := (Int → Int) × Int) (fun p => ⟨[.int .i64 x1, .words x2, .undef, .undef, .undef, .ptr 4 0, .int .i64 p.2, .undef, .undef, .undef, .undef, .undef, .undef, .undef, .undef, .undef, .undef, .undef, .undef, .undef, .undef, .undef, .undef, .undef, .undef, .undef, .undef, .undef, .undef, .undef, .undef, .undef, .undef, .undef, .undef], ofL [none, none, none, none, some (cntT, .agg [.int .i64 (p.1 0), .int .i64 (p.1 1), .int .i64 (p.1 2), .int .i64 (p.1 3), .int .i64 (p.1 4), .int .i64 (p.1 5), .int .i64 (p.1 6)]), none], 6⟩)
    (fun m p => 0 ≤ p.2 ∧ (∀ k, p.1 k = cntC x1 (x2.take p.2.toNat) k) ∧ ((x2.length : Nat) : Int) - p.2 ≤ ((m : Nat) : Int)) ?_ x2.length (fun _ => 0, 0) ⟨Int.le_refl _, fun k => by show (0 : Int) = cntC x1 (x2.take 0) k; rw [List.take_zero, cntC_nil], by show ((x2.length : Nat) : Int) - 0 ≤ _; omega⟩
  rintro m ⟨c, i⟩ X ⟨h2, h3, h4⟩ hX
  (generalize hK : kR _ _ = K; generalize hO : real = O; generalize hS0 : rops = S0; generalize hS1 : ropsB = S1; generalize hS2 : ropsC = S2; generalize hS3 : ropsD = S3; generalize hS4 : ropsE = S4; generalize hS5 : ropsF = S5; generalize hS6 : ropsG = S6; generalize hS7 : ropsH = S7; generalize hS8 : ropsI = S8; generalize hS9 : ropsJ = S9; set_option maxRecDepth 100000 in cbv; subst hO hK hS0 hS1 hS2 hS3 hS4 hS5 hS6 hS7 hS8 hS9; dsimp only [real, rops, ropsB, ropsC, ropsD, ropsE, ropsF, ropsG, ropsH, ropsI, ropsJ])
  have k2 : 0 ≤ i := h2
  have k3 : ∀ k, c k = cntC x1 (x2.take i.toNat) k := h3
  have k4 : ((x2.length : Nat) : Int) - i ≤ ((m : Nat) : Int) := h4
  have k7 : ((x2.length : Nat) : Int) < 4611686018427387904 := x2len
  clear h2 h3 h4
  refine ⟨imp_f fun h => ?_, imp_t fun h => ?_⟩
  · rw [c_lss_t] at h
    have h : i < ((x2.length : Nat) : Int) := h
    have e3 : arithR .add .i64 i 1 = i + 1 := add_i64 (by omega) (by omega)
    rw [e3]
    have hm : m = (m - 1) + 1 := by omega
    have hc2 : ((x2.length : Nat) : Int) - (i + 1) ≤ ((m - 1 : Nat) : Int) := by omega
    have hs := cntC_step x1 x2 i.toNat (by omega)
    have go : ∀ v0 v1 v2 v3 v4 v5 v6, v0 = cntC x1 (x2.take (i.toNat + 1)) 0 → v1 = cntC x1 (x2.take (i.toNat + 1)) 1 → v2 = cntC x1 (x2.take (i.toNat + 1)) 2 → v3 = cntC x1 (x2.take (i.toNat + 1)) 3 → v4 = cntC x1 (x2.take (i.toNat + 1)) 4 → v5 = cntC x1 (x2.take (i.toNat + 1)) 5 → v6 = cntC x1 (x2.take (i.toNat + 1)) 6 →
        X ⟨[.int .i64 x1, .words x2, .undef, .undef, .undef, .ptr 4 0, .int .i64 (i + 1), .undef, .undef, .undef, .undef, .undef, .undef, .undef, .undef, .undef, .undef, .undef, .undef, .undef, .undef, .undef, .undef, .undef, .undef, .undef, .undef, .undef, .undef, .undef, .undef, .undef, .undef, .undef, .undef], ofL [none, none, none, none, some (cntT, .agg [.int .i64 v0, .int .i64 v1, .int .i64 v2, .int .i64 v3, .int .i64 v4, .int .i64 v5, .int .i64 v6]), none], 6⟩ := by
      intro v0 v1 v2 v3 v4 v5 v6 q0 q1 q2 q3 q4 q5 q6
      subst q0 q1 q2 q3 q4 q5 q6
      exact hX (m - 1) (fun k => cntC x1 (x2.take (i.toNat + 1)) k, i + 1) hm ⟨by show 0 ≤ i + 1; omega, fun k => by show _ = cntC x1 (x2.take (i + 1).toNat) k; rw [show (i + 1).toNat = i.toNat + 1 by omega], hc2⟩
    have hcr := cls_rng x1 (x2.getD i.toNat 0#128)
    have hne : ∀ k, cls x1 (x2.getD i.toNat 0#128) ≠ k → c k = cntC x1 (x2.take (i.toNat + 1)) k := fun k hk => by rw [hs, if_neg hk, k3]; omega
    have heq : ∀ k, cls x1 (x2.getD i.toNat 0#128) = k → arithR .add .i64 (c k) 1 = cntC x1 (x2.take (i.toNat + 1)) k := fun k hk => by
      have hb := cntC_rng x1 (x2.take i.toNat) k
      have hl : ((x2.take i.toNat).length : Int) ≤ ((x2.length : Nat) : Int) := by rw [List.length_take]; omega
      rw [hs, if_pos hk, k3]
      exact add_i64 (by omega) (by omega)
    have hii : 0 ≤ i ∧ i < ((x2.length : Nat) : Int) := by omega
    clear hs hX k3
    generalize cls x1 (x2.getD i.toNat 0#128) = cv at hne heq hcr ⊢
    rcases (show cv = 0 ∨ cv = 1 ∨ cv = 2 ∨ cv = 3 ∨ cv = 4 ∨ cv = 5 ∨ cv = 6 by omega) with rfl | rfl | rfl | rfl | rfl | rfl | rfl
    all_goals repeat' (first | exact hii | exact Or.inl rfl | apply And.intro | apply Or.inr)
    all_goals first
      | decide
      | (refine go _ _ _ _ _ _ _ ?_ ?_ ?_ ?_ ?_ ?_ ?_ <;> first | exact hne _ (by decide) | exact heq _ rfl)
  · rw [c_lss_f] at h
    have h : ((x2.length : Nat) : Int) ≤ i := h
    simp only [k3, cntC_all x1 x2 _ h, eql_self, kb_t, Bool.and_self]
    simp
end Go.LE