import Derived.Test.YtbbggnihogcjcaaW53
set_option linter.unusedVariables false
set_option linter.unusedSimpArgs false
namespace Go.LE
open Go Go.Proofs
def s_LimbSums (_ : OpsLc) : List LV → R LV := fun _ => .ok (.bool true)
def s_LimbShifts (_ : OpsLc) : List LV → R LV := fun _ => .ok (.bool true)
theorem beq_self (b : Bool) : (b == b) = true := by cases b <;> rfl
theorem cmpN_lss' (a b : Nat) : cmpR .lss (cmpN a b) 0 = decide (a < b) := by
  unfold cmpN
  by_cases h : a < b
  · rw [if_pos h, decide_eq_true h]; rfl
  · rw [if_neg h, decide_eq_false h]
    split <;> rfl
theorem bitI_eql (n j : Nat) : cmpR .eql (bitI n j) 1 = n.testBit j := by
  unfold bitI
  cases n.testBit j <;> rfl
theorem sum_lt64 {a b : List Int} (ha : rng64 a) (hb : rng64 b) : val64 a + val64 b < 2 ^ (64 * (max a.length b.length + 1)) := by
  have h1 := val64_lt a ha
  have h2 := val64_lt b hb
  have h3 : 2 ^ (64 * a.length) ≤ 2 ^ (64 * max a.length b.length) := Nat.pow_le_pow_right (by decide) (by omega)
  have h4 : 2 ^ (64 * b.length) ≤ 2 ^ (64 * max a.length b.length) := Nat.pow_le_pow_right (by decide) (by omega)
  have h5 : 2 ^ (64 * (max a.length b.length + 1)) = 2 ^ (64 * max a.length b.length) * 2 ^ 64 := by rw [← Nat.pow_add]; congr 1
  omega
theorem small64 {a : List Int} (ha : rng64 a) (h : a.length ≤ 100000) : small (val64 a) := small_lt (k := 2 * a.length) (by omega) (by rw [show 32 * (2 * a.length) = 64 * a.length by omega]; exact val64_lt a ha)
theorem p_LimbSums : SpecOk Try.prog globs 4 (mkSpec real [.ints .u64, .ints .u64] (s_LimbSums ropsLc)) := by
  have hfns : FnsOk Try.prog globs [(14, .spec (mkSpec real [.ints .u64] (s_of01 ropsH))), (15, .spec (mkSpec real [.ints .u64, .ints .u64] (s_lSum ropsLb))), (16, .spec (mkSpec real [.big, .big] (s_cmp01 ropsH))), (17, .spec (mkSpec real [.big, .big] (s_add01 ropsH))), (18, .spec (mkSpec real [.ints .u64, .ints .u64] (s_lLess ropsLb))), (19, .spec (mkSpec real [.ints .u64] (s_lLen ropsLb))), (20, .spec (mkSpec real [.big] (s_len01 ropsH))), (8, .spec (mkSpec real [.ints .u64] (s_bbits ropsLc))), (7, .spec (mkSpec real [] (s_awake01 ropsLm)))] := (fnsCons (fnSpec (p_of01)) (fnsCons (fnSpec (p_lSum)) (fnsCons (fnSpec (p_cmp01)) (fnsCons (fnSpec (p_add01)) (fnsCons (fnSpec (p_lLess)) (fnsCons (fnSpec (p_lLen)) (fnsCons (fnSpec (p_len01)) (fnsCons (fnSpec (p_bbits)) (fnsCons (fnSpec (p_awake01)) fnsNil)))))))))
  refine spec0 hfns (by kernel_rfl) Try.func4 (by kernel_rfl) (by kernel_rfl) (by kernel_rfl) 5 _ _ (.bool) ?_
  clear hfns
  generalize hEE : env0 [(14, .spec (mkSpec real [.ints .u64] (s_of01 ropsH))), (15, .spec (mkSpec real [.ints .u64, .ints .u64] (s_lSum ropsLb))), (16, .spec (mkSpec real [.big, .big] (s_cmp01 ropsH))), (17, .spec (mkSpec real [.big, .big] (s_add01 ropsH))), (18, .spec (mkSpec real [.ints .u64, .ints .u64] (s_lLess ropsLb))), (19, .spec (mkSpec real [.ints .u64] (s_lLen ropsLb))), (20, .spec (mkSpec real [.big] (s_len01 ropsH))), (8, .spec (mkSpec real [.ints .u64] (s_bbits ropsLc))), (7, .spec (mkSpec real [] (s_awake01 ropsLm)))] = EE
  intro l r hl hr
  simp only [Forms, Form] at hl
  obtain ⟨_, _, rfl, ⟨x1, rfl, x1all, x1len⟩, _, _, rfl, ⟨x2, rfl, x2all, x2len⟩, rfl⟩ := hl
  subst hEE
  generalize hK : kR (.bool) r = K
  generalize hO : real = O
  generalize hS0 : rops = S0
  generalize hS1 : ropsH = S1
  generalize hS2 : ropsUm = S2
  generalize hS3 : ropsLb = S3
  generalize hS4 : ropsLm = S4
  generalize hS5 : ropsLc = S5
  set_option maxRecDepth 100000 in cbv
  subst hO hK hS0 hS1 hS2 hS3 hS4 hS5
  simp only [s_LimbSums, R.Y] at hr
  subst hr
  try dsimp only [real, rops, ropsH, ropsUm, ropsLb, ropsLm, ropsLc]
  have kt : kR AT.bool (LV.bool true) (LV.bool true) := rfl
  have ra := rng64_of x1all
  have rb := rng64_of x2all
  refine ⟨imp_f fun _ => kt, imp_t fun h1 => ⟨imp_f fun _ => kt, imp_t fun h2 => ?_⟩⟩
  rw [c_gtr_f] at h1 h2
  have l1 : x1.length ≤ 40 := by omega
  have l2 : x2.length ≤ 40 := by omega
  have l1' : x1.length ≤ 100000 := by omega
  have s1 := small64 ra (by omega)
  have s2 := small64 rb (by omega)
  have hl1 : (lim (val64 x1 + val64 x2)).length ≤ 41 := Nat.le_trans ((lim_len _ _).2 (sum_lt64 ra rb)) (by omega)
  have hl : (lim (val64 x1 + val64 x2)).length ≤ 536870912 := by omega
  rw [val64_lim, cmpN_eq, cmpN_lss', beq_self, bis_bitN, show lenN (val64 x1) = ((bitN (val64 x1) : Nat) : Int) from rfl, eql_self']
  refine ⟨by omega, by omega, by omega, by omega, imp_f fun h => ⟨⟨?_, ?_⟩, imp_f fun hb => ?_, imp_t fun _ => ?_⟩, imp_t fun _ => ?_⟩
  · rw [c_gtr_t] at h
    rw [sub_i64 (by omega) (by omega)]; omega
  · rw [c_gtr_t] at h
    rw [sub_i64 (by omega) (by omega)]; omega
  · rw [c_gtr_t] at h
    rw [sub_i64 (by omega) (by omega), c_eql_t, lim_get, show (((lim (val64 x1 + val64 x2)).length : Nat) - 1 : Int).toNat = (lim (val64 x1 + val64 x2)).length - 1 by omega] at hb
    have hne : val64 x1 + val64 x2 ≠ 0 := fun e => by rw [e] at h; exact absurd h (by decide)
    exact absurd hb (lim_last hne)
  · exact ⟨hl, s1, s2, .inl rfl, .inr ⟨.inr ⟨l1', s1, .inr ⟨l1', l1', .inr kt, .inl rfl⟩, .inl rfl⟩, .inl rfl⟩⟩
  · exact ⟨hl, s1, s2, .inl rfl, .inr ⟨.inr ⟨l1', s1, .inr ⟨l1', l1', .inr kt, .inl rfl⟩, .inl rfl⟩, .inl rfl⟩⟩
theorem p_LimbShifts : SpecOk Try.prog globs 3 (mkSpec real [.ints .u64, .int .i64] (s_LimbShifts ropsLc)) := by
  have hfns : FnsOk Try.prog globs [(8, .spec (mkSpec real [.ints .u64] (s_bbits ropsLc))), (10, .spec (mkSpec real [.ints .bool, .int .i64] (s_bshift ropsLc))), (9, .spec (mkSpec real [.ints .bool] (s_blimbs ropsLc))), (12, .spec (mkSpec real [.ints .u64, .int .i64] (s_lShift ropsLb))), (11, .spec (mkSpec real [.ints .u64, .ints .u64] (s_lsame ropsLb))), (13, .spec (mkSpec real [.ints .u64, .int .i64] (s_lBit ropsLb))), (7, .spec (mkSpec real [] (s_awake01 ropsLm)))] := (fnsCons (fnSpec (p_bbits)) (fnsCons (fnSpec (p_bshift)) (fnsCons (fnSpec (p_blimbs)) (fnsCons (fnSpec (p_lShift)) (fnsCons (fnSpec (p_lsame)) (fnsCons (fnSpec (p_lBit)) (fnsCons (fnSpec (p_awake01)) fnsNil)))))))
  refine spec0 hfns (by kernel_rfl) Try.func3 (by kernel_rfl) (by kernel_rfl) (by kernel_rfl) 5 _ _ (.bool) ?_
  clear hfns
  generalize hEE : env0 [(8, .spec (mkSpec real [.ints .u64] (s_bbits ropsLc))), (10, .spec (mkSpec real [.ints .bool, .int .i64] (s_bshift ropsLc))), (9, .spec (mkSpec real [.ints .bool] (s_blimbs ropsLc))), (12, .spec (mkSpec real [.ints .u64, .int .i64] (s_lShift ropsLb))), (11, .spec (mkSpec real [.ints .u64, .ints .u64] (s_lsame ropsLb))), (13, .spec (mkSpec real [.ints .u64, .int .i64] (s_lBit ropsLb))), (7, .spec (mkSpec real [] (s_awake01 ropsLm)))] = EE
  intro l r hl hr
  simp only [Forms, Form] at hl
  obtain ⟨_, _, rfl, ⟨x1, rfl, x1all, x1len⟩, _, _, rfl, ⟨x2, rfl, x2lo, x2hi⟩, rfl⟩ := hl
  subst hEE
  generalize hK : kR (.bool) r = K
  generalize hO : real = O
  generalize hS0 : rops = S0
  generalize hS1 : ropsH = S1
  generalize hS2 : ropsUm = S2
  generalize hS3 : ropsLb = S3
  generalize hS4 : ropsLm = S4
  generalize hS5 : ropsLc = S5
  set_option maxRecDepth 100000 in cbv
  subst hO hK hS0 hS1 hS2 hS3 hS4 hS5
  simp only [s_LimbShifts, R.Y] at hr
  subst hr
  try dsimp only [real, rops, ropsH, ropsUm, ropsLb, ropsLm, ropsLc]
  have kt : kR AT.bool (LV.bool true) (LV.bool true) := rfl
  have ra := rng64_of x1all
  rw [val2_bis, val2_bis, decide_eq_true (rfl : lim (shfN (val64 x1) x2) = _)]
  refine ⟨imp_f fun _ => kt, imp_t fun h1 => ?_⟩
  rw [c_gtr_f] at h1
  have l1 : x1.length ≤ 30 := by omega
  have hb : bitN (val64 x1) ≤ 64 * x1.length := bitN_le.2 (val64_lt x1 ra)
  have far : x2 < -65536 ∨ 65536 < x2 → decide (lim (shfN (val64 x1) x2) = []) = true := fun h => by
    have e : shfN (val64 x1) x2 = 0 := by unfold shfN; rw [if_pos (by omega)]
    rw [e]; rfl
  refine ⟨by omega, imp_f fun hg => ⟨imp_f fun hl => ?_, imp_t fun hl => ?_⟩, imp_t fun hg => ?_⟩
  · rw [c_geq_t] at hg
    rw [c_leq_t] at hl
    have hs : (bis (shfN (val64 x1) x2)).length ≤ 10000000 := by
      rw [bis_bitN]
      unfold shfN
      rw [if_neg (by omega)]
      split
      · by_cases e : val64 x1 = 0
        · rw [e, Nat.zero_mul]; decide
        · rw [bitN_mul _ _ e]; omega
      · exact Nat.le_trans (bitN_le.2 (Nat.lt_of_le_of_lt (Nat.div_le_self _ _) (val64_lt x1 ra))) (by omega)
    refine ⟨by rw [bis_bitN]; omega, ⟨hg, hl⟩, hs, by omega, .inr ?_, .inl rfl⟩
    refine ⟨imp_f fun h0 => ⟨imp_f fun h1 => ?_, imp_t fun h1 => ?_⟩, imp_t fun h0 => ?_⟩
    · rw [c_geq_t] at h0
      rw [c_lss_t] at h1
      rw [decide_eq_true h0, Bool.true_and, bis_get, bitI_eql, beq_self]
      exact ⟨⟨h0, h1⟩, .inr kt, .inl rfl⟩
    · rw [c_geq_t] at h0
      rw [c_lss_f, bis_bitN] at h1
      rw [decide_eq_true h0, Bool.true_and, Nat.testBit_lt_two_pow (Nat.lt_of_lt_of_le (bitN_le.1 (Nat.le_refl (bitN (val64 x1)))) (Nat.pow_le_pow_right (by decide) (by omega)))]
      exact ⟨.inr kt, .inl rfl⟩
    · rw [c_geq_f] at h0
      rw [decide_eq_false (by omega), Bool.false_and]
      exact ⟨.inr kt, .inl rfl⟩
  · rw [c_leq_f] at hl
    rw [far (.inr hl)]
    refine ⟨by omega, .inr ?_, .inl rfl⟩
    refine ⟨imp_f fun h0 => ⟨imp_f fun h1 => ?_, imp_t fun h1 => ?_⟩, imp_t fun h0 => ?_⟩
    · rw [c_geq_t] at h0
      rw [c_lss_t] at h1
      rw [decide_eq_true h0, Bool.true_and, bis_get, bitI_eql, beq_self]
      exact ⟨⟨h0, h1⟩, .inr kt, .inl rfl⟩
    · rw [c_geq_t] at h0
      rw [c_lss_f, bis_bitN] at h1
      rw [decide_eq_true h0, Bool.true_and, Nat.testBit_lt_two_pow (Nat.lt_of_lt_of_le (bitN_le.1 (Nat.le_refl (bitN (val64 x1)))) (Nat.pow_le_pow_right (by decide) (by omega)))]
      exact ⟨.inr kt, .inl rfl⟩
    · rw [c_geq_f] at h0
      rw [decide_eq_false (by omega), Bool.false_and]
      exact ⟨.inr kt, .inl rfl⟩
  · rw [c_geq_f] at hg
    rw [far (.inl hg)]
    refine ⟨by omega, .inr ?_, .inl rfl⟩
    refine ⟨imp_f fun h0 => ⟨imp_f fun h1 => ?_, imp_t fun h1 => ?_⟩, imp_t fun h0 => ?_⟩
    · rw [c_geq_t] at h0
      rw [c_lss_t] at h1
      rw [decide_eq_true h0, Bool.true_and, bis_get, bitI_eql, beq_self]
      exact ⟨⟨h0, h1⟩, .inr kt, .inl rfl⟩
    · rw [c_geq_t] at h0
      rw [c_lss_f, bis_bitN] at h1
      rw [decide_eq_true h0, Bool.true_and, Nat.testBit_lt_two_pow (Nat.lt_of_lt_of_le (bitN_le.1 (Nat.le_refl (bitN (val64 x1)))) (Nat.pow_le_pow_right (by decide) (by omega)))]
      exact ⟨.inr kt, .inl rfl⟩
    · rw [c_geq_f] at h0
      rw [decide_eq_false (by omega), Bool.false_and]
      exact ⟨.inr kt, .inl rfl⟩
end Go.LE