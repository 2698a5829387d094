import Derived.Test.YtbbggnihogcjcaaW51
set_option linter.unusedVariables false
set_option linter.unusedSimpArgs false
namespace Go.LE
open Go Go.Proofs
structure OpsLm where
  hi : Int → Int → Int
  lo : Int → Int → Int
  flag : Int → Int
noncomputable def ropsLm : OpsLm where
  hi := fun x y => x * y / 18446744073709551616
  lo := fun x y => x * y % 18446744073709551616
  flag := fun n => if n > 0 then 1 else 0
def s_mul64 (S : OpsLm) : List LV → R LV
  | [.int _ x, .int _ y] => .ok (.tup [.int .u64 (S.hi x y), .int .u64 (S.lo x y)])
  | _ => .fail
def s_lMul (S : OpsLm) : List LV → R LV
  | [.int _ x, .int _ y] => .ok (.tup [.int .u64 (S.hi x y), .int .u64 (S.lo x y)])
  | _ => .fail
def s_lflag (S : OpsLm) : List LV → R LV
  | [.int _ x] => .ok (.int .u64 (S.flag x))
  | _ => .fail
def s_awake01 (_ : OpsLm) : List LV → R LV := fun _ => .ok (.bool true)
def s_LimbAdds (_ : OpsLm) : List LV → R LV := fun _ => .ok (.bool true)
def s_LimbBack (_ : OpsLm) : List LV → R LV := fun _ => .ok (.bool true)
theorem kb_t' (b : Bool) : kR .bool (.bool true) (.bool b) = (b = true) := by
  cases b <;> simp [kR, canon, isArgB]
theorem kb_lt' : kR .bool (.bool true) (.blit true) = True := by
  simp [kR, canon, isArgB]
theorem kb_lf' : kR .bool (.bool true) (.blit false) = False := by
  simp [kR, canon, isArgB]
theorem sm96 {n : Nat} (h : n < 79228162514264337593543950336) : small n := small_lt (k := 3) (by decide) h
theorem val_two (a b : Int) : val64 [a, b] = a.toNat + 18446744073709551616 * b.toNat := by simp [val64]
theorem rem_u16k {x : Int} (hx : 0 ≤ x ∧ x < 65536) : IntKind.i64.wrap (arithR .rem .u16 x 3000) = x % 3000 := by
  have e : arithR .rem .u16 x 3000 = x % 3000 := Int.tmod_eq_emod_of_nonneg hx.1
  rw [e, wrap_i64_of (by omega) (by omega)]
theorem shf_up {v : Nat} {k : Int} (hk : 0 ≤ k ∧ k < 3000) : shfN v k = v * 2 ^ k.toNat := by
  unfold shfN
  rw [if_neg (by omega), if_pos hk.1]
theorem shf_back {v : Nat} {k : Int} (hk : 0 ≤ k ∧ k < 3000) : shfN (v * 2 ^ k.toNat) (-k) = v := by
  unfold shfN
  rw [if_neg (by omega)]
  split
  · have : k = 0 := by omega
    subst this
    simp
  · rw [show (- -k).toNat = k.toNat by omega, Nat.mul_div_cancel _ (Nat.two_pow_pos _)]
theorem eql_self' (x : Int) : cmpR .eql x x = true := by rw [c_eql_t]
theorem and_mask {x : Int} (h : 0 ≤ x ∧ x < 18446744073709551616) : arithR .and .u64 x 4294967295 = x % 4294967296 := by
  rw [and_u64 h (by decide)]
  have : x.toNat &&& (4294967295 : Int).toNat = x.toNat % 2 ^ 32 := Nat.and_two_pow_sub_one_eq_mod x.toNat 32
  rw [this]
  omega
theorem mul_u64 {x y : Int} (h1 : 0 ≤ x * y) (h2 : x * y < 18446744073709551616) : arithR .mul .u64 x y = x * y := wrap_u64_of h1 h2
theorem mul_low {x y : Int} : arithR .mul .u64 x y = x * y % 18446744073709551616 := by
  show IntKind.u64.wrap (x * y) = _
  unfold IntKind.wrap
  simp only [IntKind.signed, IntKind.bits]
  simp
theorem prod_le {a b A B : Int} (ha : 0 ≤ a ∧ a ≤ A) (hb : 0 ≤ b ∧ b ≤ B) : 0 ≤ a * b ∧ a * b ≤ A * B := ⟨Int.mul_nonneg ha.1 hb.1, Int.mul_le_mul ha.2 hb.2 hb.1 (by omega)⟩
theorem p_mul64 : SpecOk Try.prog globs 41 (mkSpec real [.int .u64, .int .u64] (s_mul64 ropsLm)) := by
  have hfns : FnsOk Try.prog globs [] := fnsNil
  refine spec0 hfns (by kernel_rfl) Try.func41 (by kernel_rfl) (by kernel_rfl) (by kernel_rfl) 4 _ _ (.tup [.int .u64, .int .u64]) ?_
  clear hfns
  generalize hEE : env0 [] = EE
  intro l r hl hr
  simp only [Forms, Form] at hl
  obtain ⟨_, _, rfl, ⟨x1, rfl, x1lo, x1hi⟩, _, _, rfl, ⟨x2, rfl, x2lo, x2hi⟩, rfl⟩ := hl
  subst hEE
  generalize hK : kR (.tup [.int .u64, .int .u64]) r = K
  generalize hO : real = O
  set_option maxRecDepth 100000 in cbv
  subst hO hK 
  simp only [s_mul64, R.Y] at hr
  subst hr
  try dsimp only [real, rops, ropsH, ropsUm, ropsLb, ropsLm]
  have h1 := inK_u64 ((inK_iff _ _).2 ⟨x1lo, x1hi⟩)
  have h2 := inK_u64 ((inK_iff _ _).2 ⟨x2lo, x2hi⟩)
  clear x1lo x1hi x2lo x2hi
  rw [and_mask h1, and_mask h2, shr_32, shr_32]
  have a0 : 0 ≤ x1 % 4294967296 ∧ x1 % 4294967296 ≤ 4294967295 := by omega
  have a1 : 0 ≤ x1 / 4294967296 ∧ x1 / 4294967296 ≤ 4294967295 := by omega
  have b0 : 0 ≤ x2 % 4294967296 ∧ x2 % 4294967296 ≤ 4294967295 := by omega
  have b1 : 0 ≤ x2 / 4294967296 ∧ x2 / 4294967296 ≤ 4294967295 := by omega
  have p00 := prod_le a0 b0
  have p10 := prod_le a1 b0
  have p01 := prod_le a0 b1
  have p11 := prod_le a1 b1
  have e00 : arithR .mul .u64 (x1 % 4294967296) (x2 % 4294967296) = x1 % 4294967296 * (x2 % 4294967296) := mul_u64 (by omega) (by omega)
  have e10 : arithR .mul .u64 (x1 / 4294967296) (x2 % 4294967296) = x1 / 4294967296 * (x2 % 4294967296) := mul_u64 (by omega) (by omega)
  have e01 : arithR .mul .u64 (x1 % 4294967296) (x2 / 4294967296) = x1 % 4294967296 * (x2 / 4294967296) := mul_u64 (by omega) (by omega)
  have e11 : arithR .mul .u64 (x1 / 4294967296) (x2 / 4294967296) = x1 / 4294967296 * (x2 / 4294967296) := mul_u64 (by omega) (by omega)
  rw [e00, e10, e01, e11, mul_low]
  have ex : x1 * x2 = x1 / 4294967296 * (x2 / 4294967296) * 18446744073709551616 + (x1 / 4294967296 * (x2 % 4294967296) + x1 % 4294967296 * (x2 / 4294967296)) * 4294967296 + x1 % 4294967296 * (x2 % 4294967296) := by
    have q1 := Int.mul_ediv_add_emod x1 4294967296
    have q2 := Int.mul_ediv_add_emod x2 4294967296
    generalize x1 / 4294967296 = A at *
    generalize x1 % 4294967296 = B at *
    generalize x2 / 4294967296 = C at *
    generalize x2 % 4294967296 = D at *
    subst q1 q2
    rw [Int.add_mul, Int.mul_add, Int.mul_add]
    have z1 : 4294967296 * A * (4294967296 * C) = A * C * 18446744073709551616 := by rw [Int.mul_comm 4294967296 A, Int.mul_assoc, ← Int.mul_assoc 4294967296 4294967296 C, Int.mul_comm (4294967296 * 4294967296) C, ← Int.mul_assoc]; rfl
    have z2 : 4294967296 * A * D = A * D * 4294967296 := by rw [Int.mul_assoc, Int.mul_comm]
    have z3 : B * (4294967296 * C) = B * C * 4294967296 := by rw [Int.mul_comm 4294967296 C, Int.mul_assoc]
    rw [z1, z2, z3]
    omega
  generalize x1 % 4294967296 * (x2 % 4294967296) = P at *
  generalize x1 / 4294967296 * (x2 % 4294967296) = Q at *
  generalize x1 % 4294967296 * (x2 / 4294967296) = V at *
  generalize x1 / 4294967296 * (x2 / 4294967296) = U at *
  have t1 : arithR .add .u64 Q (arithR .shr .u64 P 32) = Q + P / 4294967296 := by rw [shr_32]; exact add_u64' (by omega) (by omega)
  rw [t1, and_mask (by omega), shr_32]
  have t2 : arithR .add .u64 ((Q + P / 4294967296) % 4294967296) V = (Q + P / 4294967296) % 4294967296 + V := add_u64' (by omega) (by omega)
  rw [t2, shr_32]
  have t3 : arithR .add .u64 U ((Q + P / 4294967296) / 4294967296) = U + (Q + P / 4294967296) / 4294967296 := add_u64' (by omega) (by omega)
  have t4 : arithR .add .u64 (U + (Q + P / 4294967296) / 4294967296) (((Q + P / 4294967296) % 4294967296 + V) / 4294967296) = U + (Q + P / 4294967296) / 4294967296 + ((Q + P / 4294967296) % 4294967296 + V) / 4294967296 := add_u64' (by omega) (by omega)
  rw [t3, t4]
  simp only [kR, canon, canons, ekEq, numE, getW, getWord, allInts8, asInt, isK, kindEq, isArgB, strOf, cBig, cInts, cWords, allInts, allWords, r_ofLimbs, r_mkWord, Option.some.injEq, LV.wide.injEq, LV.word.injEq, LV.int.injEq, LV.bool.injEq, LV.str.injEq, LV.big.injEq, LV.tup.injEq, LV.agg.injEq, List.cons.injEq, and_true, true_and]
  rw [ex]
  omega
theorem p_lMul : SpecOk Try.prog globs 26 (mkSpec real [.int .u64, .int .u64] (s_lMul ropsLm)) := by
  have hfns : FnsOk Try.prog globs [(41, .spec (mkSpec real [.int .u64, .int .u64] (s_mul64 ropsLm)))] := (fnsCons (fnSpec (p_mul64)) fnsNil)
  refine spec0 hfns (by kernel_rfl) Try.func26 (by kernel_rfl) (by kernel_rfl) (by kernel_rfl) 4 _ _ (.tup [.int .u64, .int .u64]) ?_
  clear hfns
  generalize hEE : env0 [(41, .spec (mkSpec real [.int .u64, .int .u64] (s_mul64 ropsLm)))] = EE
  intro l r hl hr
  simp only [Forms, Form] at hl
  obtain ⟨_, _, rfl, ⟨x1, rfl, x1lo, x1hi⟩, _, _, rfl, ⟨x2, rfl, x2lo, x2hi⟩, rfl⟩ := hl
  subst hEE
  generalize hK : kR (.tup [.int .u64, .int .u64]) r = K
  generalize hO : real = O
  generalize hS0 : rops = S0
  generalize hS1 : ropsH = S1
  generalize hS2 : ropsUm = S2
  generalize hS3 : ropsLb = S3
  generalize hS4 : ropsLm = S4
  set_option maxRecDepth 100000 in cbv
  subst hO hK hS0 hS1 hS2 hS3 hS4
  simp only [s_lMul, R.Y] at hr
  subst hr
  try dsimp only [real, rops, ropsH, ropsUm, ropsLb, ropsLm]
  simp only [kR, canon, canons, ekEq, numE, getW, getWord, allInts8, asInt, isK, kindEq, isArgB, strOf, cBig, cInts, cWords, allInts, allWords, r_ofLimbs, r_mkWord, Option.some.injEq, LV.wide.injEq, LV.word.injEq, LV.int.injEq, LV.bool.injEq, LV.str.injEq, LV.big.injEq, LV.tup.injEq, LV.agg.injEq, List.cons.injEq, and_true, true_and]
theorem p_lflag : SpecOk Try.prog globs 23 (mkSpec real [.int .u64] (s_lflag ropsLm)) := by
  have hfns : FnsOk Try.prog globs [] := fnsNil
  refine spec0 hfns (by kernel_rfl) Try.func23 (by kernel_rfl) (by kernel_rfl) (by kernel_rfl) 4 _ _ (.int .u64) ?_
  clear hfns
  generalize hEE : env0 [] = EE
  intro l r hl hr
  simp only [Forms, Form] at hl
  obtain ⟨_, _, rfl, ⟨x1, rfl, x1lo, x1hi⟩, rfl⟩ := hl
  subst hEE
  generalize hK : kR (.int .u64) r = K
  generalize hO : real = O
  set_option maxRecDepth 100000 in cbv
  subst hO hK 
  simp only [s_lflag, R.Y] at hr
  subst hr
  try dsimp only [real, rops, ropsH, ropsUm, ropsLb, ropsLm]
  refine ⟨imp_f fun h => ?_, imp_t fun h => ?_⟩
  · rw [c_gtr_t] at h
    simp only [kR, canon, canons, ekEq, numE, getW, getWord, allInts8, asInt, isK, kindEq, isArgB, strOf, cBig, cInts, cWords, allInts, allWords, r_ofLimbs, r_mkWord, Option.some.injEq, LV.wide.injEq, LV.word.injEq, LV.int.injEq, LV.bool.injEq, LV.str.injEq, LV.big.injEq, LV.tup.injEq, LV.agg.injEq, List.cons.injEq, and_true, true_and]
    rw [if_pos h]
  · rw [c_gtr_f] at h
    simp only [kR, canon, canons, ekEq, numE, getW, getWord, allInts8, asInt, isK, kindEq, isArgB, strOf, cBig, cInts, cWords, allInts, allWords, r_ofLimbs, r_mkWord, Option.some.injEq, LV.wide.injEq, LV.word.injEq, LV.int.injEq, LV.bool.injEq, LV.str.injEq, LV.big.injEq, LV.tup.injEq, LV.agg.injEq, List.cons.injEq, and_true, true_and]
    rw [if_neg (by omega)]
theorem p_awake01 : SpecOk Try.prog globs 7 (mkSpec real [] (s_awake01 ropsLm)) := by
  have hfns : FnsOk Try.prog globs [(24, .spec (mkSpec real [.int .u64, .int .u64, .int .u64] (s_limbAdd rops))), (12, .spec (mkSpec real [.ints .u64, .int .i64] (s_lShift ropsLb))), (11, .spec (mkSpec real [.ints .u64, .ints .u64] (s_lsame ropsLb))), (19, .spec (mkSpec real [.ints .u64] (s_lLen ropsLb)))] := (fnsCons (fnSpec (p_limbAdd)) (fnsCons (fnSpec (p_lShift)) (fnsCons (fnSpec (p_lsame)) (fnsCons (fnSpec (p_lLen)) fnsNil))))
  refine spec0 hfns (by kernel_rfl) Try.func7 (by kernel_rfl) (by kernel_rfl) (by kernel_rfl) 4 _ _ (.bool) ?_
  clear hfns
  generalize hEE : env0 [(24, .spec (mkSpec real [.int .u64, .int .u64, .int .u64] (s_limbAdd rops))), (12, .spec (mkSpec real [.ints .u64, .int .i64] (s_lShift ropsLb))), (11, .spec (mkSpec real [.ints .u64, .ints .u64] (s_lsame ropsLb))), (19, .spec (mkSpec real [.ints .u64] (s_lLen ropsLb)))] = EE
  intro l r hl hr
  simp only [Forms, Form] at hl
  obtain rfl := hl
  subst hEE
  generalize hK : kR (.bool) r = K
  generalize hO : real = O
  generalize hS0 : rops = S0
  generalize hS1 : ropsH = S1
  generalize hS2 : ropsUm = S2
  generalize hS3 : ropsLb = S3
  generalize hS4 : ropsLm = S4
  set_option maxRecDepth 100000 in cbv
  subst hO hK hS0 hS1 hS2 hS3 hS4
  simp only [s_awake01, R.Y] at hr
  subst hr
  try dsimp only [real, rops, ropsH, ropsUm, ropsLb, ropsLm]
  simp only [kb_t', kb_lt', kb_lf']; decide +kernel
theorem p_LimbAdds : SpecOk Try.prog globs 6 (mkSpec real [.int .u64, .int .u64, .int .u64] (s_LimbAdds ropsLm)) := by
  have hfns : FnsOk Try.prog globs [(23, .spec (mkSpec real [.int .u64] (s_lflag ropsLm))), (22, .spec (mkSpec real [.int .u64] (s_small01 ropsH))), (24, .spec (mkSpec real [.int .u64, .int .u64, .int .u64] (s_limbAdd rops))), (25, .spec (mkSpec real [.int .u64, .int .u64, .int .u64] (s_limbSub rops))), (26, .spec (mkSpec real [.int .u64, .int .u64] (s_lMul ropsLm))), (17, .spec (mkSpec real [.big, .big] (s_add01 ropsH))), (14, .spec (mkSpec real [.ints .u64] (s_of01 ropsH))), (16, .spec (mkSpec real [.big, .big] (s_cmp01 ropsH))), (27, .spec (mkSpec real [.big, .big] (s_mul01 ropsUm))), (7, .spec (mkSpec real [] (s_awake01 ropsLm)))] := (fnsCons (fnSpec (p_lflag)) (fnsCons (fnSpec (p_small01)) (fnsCons (fnSpec (p_limbAdd)) (fnsCons (fnSpec (p_limbSub)) (fnsCons (fnSpec (p_lMul)) (fnsCons (fnSpec (p_add01)) (fnsCons (fnSpec (p_of01)) (fnsCons (fnSpec (p_cmp01)) (fnsCons (fnSpec (p_mul01)) (fnsCons (fnSpec (p_awake01)) fnsNil))))))))))
  refine spec0 hfns (by kernel_rfl) Try.func6 (by kernel_rfl) (by kernel_rfl) (by kernel_rfl) 5 _ _ (.bool) ?_
  clear hfns
  generalize hEE : env0 [(23, .spec (mkSpec real [.int .u64] (s_lflag ropsLm))), (22, .spec (mkSpec real [.int .u64] (s_small01 ropsH))), (24, .spec (mkSpec real [.int .u64, .int .u64, .int .u64] (s_limbAdd rops))), (25, .spec (mkSpec real [.int .u64, .int .u64, .int .u64] (s_limbSub rops))), (26, .spec (mkSpec real [.int .u64, .int .u64] (s_lMul ropsLm))), (17, .spec (mkSpec real [.big, .big] (s_add01 ropsH))), (14, .spec (mkSpec real [.ints .u64] (s_of01 ropsH))), (16, .spec (mkSpec real [.big, .big] (s_cmp01 ropsH))), (27, .spec (mkSpec real [.big, .big] (s_mul01 ropsUm))), (7, .spec (mkSpec real [] (s_awake01 ropsLm)))] = EE
  intro l r hl hr
  simp only [Forms, Form] at hl
  obtain ⟨_, _, rfl, ⟨x1, rfl, x1lo, x1hi⟩, _, _, rfl, ⟨x2, rfl, x2lo, x2hi⟩, _, _, rfl, ⟨x3, rfl, x3lo, x3hi⟩, rfl⟩ := hl
  subst hEE
  generalize hK : kR (.bool) r = K
  generalize hO : real = O
  generalize hS0 : rops = S0
  generalize hS1 : ropsH = S1
  generalize hS2 : ropsUm = S2
  generalize hS3 : ropsLb = S3
  generalize hS4 : ropsLm = S4
  set_option maxRecDepth 100000 in cbv
  subst hO hK hS0 hS1 hS2 hS3 hS4
  simp only [s_LimbAdds, R.Y] at hr
  subst hr
  try dsimp only [real, rops, ropsH, ropsUm, ropsLb, ropsLm]
  have kt : kR AT.bool (LV.bool true) (LV.bool true) := rfl
  have h1 := inK_u64 ((inK_iff _ _).2 ⟨x1lo, x1hi⟩)
  have h2 := inK_u64 ((inK_iff _ _).2 ⟨x2lo, x2hi⟩)
  have h3 := inK_u64 ((inK_iff _ _).2 ⟨x3lo, x3hi⟩)
  clear x1lo x1hi x2lo x2hi x3lo x3hi
  obtain ⟨f, hf, hf2⟩ : ∃ f : Int, (if x3 > 0 then (1 : Int) else 0) = f ∧ (f = 0 ∨ f = 1) := by
    refine ⟨_, rfl, ?_⟩
    split <;> omega
  have ho : one1 x3 = f := by
    rw [← hf]
    unfold one1
    split <;> split <;> omega
  rw [hf]
  unfold lSum lCar lDif lBor
  rw [ho]
  rw [val_two, val_two, val_two]
  have q1 : ((x1 + x2 + f) % 18446744073709551616).toNat + 18446744073709551616 * ((x1 + x2 + f) / 18446744073709551616).toNat = x1.toNat + x2.toNat + f.toNat := by omega
  have q2 : x1.toNat + 18446744073709551616 * (if x1 < x2 + f then (1 : Int) else 0).toNat = ((x1 - x2 - f) % 18446744073709551616).toNat + (x2.toNat + f.toNat) := by
    split <;> omega
  have q3 : (x1 * x2 % 18446744073709551616).toNat + 18446744073709551616 * (x1 * x2 / 18446744073709551616).toNat = x1.toNat * x2.toNat := by
    obtain ⟨a, rfl⟩ := Int.eq_ofNat_of_zero_le h1.1
    obtain ⟨b, rfl⟩ := Int.eq_ofNat_of_zero_le h2.1
    rw [← Int.natCast_mul]
    simp only [Int.toNat_natCast]
    generalize a * b = p
    omega
  have q4 : cmpR .gtr ((x1 + x2 + f) / 18446744073709551616) 1 = false := by rw [c_gtr_f]; omega
  have q5 : cmpR .gtr (if x1 < x2 + f then (1 : Int) else 0) 1 = false := by rw [c_gtr_f]; split <;> omega
  rw [q1, q2, q3, cmpN_eq, cmpN_eq, cmpN_eq, q4, q5]
  have s1 : small x1.toNat := sm96 (by omega)
  have s2 : small x2.toNat := sm96 (by omega)
  have s3 : small (x1.toNat + x2.toNat) := sm96 (by omega)
  have s4 : small f.toNat := sm96 (by omega)
  have s5 : small ((x1 - x2 - f) % 18446744073709551616).toNat := sm96 (by omega)
  have s6 : small (x2.toNat + f.toNat) := sm96 (by omega)
  have z0 : cmpR .neq 0 0 = false := rfl
  have z1 : cmpR .eql 0 0 = true := rfl
  rw [z0, z1]
  exact ⟨s1, s2, s3, s4, by simp, .inl rfl, .inr ⟨.inl rfl, .inr ⟨.inl rfl, .inr ⟨s2, s4, s5, s6, by simp, .inl rfl, .inr ⟨s1, s2, by simp, .inr kt, .inl rfl⟩⟩⟩⟩⟩
theorem p_LimbBack : SpecOk Try.prog globs 5 (mkSpec real [.ints .u64, .int .u16, .ints .u64] (s_LimbBack ropsLm)) := by
  have hfns : FnsOk Try.prog globs [(12, .spec (mkSpec real [.ints .u64, .int .i64] (s_lShift ropsLb))), (15, .spec (mkSpec real [.ints .u64, .ints .u64] (s_lSum ropsLb))), (11, .spec (mkSpec real [.ints .u64, .ints .u64] (s_lsame ropsLb))), (19, .spec (mkSpec real [.ints .u64] (s_lLen ropsLb))), (18, .spec (mkSpec real [.ints .u64, .ints .u64] (s_lLess ropsLb))), (21, inlF Try.f21), (7, .spec (mkSpec real [] (s_awake01 ropsLm)))] := (fnsCons (fnSpec (p_lShift)) (fnsCons (fnSpec (p_lSum)) (fnsCons (fnSpec (p_lsame)) (fnsCons (fnSpec (p_lLen)) (fnsCons (fnSpec (p_lLess)) (fnsCons (inl_ok Try.func21 (by kernel_rfl) (by kernel_rfl)) (fnsCons (fnSpec (p_awake01)) fnsNil)))))))
  refine spec0 hfns (by kernel_rfl) Try.func5 (by kernel_rfl) (by kernel_rfl) (by kernel_rfl) 5 _ _ (.bool) ?_
  clear hfns
  generalize hEE : env0 [(12, .spec (mkSpec real [.ints .u64, .int .i64] (s_lShift ropsLb))), (15, .spec (mkSpec real [.ints .u64, .ints .u64] (s_lSum ropsLb))), (11, .spec (mkSpec real [.ints .u64, .ints .u64] (s_lsame ropsLb))), (19, .spec (mkSpec real [.ints .u64] (s_lLen ropsLb))), (18, .spec (mkSpec real [.ints .u64, .ints .u64] (s_lLess ropsLb))), (21, inlF Try.f21), (7, .spec (mkSpec real [] (s_awake01 ropsLm)))] = EE
  intro l r hl hr
  simp only [Forms, Form] at hl
  obtain ⟨_, _, rfl, ⟨x1, rfl, x1all, x1len⟩, _, _, rfl, ⟨x2, rfl, x2lo, x2hi⟩, _, _, rfl, ⟨x3, rfl, x3all, x3len⟩, rfl⟩ := hl
  subst hEE
  generalize hK : kR (.bool) r = K
  generalize hO : real = O
  generalize hS0 : rops = S0
  generalize hS1 : ropsH = S1
  generalize hS2 : ropsUm = S2
  generalize hS3 : ropsLb = S3
  generalize hS4 : ropsLm = S4
  set_option maxRecDepth 100000 in cbv
  subst hO hK hS0 hS1 hS2 hS3 hS4
  simp only [s_LimbBack, R.Y] at hr
  subst hr
  try dsimp only [real, rops, ropsH, ropsUm, ropsLb, ropsLm]
  have kt : kR AT.bool (LV.bool true) (LV.bool true) := rfl
  have ra := rng64_of x1all
  have rb := rng64_of x3all
  have hx : 0 ≤ x2 ∧ x2 < 65536 := by
    simp only [IntKind.min, IntKind.max, IntKind.signed, IntKind.bits] at x2lo x2hi
    simp at x2lo x2hi
    omega
  rw [rem_u16k hx]
  have hk : 0 ≤ x2 % 3000 ∧ x2 % 3000 < 3000 := by omega
  generalize x2 % 3000 = k at *
  have en : unR .neg .i64 k = -k := wrap_i64_of (by omega) (by omega)
  rw [en, shf_up hk, val64_lim, shf_back hk, show val64 [] = 0 from rfl, Nat.add_zero, val64_lim]
  refine ⟨imp_f fun _ => kt, imp_t fun h => ⟨imp_f fun _ => kt, imp_t fun h2 => ?_⟩⟩
  rw [c_gtr_f] at h h2
  have l1 : x1.length ≤ 30 := by omega
  have l3 : x3.length ≤ 30 := by omega
  have hv : bitN (val64 x1) ≤ 64 * x1.length := bitN_le.2 (val64_lt x1 ra)
  have hll : (lim (val64 x1 * 2 ^ k.toNat)).length ≤ 100000 := Nat.le_trans ((lim_len (x1.length + 47) _).2 (by
    have h5 : 2 ^ (64 * x1.length) * 2 ^ k.toNat ≤ 2 ^ (64 * (x1.length + 47)) := by rw [← Nat.pow_add]; exact Nat.pow_le_pow_right (by decide) (by omega)
    exact Nat.lt_of_lt_of_le (Nat.mul_lt_mul_of_pos_right (val64_lt x1 ra) (Nat.two_pow_pos _)) h5)) (by omega)
  have e1 : arithR .add .i64 ((bitN (val64 x1) : Nat) : Int) k = ((bitN (val64 x1) : Nat) : Int) + k := add_i64 (by omega) (by omega)
  have e2 : ((bitN (val64 x1 * 2 ^ k.toNat) : Nat) : Int) = arithR .mul .i64 (if ((bitN (val64 x1) : Nat) : Int) + k > 0 then ((bitN (val64 x1) : Nat) : Int) + k else 0) (if 1 < ((bitN (val64 x1) : Nat) : Int) then 1 else ((bitN (val64 x1) : Nat) : Int)) := by
    by_cases h0 : val64 x1 = 0
    · rw [h0, Nat.zero_mul, bitN_zero, if_neg (c := 1 < ((0 : Nat) : Int)) (by decide)]
      have : ∀ z : Int, arithR .mul .i64 z ((0 : Nat) : Int) = 0 := fun z => by
        show IntKind.i64.wrap (z * 0) = 0
        rw [Int.mul_zero]; rfl
      rw [this]; rfl
    · have hb := bitN_pos h0
      rw [bitN_mul _ _ h0, if_pos (by omega)]
      have e3 : (if 1 < ((bitN (val64 x1) : Nat) : Int) then (1 : Int) else ((bitN (val64 x1) : Nat) : Int)) = 1 := by split <;> omega
      rw [e3, mul_i64 (by omega) (by omega)]
      omega
  rw [e1, ← e2, eql_self', Nat.add_comm (val64 x3)]
  rw [decide_eq_false (show ¬ val64 x1 + val64 x3 < val64 x1 by omega), decide_eq_true rfl, decide_eq_true rfl]
  exact ⟨by omega, by omega, by simp, by omega, by omega, hll, .inr ⟨hll, by omega, by omega, .inr ⟨.inr ⟨by omega, by omega, .inr kt, .inl rfl⟩, .inl rfl⟩, .inl rfl⟩, .inl rfl⟩
end Go.LE