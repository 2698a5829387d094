import Derived.Test.YtbbggnihogcjcaaW50
set_option linter.unusedVariables false
set_option linter.unusedSimpArgs false
namespace Go.LE
open Go Go.Proofs
def slU : Ty := .slice (.int .u64)
def s_lSum (S : OpsLb) : List LV → R LV
  | [.ints _ a, .ints _ b] => .req (S.short a) (.req (S.short b) (.ok (.ints .u64 (S.sum a b))))
  | _ => .fail
def s_lShift (S : OpsLb) : List LV → R LV
  | [.ints _ l, .int _ n] => .req (S.short l) (.ok (.ints .u64 (S.shf l n)))
  | _ => .fail
theorem p_lBit : SpecOk Try.prog globs 13 (mkSpec real [.ints .u64, .int .i64] (s_lBit ropsLb)) := by
  have hfns : FnsOk Try.prog globs [(31, .spec (mkSpec real [.ints .u64, .int .i64] (s_lat ropsLb)))] := (fnsCons (fnSpec (p_lat)) fnsNil)
  refine spec0 hfns (by kernel_rfl) Try.func13 (by kernel_rfl) (by kernel_rfl) (by kernel_rfl) 4 _ _ (.bool) ?_
  clear hfns
  generalize hEE : env0 [(31, .spec (mkSpec real [.ints .u64, .int .i64] (s_lat ropsLb)))] = EE
  intro l r hl hr
  simp only [Forms, Form] at hl
  obtain ⟨_, _, rfl, ⟨x1, rfl, x1all, x1len⟩, _, _, rfl, ⟨x2, rfl, x2lo, x2hi⟩, rfl⟩ := hl
  subst hEE
  generalize hK : kR (.bool) r = K
  generalize hO : real = O
  generalize hS0 : rops = S0
  generalize hS1 : ropsH = S1
  generalize hS2 : ropsUm = S2
  generalize hS3 : ropsLb = S3
  set_option maxRecDepth 100000 in cbv
  subst hO hK hS0 hS1 hS2 hS3
  simp only [s_lBit, R.Y] at hr
  subst hr
  try dsimp only [real, rops, ropsH, ropsUm, ropsLb]
  rw [i64_max] at x2hi
  refine ⟨imp_f fun h => ?_, imp_t fun h => ?_⟩
  · rw [c_geq_t] at h
    rw [rem64 h, quo64 h x2hi]
    refine ⟨by omega, ?_⟩
    rw [decide_eq_true h, Bool.true_and]
    rw [lim_bit1 _ h x2hi]
    simp only [kR, canon, canons, ekEq, numE, getW, getWord, allInts8, asInt, isK, kindEq, isArgB, strOf, cBig, cInts, cWords, allInts, allWords, r_ofLimbs, r_mkWord, Option.some.injEq, LV.wide.injEq, LV.word.injEq, LV.int.injEq, LV.bool.injEq, LV.str.injEq, LV.big.injEq, LV.tup.injEq, LV.agg.injEq, List.cons.injEq, and_true, true_and]
  · rw [c_geq_f] at h
    rw [decide_eq_false (by omega), Bool.false_and]
    rfl
theorem p_lSum : SpecOk Try.prog globs 15 (mkSpec real [.ints .u64, .ints .u64] (s_lSum ropsLb)) := by
  have hfns : FnsOk Try.prog globs [(29, inlF Try.f29), (37, inlF Try.f37), (34, inlF Try.f34), (31, .spec (mkSpec real [.ints .u64, .int .i64] (s_lat ropsLb))), (35, .ext (mkSpec real [.int .u64, .int .u64, .int .u64] (s_Add64 rops)))] := (fnsCons (inl_ok Try.func29 (by kernel_rfl) (by kernel_rfl)) (fnsCons (inl_ok Try.func37 (by kernel_rfl) (by kernel_rfl)) (fnsCons (inl_ok Try.func34 (by kernel_rfl) (by kernel_rfl)) (fnsCons (fnSpec (p_lat)) (fnsCons (fnExt x_Add64) fnsNil)))))
  refine specL (fun _ => [0,1,3,5,10,11]) hfns (by kernel_rfl) Try.func15 (by kernel_rfl) (by kernel_rfl) (by kernel_rfl) 4 _ _ (.ints .u64) ?_
  clear hfns
  generalize hEE : envL (fun _ => [0,1,3,5,10,11]) [(29, inlF Try.f29), (37, inlF Try.f37), (34, inlF Try.f34), (31, .spec (mkSpec real [.ints .u64, .int .i64] (s_lat ropsLb))), (35, .ext (mkSpec real [.int .u64, .int .u64, .int .u64] (s_Add64 rops)))] = EE
  intro l r hl hr
  simp only [Forms, Form] at hl
  obtain ⟨_, _, rfl, ⟨x1, rfl, x1all, x1len⟩, _, _, rfl, ⟨x2, rfl, x2all, x2len⟩, rfl⟩ := hl
  subst hEE
  generalize hK : kR (.ints .u64) r = K
  generalize hO : real = O
  generalize hS0 : rops = S0
  generalize hS1 : ropsH = S1
  generalize hS2 : ropsUm = S2
  generalize hS3 : ropsLb = S3
  set_option maxRecDepth 100000 in cbv
  obtain ⟨hs1, hs2, hr⟩ := hr
  have hr : r = _ := hr.symm
  subst hO hK hS0 hS1 hS2 hS3
  subst hr
  have ra := rng64_of x1all
  have rb := rng64_of x2all
  have l1 : x1.length ≤ 100000 := hs1
  have l2 : x2.length ≤ 100000 := hs2
  clear x1len x2len hs1 hs2 x1all x2all
  obtain ⟨N, hN⟩ : ∃ N, N = max x1.length x2.length + 1 := ⟨_, rfl⟩
  have hmx : real.mx (real.lenI x1) (real.lenI x2) = ((max x1.length x2.length : Nat) : Int) := by
    show (if (x2.length : Int) > (x1.length : Int) then (x2.length : Int) else (x1.length : Int)) = _
    split <;> omega
  have hn : real.arith .add .i64 (real.mx (real.lenI x1) (real.lenI x2)) 1 = ((N : Nat) : Int) := by
    rw [hmx]
    show arithR .add .i64 ((max x1.length x2.length : Nat) : Int) 1 = _
    rw [add_i64 (by omega) (by omega)]; omega
  have hV : val64 x1 + val64 x2 < 2 ^ (64 * N) := by
    have h1 := val64_lt x1 ra
    have h2 := val64_lt x2 rb
    have h3 : 2 ^ (64 * x1.length) ≤ 2 ^ (64 * (N - 1)) := Nat.pow_le_pow_right (by decide) (by omega)
    have h4 : 2 ^ (64 * x2.length) ≤ 2 ^ (64 * (N - 1)) := Nat.pow_le_pow_right (by decide) (by omega)
    have h5 : 2 ^ (64 * N) = 2 ^ (64 * (N - 1)) * 2 ^ 64 := by rw [← Nat.pow_add]; congr 1; omega
    omega
  refine ⟨by show 0 ≤ real.arith .add .i64 (real.mx (real.lenI x1) (real.lenI x2)) 1 ∧ real.arith .add .i64 (real.mx (real.lenI x1) (real.lenI x2)) 1 ≤ 1099511627776; rw [hn]; omega, ?_⟩
  refine loop_rule (α := List Int × Int × Int × Int × Int) (fun p => ⟨[.int .i64 p.2.2.2.1, .fn 34 [.ptr 0 0, .ptr 1 0, .ptr 3 0], .undef, .undef, .undef, .own .u64 p.1, .undef, .undef, .undef, .undef, .int .i64 p.2.2.2.2, .int .i64 p.2.1, .undef, .undef, .undef, .undef, .undef, .undef, .undef, .undef, .undef, .undef, .undef], flagOn (ofL [some (slU, .ints .u64 x1), some (slU, .ints .u64 x2), none, some (.int .u64, .int .u64 p.2.2.1), none, none, none, none, none, none, none, none, none, none, none, none, none, none, none, none]), 20⟩)
    (fun m p => outP N (val64 x1 + val64 x2) p.1 p.2.1 ∧ carP (val64 x1) (val64 x2) p.2.2.1 p.2.1 ∧ p.2.2.2.2 = ((N : Nat) : Int) ∧ ((N : Nat) : Int) - p.2.1 ≤ ((m : Nat) : Int)) ?_ N (real.zerosI (real.arith .add .i64 (real.mx (real.lenI x1) (real.lenI x2)) 1), 0, 0, real.arith .add .i64 (real.mx (real.lenI x1) (real.lenI x2)) 1, real.lenI (real.zerosI (real.arith .add .i64 (real.mx (real.lenI x1) (real.lenI x2)) 1))) ?_
  · rintro m ⟨l, i, c, n0, n1⟩ X ⟨h1, h2, h3, h4⟩ hX
    (generalize hK : kR _ _ = K; generalize hO : real = O; generalize hS0 : rops = S0; generalize hS1 : ropsH = S1; generalize hS2 : ropsUm = S2; generalize hS3 : ropsLb = S3; set_option maxRecDepth 100000 in cbv; subst hO hK hS0 hS1 hS2 hS3)
    have g1 : outP N (val64 x1 + val64 x2) l i := h1
    have g2 : carP (val64 x1) (val64 x2) c i := h2
    have g3 : n1 = ((N : Nat) : Int) := h3
    have g4 : ((N : Nat) : Int) - i ≤ ((m : Nat) : Int) := h4
    have hNl : N ≤ 100001 := by omega
    clear h1 h2 h3 h4
    refine ⟨imp_f fun h => ?_, imp_t fun h => ?_⟩
    · replace h : cmpR .lss i n1 = true := h
      rw [c_lss_t] at h
      have hi0 : 0 ≤ i := g1.2.2.1
      have hlen : l.length = N := g1.1
      obtain ⟨i, rfl⟩ := Int.eq_ofNat_of_zero_le hi0
      obtain ⟨c1, c2⟩ := carP_step g2
      have hb := carP_bit g2
      rw [← limZ_nat, ← limZ_nat] at c1 c2
      have e1 : arithR .add .i64 ((i : Nat) : Int) 1 = ((i : Nat) : Int) + 1 := add_i64 (by omega) (by omega)
      have hm : m = (m - 1) + 1 := by omega
      have hc : ((N : Nat) : Int) - (((i : Nat) : Int) + 1) ≤ ((m - 1 : Nat) : Int) := by omega
      have hiN : ((i : Nat) : Int) < ((N : Nat) : Int) := by omega
      refine ⟨hb, ⟨hi0, by show ((i : Nat) : Int) < ((l.length : Nat) : Int); omega⟩, ?_⟩
      have := hX (m - 1) (l.set ((i : Nat) : Int).toNat ((limZ (val64 x1) ((i : Nat) : Int) + limZ (val64 x2) ((i : Nat) : Int) + c) % 18446744073709551616), ((i : Nat) : Int) + 1, (limZ (val64 x1) ((i : Nat) : Int) + limZ (val64 x2) ((i : Nat) : Int) + c) / 18446744073709551616, n0, n1) hm ⟨outP_step g1 hiN (by rw [Int.toNat_natCast]; exact c1), c2, g3, hc⟩
      rw [← e1] at this
      exact this
    · replace h : cmpR .lss i n1 = false := h
      rw [c_lss_f] at h
      have hval : val64 l = val64 x1 + val64 x2 := outP_end g1 (by omega) hV
      obtain ⟨hl, hrl, _⟩ := g1
      refine loop_rule (α := Int × LV × LV) (fun p => ⟨[.own .u64 l, .undef, .undef, .int .i64 p.1, .undef, .int .i64 (real.lenI l), .undef, .undef, .undef, .undef, p.2.1, p.2.2, .undef, .undef, .undef, .undef, .undef, .undef, .undef, .undef, .undef, .undef], flagOn (ofL [some (slU, .ints .u64 x1), some (slU, .ints .u64 x2), none, some (.int .u64, .int .u64 c), none, none, none, none, none, none, none, none, none, none, none, none, none, none, none, none, none, none, none, none, none, none, none, none]), 28⟩)
        (fun m p => 0 ≤ p.1 ∧ p.1 ≤ ((N : Nat) : Int) ∧ (∀ j : Nat, p.1 ≤ (j : Int) → l.getD j 0 = 0) ∧ p.1 ≤ ((m : Nat) : Int)) ?_ N (((l.length : Nat) : Int), .undef, .undef) ⟨Int.natCast_nonneg _, by show ((l.length : Nat) : Int) ≤ _; omega, fun j hj => by
          have hj : ((l.length : Nat) : Int) ≤ (j : Int) := hj
          rw [List.getD_eq_getElem?_getD, List.getElem?_eq_none (by omega)]; rfl, by show ((l.length : Nat) : Int) ≤ _; omega⟩
      rintro m2 ⟨k, lv1, lv2⟩ X2 ⟨h1, h2, h3, h4⟩ hX2
      (generalize hK : kR _ _ = K; generalize hO : real = O; generalize hS0 : rops = S0; generalize hS1 : ropsH = S1; generalize hS2 : ropsUm = S2; generalize hS3 : ropsLb = S3; set_option maxRecDepth 100000 in cbv; subst hO hK hS0 hS1 hS2 hS3; dsimp only [real, rops, ropsH, ropsUm, ropsLb])
      have q1 : 0 ≤ k := h1
      have q2 : k ≤ ((N : Nat) : Int) := h2
      have q3 : ∀ j : Nat, k ≤ ((j : Nat) : Int) → l.getD j 0 = 0 := h3
      have q4 : k ≤ ((m2 : Nat) : Int) := h4
      have q5 : N ≤ 100001 := hNl
      clear h1 h2 h3 h4
      have fin : k = 0 ∨ l.getD (k - 1).toNat 0 ≠ 0 → l.take k.toNat = lim (val64 l) := fun h => trim_lim hrl (by omega) (fun i hi => q3 i (by omega)) (h.imp (fun h => by omega) fun h => by rwa [show (k - 1).toNat = k.toNat - 1 by omega] at h)
      refine ⟨imp_f fun h => ?_, imp_t fun h => ?_⟩
      · rw [c_gtr_t] at h
        have g : arithR .sub .i64 k 1 = k - 1 := sub_i64 (by omega) (by omega)
        rw [g]
        have h9 : k - 1 < ((l.length : Nat) : Int) := by omega
        refine ⟨⟨by omega, h9⟩, imp_f fun hb => ?_, imp_t fun hb => ?_⟩
        · rw [c_eql_t] at hb
          have hm : m2 = (m2 - 1) + 1 := by omega
          have hc : k - 1 ≤ ((m2 - 1 : Nat) : Int) := by omega
          have hl : k - 1 ≤ ((N : Nat) : Int) := by omega
          have hz : ∀ j : Nat, k - 1 ≤ ((j : Nat) : Int) → l.getD j 0 = 0 := fun j hj => by
            by_cases e : ((j : Nat) : Int) = k - 1
            · have : j = (k - 1).toNat := by omega
              rw [this]; exact hb
            · exact q3 j (by omega)
          exact hX2 (m2 - 1) (k - 1, _, _) hm ⟨by omega, hl, hz, hc⟩
        · rw [c_eql_f] at hb
          refine ⟨⟨q1, by omega⟩, ?_⟩
          rw [fin (.inr hb), hval]
          simp only [kR, canon, canons, ekEq, numE, getW, getWord, allInts8, asInt, isK, kindEq, isArgB, strOf, cBig, cInts, cWords, allInts, allWords, r_ofLimbs, r_mkWord, Option.some.injEq, LV.wide.injEq, LV.word.injEq, LV.int.injEq, LV.bool.injEq, LV.str.injEq, LV.big.injEq, LV.tup.injEq, LV.agg.injEq, List.cons.injEq, and_true, true_and]
      · rw [c_gtr_f] at h
        refine ⟨⟨q1, by omega⟩, ?_⟩
        rw [fin (.inl (by omega)), hval]
        simp only [kR, canon, canons, ekEq, numE, getW, getWord, allInts8, asInt, isK, kindEq, isArgB, strOf, cBig, cInts, cWords, allInts, allWords, r_ofLimbs, r_mkWord, Option.some.injEq, LV.wide.injEq, LV.word.injEq, LV.int.injEq, LV.bool.injEq, LV.str.injEq, LV.big.injEq, LV.tup.injEq, LV.agg.injEq, List.cons.injEq, and_true, true_and]
  · refine ⟨?_, carP_zero _ _, ?_, ?_⟩
    · show outP N (val64 x1 + val64 x2) (List.replicate (real.arith .add .i64 (real.mx (real.lenI x1) (real.lenI x2)) 1).toNat 0) 0
      rw [hn, Int.toNat_natCast]
      exact outP_zero _ _
    · show (((List.replicate (real.arith .add .i64 (real.mx (real.lenI x1) (real.lenI x2)) 1).toNat (0 : Int)).length : Nat) : Int) = _
      rw [hn, List.length_replicate, Int.toNat_natCast]
    · show ((N : Nat) : Int) - 0 ≤ _
      omega
set_option maxHeartbeats 4000000 in
theorem p_lShift : SpecOk Try.prog globs 12 (mkSpec real [.ints .u64, .int .i64] (s_lShift ropsLb)) := by
  have hfns : FnsOk Try.prog globs [(29, inlF Try.f29), (37, inlF Try.f37), (30, inlF Try.f30), (32, inlF Try.f32), (31, .spec (mkSpec real [.ints .u64, .int .i64] (s_lat ropsLb)))] := (fnsCons (inl_ok Try.func29 (by kernel_rfl) (by kernel_rfl)) (fnsCons (inl_ok Try.func37 (by kernel_rfl) (by kernel_rfl)) (fnsCons (inl_ok Try.func30 (by kernel_rfl) (by kernel_rfl)) (fnsCons (inl_ok Try.func32 (by kernel_rfl) (by kernel_rfl)) (fnsCons (fnSpec (p_lat)) fnsNil)))))
  refine specL (fun _ => [0,1,3,5,10,11]) hfns (by kernel_rfl) Try.func12 (by kernel_rfl) (by kernel_rfl) (by kernel_rfl) 4 _ _ (.ints .u64) ?_
  clear hfns
  generalize hEE : envL (fun _ => [0,1,3,5,10,11]) [(29, inlF Try.f29), (37, inlF Try.f37), (30, inlF Try.f30), (32, inlF Try.f32), (31, .spec (mkSpec real [.ints .u64, .int .i64] (s_lat ropsLb)))] = EE
  intro l r hl hr
  simp only [Forms, Form] at hl
  obtain ⟨_, _, rfl, ⟨x1, rfl, x1all, x1len⟩, _, _, rfl, ⟨x2, rfl, x2lo, x2hi⟩, rfl⟩ := hl
  subst hEE
  generalize hK : kR (.ints .u64) r = K
  generalize hO : real = O
  generalize hS0 : rops = S0
  generalize hS1 : ropsH = S1
  generalize hS2 : ropsUm = S2
  generalize hS3 : ropsLb = S3
  set_option maxRecDepth 100000 in cbv
  obtain ⟨hs1, hr⟩ := hr
  have hr : r = _ := hr.symm
  subst hO hK hS0 hS1 hS2 hS3
  subst hr
  have ra := rng64_of x1all
  have l1 : x1.length ≤ 100000 := hs1
  rw [i64_min] at x2lo
  rw [i64_max] at x2hi
  clear x1len hs1 x1all
  have hlt := val64_lt x1 ra
  refine ⟨imp_f fun h => ?_, imp_t fun h => ⟨imp_f fun h2 => ?_, imp_t fun h2 => ⟨imp_f fun g => ?_, imp_t fun g => ?_⟩⟩⟩
  · replace h : cmpR .gtr x2 65536 = true := h
    rw [c_gtr_t] at h
    have e : shfN (val64 x1) x2 = 0 := by unfold shfN; rw [if_pos (.inl h)]
    show kR (AT.ints .u64) (.ints .u64 (lim (shfN (val64 x1) x2))) LV.nils
    rw [e]
    rfl
  · replace h2 : cmpR .lss x2 (-65536) = true := h2
    rw [c_lss_t] at h2
    have e : shfN (val64 x1) x2 = 0 := by unfold shfN; rw [if_pos (.inr h2)]
    show kR (AT.ints .u64) (.ints .u64 (lim (shfN (val64 x1) x2))) LV.nils
    rw [e]
    rfl
  · replace h : cmpR .gtr x2 65536 = false := h
    replace h2 : cmpR .lss x2 (-65536) = false := h2
    replace g : cmpR .geq x2 0 = true := g
    rw [c_gtr_f] at h
    rw [c_lss_f] at h2
    rw [c_geq_t] at g
    have eS : ropsLb.shf x1 x2 = lim (val64 x1 * 2 ^ x2.toNat) := by
      show lim (shfN (val64 x1) x2) = _
      unfold shfN
      rw [if_neg (by omega), if_pos g]
    have ek : arithR .quo .i64 x2 64 = x2 / 64 := quo64 g (by omega)
    have er : arithR .rem .i64 x2 64 = x2 % 64 := rem64 g
    obtain ⟨N, hN⟩ : ∃ N, N = x1.length + (x2 / 64).toNat + 1 := ⟨_, rfl⟩
    have hn : (real.arith .add .i64 (real.arith .add .i64 (real.lenI x1) (real.arith .quo .i64 x2 64)) 1) = ((N : Nat) : Int) := by
      show arithR .add .i64 (arithR .add .i64 ((x1.length : Nat) : Int) (arithR .quo .i64 x2 64)) 1 = _
      rw [ek, add_i64 (x := ((x1.length : Nat) : Int)) (by omega) (by omega), add_i64 (by omega) (by omega)]; omega
    have hNl : N ≤ 102000 := by omega
    have hV : val64 x1 * 2 ^ x2.toNat < 2 ^ (64 * N) := by
      have h5 : 2 ^ (64 * x1.length) * 2 ^ x2.toNat ≤ 2 ^ (64 * N) := by rw [← Nat.pow_add]; exact Nat.pow_le_pow_right (by decide) (by omega)
      exact Nat.lt_of_lt_of_le (Nat.mul_lt_mul_of_pos_right hlt (Nat.two_pow_pos _)) h5
    rw [eS]
    refine ⟨by show 0 ≤ (real.arith .add .i64 (real.arith .add .i64 (real.lenI x1) (real.arith .quo .i64 x2 64)) 1) ∧ (real.arith .add .i64 (real.arith .add .i64 (real.lenI x1) (real.arith .quo .i64 x2 64)) 1) ≤ 1099511627776; rw [hn]; omega, ?_⟩
    refine loop_rule (α := List Int × Int × Int × Int) (fun p => ⟨[.int .i64 p.2.2.1, .fn 30 [.ptr 0 0, .ptr 16 0, .ptr 17 0], .undef, .undef, .undef, .own .u64 p.1, .undef, .undef, .undef, .undef, .int .i64 p.2.2.2, .int .i64 p.2.1, .undef, .undef, .undef, .undef, .undef, .undef, .undef, .undef, .undef, .undef, .undef], flagOn (ofL [some (slU, .ints .u64 x1), none, none, none, none, none, none, none, none, none, none, none, none, none, none, none, some (.int .i64, .int .i64 (real.arith .quo .i64 x2 64)), some (.int .i64, .int .i64 (real.arith .rem .i64 x2 64)), none, none, none, none, none, none, none, none, none, none, none, none, none, none, none, none, none]), 35⟩)
      (fun m p => outP N (val64 x1 * 2 ^ x2.toNat) p.1 p.2.1 ∧ p.2.2.2 = ((N : Nat) : Int) ∧ ((N : Nat) : Int) - p.2.1 ≤ ((m : Nat) : Int)) ?_ N (real.zerosI (real.arith .add .i64 (real.arith .add .i64 (real.lenI x1) (real.arith .quo .i64 x2 64)) 1), 0, (real.arith .add .i64 (real.arith .add .i64 (real.lenI x1) (real.arith .quo .i64 x2 64)) 1), real.lenI (real.zerosI (real.arith .add .i64 (real.arith .add .i64 (real.lenI x1) (real.arith .quo .i64 x2 64)) 1))) ?_
    · rintro m ⟨l, i, n0, n1⟩ X ⟨h1, h3, h4⟩ hX
      (generalize hK : kR _ _ = K; generalize hO : real = O; generalize hS0 : rops = S0; generalize hS1 : ropsH = S1; generalize hS2 : ropsUm = S2; generalize hS3 : ropsLb = S3; set_option maxRecDepth 100000 in cbv; subst hO hK hS0 hS1 hS2 hS3)
      have g1 : outP N (val64 x1 * 2 ^ x2.toNat) l i := h1
      have g3 : n1 = ((N : Nat) : Int) := h3
      have g4 : ((N : Nat) : Int) - i ≤ ((m : Nat) : Int) := h4
      have g5 : N ≤ 102000 := hNl
      clear h1 h3 h4
      refine ⟨imp_f fun h => ?_, imp_t fun h => ?_⟩
      · replace h : cmpR .lss i n1 = true := h
        rw [c_lss_t] at h
        have hi0 : 0 ≤ i := g1.2.2.1
        have hlen : l.length = N := g1.1
        obtain ⟨i, rfl⟩ := Int.eq_ofNat_of_zero_le hi0
        have hm : m = (m - 1) + 1 := by omega
        have hc : ((N : Nat) : Int) - (((i : Nat) : Int) + 1) ≤ ((m - 1 : Nat) : Int) := by omega
        have hiN : ((i : Nat) : Int) < ((N : Nat) : Int) := by omega
        have e1 : arithR .add .i64 ((i : Nat) : Int) 1 = ((i : Nat) : Int) + 1 := add_i64 (by omega) (by omega)
        have e2 : arithR .sub .i64 ((i : Nat) : Int) (arithR .quo .i64 x2 64) = ((i : Nat) : Int) - x2 / 64 := by rw [ek]; exact sub_i64 (by omega) (by omega)
        have e3 : arithR .sub .i64 (((i : Nat) : Int) - x2 / 64) 1 = ((i : Nat) : Int) - x2 / 64 - 1 := sub_i64 (by omega) (by omega)
        have e4 : arithR .sub .i64 64 (arithR .rem .i64 x2 64) = 64 - x2 % 64 := by rw [er]; exact sub_i64 (by omega) (by omega)
        dsimp only [real, rops, ropsH, ropsUm, ropsLb]
        refine ⟨by rw [er]; omega, by rw [e4]; omega, ⟨hi0, by rw [hlen]; exact hiN⟩, ?_⟩
        refine hX (m - 1) (_, arithR .add .i64 ((i : Nat) : Int) 1, n0, n1) hm ⟨?_, g3, ?_⟩
        · dsimp only
          rw [e1]
          exact outP_step g1 hiN (by rw [e2, e3, e4, er, Int.toNat_natCast]; exact lim_shl (val64 x1) (by omega) (by omega) (by omega) i)
        · dsimp only
          rw [e1]
          exact hc
      · replace h : cmpR .lss i n1 = false := h
        rw [c_lss_f] at h
        have hval : val64 l = val64 x1 * 2 ^ x2.toNat := outP_end g1 (by omega) hV
        obtain ⟨hl, hrl, _⟩ := g1
        refine loop_rule (α := Int × LV × LV) (fun p => ⟨[.own .u64 l, .undef, .undef, .int .i64 p.1, .undef, .int .i64 (real.lenI l), .undef, .undef, .undef, .undef, p.2.1, p.2.2, .undef, .undef, .undef, .undef, .undef, .undef, .undef, .undef, .undef, .undef], flagOn (ofL [some (slU, .ints .u64 x1), none, none, none, none, none, none, none, none, none, none, none, none, none, none, none, some (.int .i64, .int .i64 (real.arith .quo .i64 x2 64)), some (.int .i64, .int .i64 (real.arith .rem .i64 x2 64)), none, none, none, none, none, none, none, none, none, none, none, none, none, none, none, none, none, none, none, none, none, none, none, none, none]), 43⟩)
          (fun m p => 0 ≤ p.1 ∧ p.1 ≤ ((N : Nat) : Int) ∧ (∀ j : Nat, p.1 ≤ (j : Int) → l.getD j 0 = 0) ∧ p.1 ≤ ((m : Nat) : Int)) ?_ N (((l.length : Nat) : Int), .undef, .undef) ⟨Int.natCast_nonneg _, by show ((l.length : Nat) : Int) ≤ _; omega, fun j hj => by
            have hj : ((l.length : Nat) : Int) ≤ (j : Int) := hj
            rw [List.getD_eq_getElem?_getD, List.getElem?_eq_none (by omega)]; rfl, by show ((l.length : Nat) : Int) ≤ _; omega⟩
        rintro m2 ⟨k, lv1, lv2⟩ X2 ⟨h1, h2, h3, h4⟩ hX2
        (generalize hK : kR _ _ = K; generalize hO : real = O; generalize hS0 : rops = S0; generalize hS1 : ropsH = S1; generalize hS2 : ropsUm = S2; generalize hS3 : ropsLb = S3; set_option maxRecDepth 100000 in cbv; subst hO hK hS0 hS1 hS2 hS3; dsimp only [real, rops, ropsH, ropsUm, ropsLb])
        have q1 : 0 ≤ k := h1
        have q2 : k ≤ ((N : Nat) : Int) := h2
        have q3 : ∀ j : Nat, k ≤ ((j : Nat) : Int) → l.getD j 0 = 0 := h3
        have q4 : k ≤ ((m2 : Nat) : Int) := h4
        have q5 : N ≤ 102000 := hNl
        clear h1 h2 h3 h4
        have fin : k = 0 ∨ l.getD (k - 1).toNat 0 ≠ 0 → l.take k.toNat = lim (val64 l) := fun h => trim_lim hrl (by omega) (fun i hi => q3 i (by omega)) (h.imp (fun h => by omega) fun h => by rwa [show (k - 1).toNat = k.toNat - 1 by omega] at h)
        refine ⟨imp_f fun h => ?_, imp_t fun h => ?_⟩
        · rw [c_gtr_t] at h
          have g : arithR .sub .i64 k 1 = k - 1 := sub_i64 (by omega) (by omega)
          rw [g]
          have h9 : k - 1 < ((l.length : Nat) : Int) := by omega
          refine ⟨⟨by omega, h9⟩, imp_f fun hb => ?_, imp_t fun hb => ?_⟩
          · rw [c_eql_t] at hb
            have hm : m2 = (m2 - 1) + 1 := by omega
            have hc : k - 1 ≤ ((m2 - 1 : Nat) : Int) := by omega
            have hl : k - 1 ≤ ((N : Nat) : Int) := by omega
            have hz : ∀ j : Nat, k - 1 ≤ ((j : Nat) : Int) → l.getD j 0 = 0 := fun j hj => by
              by_cases e : ((j : Nat) : Int) = k - 1
              · have : j = (k - 1).toNat := by omega
                rw [this]; exact hb
              · exact q3 j (by omega)
            exact hX2 (m2 - 1) (k - 1, _, _) hm ⟨by omega, hl, hz, hc⟩
          · rw [c_eql_f] at hb
            refine ⟨⟨q1, by omega⟩, ?_⟩
            rw [fin (.inr hb), hval]
            simp only [kR, canon, canons, ekEq, numE, getW, getWord, allInts8, asInt, isK, kindEq, isArgB, strOf, cBig, cInts, cWords, allInts, allWords, r_ofLimbs, r_mkWord, Option.some.injEq, LV.wide.injEq, LV.word.injEq, LV.int.injEq, LV.bool.injEq, LV.str.injEq, LV.big.injEq, LV.tup.injEq, LV.agg.injEq, List.cons.injEq, and_true, true_and]
        · rw [c_gtr_f] at h
          refine ⟨⟨q1, by omega⟩, ?_⟩
          rw [fin (.inl (by omega)), hval]
          simp only [kR, canon, canons, ekEq, numE, getW, getWord, allInts8, asInt, isK, kindEq, isArgB, strOf, cBig, cInts, cWords, allInts, allWords, r_ofLimbs, r_mkWord, Option.some.injEq, LV.wide.injEq, LV.word.injEq, LV.int.injEq, LV.bool.injEq, LV.str.injEq, LV.big.injEq, LV.tup.injEq, LV.agg.injEq, List.cons.injEq, and_true, true_and]
    · refine ⟨?_, ?_, ?_⟩
      · show outP N (val64 x1 * 2 ^ x2.toNat) (List.replicate ((real.arith .add .i64 (real.arith .add .i64 (real.lenI x1) (real.arith .quo .i64 x2 64)) 1)).toNat 0) 0
        rw [hn, Int.toNat_natCast]
        exact outP_zero _ _
      · show (((List.replicate ((real.arith .add .i64 (real.arith .add .i64 (real.lenI x1) (real.arith .quo .i64 x2 64)) 1)).toNat (0 : Int)).length : Nat) : Int) = _
        rw [hn, List.length_replicate, Int.toNat_natCast]
      · show ((N : Nat) : Int) - 0 ≤ _
        omega
  · replace h : cmpR .gtr x2 65536 = false := h
    replace h2 : cmpR .lss x2 (-65536) = false := h2
    replace g : cmpR .geq x2 0 = false := g
    rw [c_gtr_f] at h
    rw [c_lss_f] at h2
    rw [c_geq_f] at g
    have eS : ropsLb.shf x1 x2 = lim (val64 x1 / 2 ^ (-x2).toNat) := by
      show lim (shfN (val64 x1) x2) = _
      unfold shfN
      rw [if_neg (by omega), if_neg (by omega)]
    have en : unR .neg .i64 x2 = -x2 := wrap_i64_of (by omega) (by omega)
    have ek : arithR .quo .i64 (-x2) 64 = (-x2) / 64 := quo64 (by omega) (by omega)
    have er : arithR .rem .i64 (-x2) 64 = (-x2) % 64 := rem64 (by omega)
    obtain ⟨N, hN⟩ : ∃ N, N = x1.length - ((-x2) / 64).toNat := ⟨_, rfl⟩
    have hn : (real.mx 0 (real.arith .sub .i64 (real.lenI x1) (real.arith .quo .i64 (real.un .neg .i64 x2) 64))) = ((N : Nat) : Int) := by
      show (if arithR .sub .i64 ((x1.length : Nat) : Int) (arithR .quo .i64 (unR .neg .i64 x2) 64) > 0 then arithR .sub .i64 ((x1.length : Nat) : Int) (arithR .quo .i64 (unR .neg .i64 x2) 64) else 0) = _
      rw [en, ek, sub_i64 (by omega) (by omega)]
      split <;> omega
    have hNl : N ≤ 102000 := by omega
    have hV : val64 x1 / 2 ^ (-x2).toNat < 2 ^ (64 * N) := by
      rw [Nat.div_lt_iff_lt_mul (Nat.two_pow_pos _), ← Nat.pow_add]
      exact Nat.lt_of_lt_of_le hlt (Nat.pow_le_pow_right (by decide) (by omega))
    rw [eS]
    refine ⟨by show 0 ≤ (real.mx 0 (real.arith .sub .i64 (real.lenI x1) (real.arith .quo .i64 (real.un .neg .i64 x2) 64))) ∧ (real.mx 0 (real.arith .sub .i64 (real.lenI x1) (real.arith .quo .i64 (real.un .neg .i64 x2) 64))) ≤ 1099511627776; rw [hn]; omega, ?_⟩
    refine loop_rule (α := List Int × Int × Int × Int) (fun p => ⟨[.int .i64 p.2.2.1, .fn 32 [.ptr 0 0, .ptr 18 0, .ptr 19 0], .undef, .undef, .undef, .own .u64 p.1, .undef, .undef, .undef, .undef, .int .i64 p.2.2.2, .int .i64 p.2.1, .undef, .undef, .undef, .undef, .undef, .undef, .undef, .undef, .undef, .undef, .undef], flagOn (ofL [some (slU, .ints .u64 x1), none, none, none, none, none, none, none, none, none, none, none, none, none, none, none, none, none, some (.int .i64, .int .i64 (real.arith .quo .i64 (real.un .neg .i64 x2) 64)), some (.int .i64, .int .i64 (real.arith .rem .i64 (real.un .neg .i64 x2) 64)), none, none, none, none, none, none, none, none, none, none, none, none, none, none, none, none, none]), 37⟩)
      (fun m p => outP N (val64 x1 / 2 ^ (-x2).toNat) p.1 p.2.1 ∧ p.2.2.2 = ((N : Nat) : Int) ∧ ((N : Nat) : Int) - p.2.1 ≤ ((m : Nat) : Int)) ?_ N (real.zerosI (real.mx 0 (real.arith .sub .i64 (real.lenI x1) (real.arith .quo .i64 (real.un .neg .i64 x2) 64))), 0, (real.mx 0 (real.arith .sub .i64 (real.lenI x1) (real.arith .quo .i64 (real.un .neg .i64 x2) 64))), real.lenI (real.zerosI (real.mx 0 (real.arith .sub .i64 (real.lenI x1) (real.arith .quo .i64 (real.un .neg .i64 x2) 64))))) ?_
    · rintro m ⟨l, i, n0, n1⟩ X ⟨h1, h3, h4⟩ hX
      (generalize hK : kR _ _ = K; generalize hO : real = O; generalize hS0 : rops = S0; generalize hS1 : ropsH = S1; generalize hS2 : ropsUm = S2; generalize hS3 : ropsLb = S3; set_option maxRecDepth 100000 in cbv; subst hO hK hS0 hS1 hS2 hS3)
      have g1 : outP N (val64 x1 / 2 ^ (-x2).toNat) l i := h1
      have g3 : n1 = ((N : Nat) : Int) := h3
      have g4 : ((N : Nat) : Int) - i ≤ ((m : Nat) : Int) := h4
      have g5 : N ≤ 102000 := hNl
      clear h1 h3 h4
      refine ⟨imp_f fun h => ?_, imp_t fun h => ?_⟩
      · replace h : cmpR .lss i n1 = true := h
        rw [c_lss_t] at h
        have hi0 : 0 ≤ i := g1.2.2.1
        have hlen : l.length = N := g1.1
        obtain ⟨i, rfl⟩ := Int.eq_ofNat_of_zero_le hi0
        have hm : m = (m - 1) + 1 := by omega
        have hc : ((N : Nat) : Int) - (((i : Nat) : Int) + 1) ≤ ((m - 1 : Nat) : Int) := by omega
        have hiN : ((i : Nat) : Int) < ((N : Nat) : Int) := by omega
        have e1 : arithR .add .i64 ((i : Nat) : Int) 1 = ((i : Nat) : Int) + 1 := add_i64 (by omega) (by omega)
        have e2 : arithR .add .i64 ((i : Nat) : Int) (arithR .quo .i64 (unR .neg .i64 x2) 64) = ((i : Nat) : Int) + (-x2) / 64 := by rw [en, ek]; exact add_i64 (by omega) (by omega)
        have e3 : arithR .add .i64 (((i : Nat) : Int) + (-x2) / 64) 1 = ((i : Nat) : Int) + (-x2) / 64 + 1 := add_i64 (by omega) (by omega)
        have e4 : arithR .sub .i64 64 (arithR .rem .i64 (unR .neg .i64 x2) 64) = 64 - (-x2) % 64 := by rw [en, er]; exact sub_i64 (by omega) (by omega)
        dsimp only [real, rops, ropsH, ropsUm, ropsLb]
        refine ⟨by rw [en, er]; omega, by rw [e4]; omega, ⟨hi0, by rw [hlen]; exact hiN⟩, ?_⟩
        refine hX (m - 1) (_, arithR .add .i64 ((i : Nat) : Int) 1, n0, n1) hm ⟨?_, g3, ?_⟩
        · dsimp only
          rw [e1]
          exact outP_step g1 hiN (by rw [e2, e3, e4, en, er, Int.toNat_natCast]; exact lim_shr (val64 x1) (by omega) (by omega) (by omega) i)
        · dsimp only
          rw [e1]
          exact hc
      · replace h : cmpR .lss i n1 = false := h
        rw [c_lss_f] at h
        have hval : val64 l = val64 x1 / 2 ^ (-x2).toNat := outP_end g1 (by omega) hV
        obtain ⟨hl, hrl, _⟩ := g1
        refine loop_rule (α := Int × LV × LV) (fun p => ⟨[.own .u64 l, .undef, .undef, .int .i64 p.1, .undef, .int .i64 (real.lenI l), .undef, .undef, .undef, .undef, p.2.1, p.2.2, .undef, .undef, .undef, .undef, .undef, .undef, .undef, .undef, .undef, .undef], flagOn (ofL [some (slU, .ints .u64 x1), none, none, none, none, none, none, none, none, none, none, none, none, none, none, none, none, none, some (.int .i64, .int .i64 (real.arith .quo .i64 (real.un .neg .i64 x2) 64)), some (.int .i64, .int .i64 (real.arith .rem .i64 (real.un .neg .i64 x2) 64)), none, none, none, none, none, none, none, none, none, none, none, none, none, none, none, none, none, none, none, none, none, none, none, none, none]), 45⟩)
          (fun m p => 0 ≤ p.1 ∧ p.1 ≤ ((N : Nat) : Int) ∧ (∀ j : Nat, p.1 ≤ (j : Int) → l.getD j 0 = 0) ∧ p.1 ≤ ((m : Nat) : Int)) ?_ N (((l.length : Nat) : Int), .undef, .undef) ⟨Int.natCast_nonneg _, by show ((l.length : Nat) : Int) ≤ _; omega, fun j hj => by
            have hj : ((l.length : Nat) : Int) ≤ (j : Int) := hj
            rw [List.getD_eq_getElem?_getD, List.getElem?_eq_none (by omega)]; rfl, by show ((l.length : Nat) : Int) ≤ _; omega⟩
        rintro m2 ⟨k, lv1, lv2⟩ X2 ⟨h1, h2, h3, h4⟩ hX2
        (generalize hK : kR _ _ = K; generalize hO : real = O; generalize hS0 : rops = S0; generalize hS1 : ropsH = S1; generalize hS2 : ropsUm = S2; generalize hS3 : ropsLb = S3; set_option maxRecDepth 100000 in cbv; subst hO hK hS0 hS1 hS2 hS3; dsimp only [real, rops, ropsH, ropsUm, ropsLb])
        have q1 : 0 ≤ k := h1
        have q2 : k ≤ ((N : Nat) : Int) := h2
        have q3 : ∀ j : Nat, k ≤ ((j : Nat) : Int) → l.getD j 0 = 0 := h3
        have q4 : k ≤ ((m2 : Nat) : Int) := h4
        have q5 : N ≤ 102000 := hNl
        clear h1 h2 h3 h4
        have fin : k = 0 ∨ l.getD (k - 1).toNat 0 ≠ 0 → l.take k.toNat = lim (val64 l) := fun h => trim_lim hrl (by omega) (fun i hi => q3 i (by omega)) (h.imp (fun h => by omega) fun h => by rwa [show (k - 1).toNat = k.toNat - 1 by omega] at h)
        refine ⟨imp_f fun h => ?_, imp_t fun h => ?_⟩
        · rw [c_gtr_t] at h
          have g : arithR .sub .i64 k 1 = k - 1 := sub_i64 (by omega) (by omega)
          rw [g]
          have h9 : k - 1 < ((l.length : Nat) : Int) := by omega
          refine ⟨⟨by omega, h9⟩, imp_f fun hb => ?_, imp_t fun hb => ?_⟩
          · rw [c_eql_t] at hb
            have hm : m2 = (m2 - 1) + 1 := by omega
            have hc : k - 1 ≤ ((m2 - 1 : Nat) : Int) := by omega
            have hl : k - 1 ≤ ((N : Nat) : Int) := by omega
            have hz : ∀ j : Nat, k - 1 ≤ ((j : Nat) : Int) → l.getD j 0 = 0 := fun j hj => by
              by_cases e : ((j : Nat) : Int) = k - 1
              · have : j = (k - 1).toNat := by omega
                rw [this]; exact hb
              · exact q3 j (by omega)
            exact hX2 (m2 - 1) (k - 1, _, _) hm ⟨by omega, hl, hz, hc⟩
          · rw [c_eql_f] at hb
            refine ⟨⟨q1, by omega⟩, ?_⟩
            rw [fin (.inr hb), hval]
            simp only [kR, canon, canons, ekEq, numE, getW, getWord, allInts8, asInt, isK, kindEq, isArgB, strOf, cBig, cInts, cWords, allInts, allWords, r_ofLimbs, r_mkWord, Option.some.injEq, LV.wide.injEq, LV.word.injEq, LV.int.injEq, LV.bool.injEq, LV.str.injEq, LV.big.injEq, LV.tup.injEq, LV.agg.injEq, List.cons.injEq, and_true, true_and]
        · rw [c_gtr_f] at h
          refine ⟨⟨q1, by omega⟩, ?_⟩
          rw [fin (.inl (by omega)), hval]
          simp only [kR, canon, canons, ekEq, numE, getW, getWord, allInts8, asInt, isK, kindEq, isArgB, strOf, cBig, cInts, cWords, allInts, allWords, r_ofLimbs, r_mkWord, Option.some.injEq, LV.wide.injEq, LV.word.injEq, LV.int.injEq, LV.bool.injEq, LV.str.injEq, LV.big.injEq, LV.tup.injEq, LV.agg.injEq, List.cons.injEq, and_true, true_and]
    · refine ⟨?_, ?_, ?_⟩
      · show outP N (val64 x1 / 2 ^ (-x2).toNat) (List.replicate ((real.mx 0 (real.arith .sub .i64 (real.lenI x1) (real.arith .quo .i64 (real.un .neg .i64 x2) 64)))).toNat 0) 0
        rw [hn, Int.toNat_natCast]
        exact outP_zero _ _
      · show (((List.replicate ((real.mx 0 (real.arith .sub .i64 (real.lenI x1) (real.arith .quo .i64 (real.un .neg .i64 x2) 64)))).toNat (0 : Int)).length : Nat) : Int) = _
        rw [hn, List.length_replicate, Int.toNat_natCast]
      · show ((N : Nat) : Int) - 0 ≤ _
        omega
end Go.LE