import Derived.Test.YtbbggnihogcjcaaW52
import Derived.Test.YtbbggnihogcjcaaLeY
set_option linter.unusedVariables false
set_option linter.unusedSimpArgs false
namespace Go.LE
open Go Go.Proofs
structure OpsLc where
  cut : List Int → List Int
  bits : List Int → List Int
  limbs : List Int → List Int
  bsh : List Int → Int → List Int
  short : List Int → Prop
  short2 : List Int → Prop
  near : Int → Prop
noncomputable def ropsLc : OpsLc where
  cut := fun l => bis (val2 l)
  bits := fun l => bis (val64 l)
  limbs := fun l => lim (val2 l)
  bsh := fun l n => bis (shfN (val2 l) n)
  short := fun l => l.length ≤ 100000
  short2 := fun l => l.length ≤ 10000000
  near := fun n => -65536 ≤ n ∧ n ≤ 65536
def s_bcut (S : OpsLc) : List LV → R LV
  | [.ints _ l] => .ok (.ints .bool (S.cut l))
  | _ => .fail
def s_bbits (S : OpsLc) : List LV → R LV
  | [.ints _ l] => .req (S.short l) (.ok (.ints .bool (S.bits l)))
  | _ => .fail
def s_blimbs (S : OpsLc) : List LV → R LV
  | [.ints _ l] => .req (S.short2 l) (.ok (.ints .u64 (S.limbs l)))
  | _ => .fail
def s_bshift (S : OpsLc) : List LV → R LV
  | [.ints _ l, .int _ n] => .req (S.short2 l) (.req (S.near n) (.ok (.ints .bool (S.bsh l n))))
  | _ => .fail
theorem quo_pow {a k : Nat} (ha : a < 18446744073709551616) : arithR .quo .u64 ((a : Nat) : Int) ((2 ^ k : Nat) : Int) = ((a / 2 ^ k : Nat) : Int) := by
  have h1 : a / 2 ^ k < 18446744073709551616 := Nat.lt_of_le_of_lt (Nat.div_le_self _ _) ha
  show IntKind.u64.wrap (Int.tdiv _ _) = _
  rw [← Int.ofNat_tdiv]
  generalize a / 2 ^ k = q at *
  exact wrap_u64_of (by omega) (by omega)
theorem digit_el {V i : Nat} {k : Int} (h0 : 0 ≤ k) (hk : k < 64) : (bif cmpR .eql (arithR .rem .u64 (arithR .quo .u64 (limA V i) (arithR .shl .u64 1 k)) 2) 1 then (1 : Int) else 0) = bitI V (64 * i + k.toNat) := by
  rw [shl_one ⟨h0, hk⟩]
  have hr := limA_rng V i
  have e1 : limA V i = (((limA V i).toNat : Nat) : Int) := by omega
  have e2 := limA_digit V i (k := k.toNat) (by omega)
  rw [e1, quo_pow (by omega), rem2_nat, e2, bitI_mod]
  rcases Nat.mod_two_eq_zero_or_one (V / 2 ^ (64 * i + k.toNat)) with h | h <;> rw [h] <;> rfl
theorem p_bcut : SpecOk Try.prog globs 28 (mkSpec real [.ints .bool] (s_bcut ropsLc)) := by
  have hfns : FnsOk Try.prog globs [] := fnsNil
  refine specL (fun _ => [0,3]) hfns (by kernel_rfl) Try.func28 (by kernel_rfl) (by kernel_rfl) (by kernel_rfl) 4 _ _ (.ints .bool) ?_
  clear hfns
  generalize hEE : envL (fun _ => [0,3]) [] = EE
  intro l r hl hr
  simp only [Forms, Form] at hl
  obtain ⟨_, _, rfl, ⟨x1, rfl, x1all, x1len⟩, rfl⟩ := hl
  subst hEE
  generalize hK : kR (.ints .bool) r = K
  generalize hO : real = O
  set_option maxRecDepth 100000 in cbv
  have hr : r = _ := hr.symm
  subst hO hK 
  subst hr
  have hrng : rng2 x1 := x1all
  refine loop_rule (α := Int) (fun k => ⟨[.ints .bool x1, .undef, .undef, .int .i64 k, .undef, .undef, .undef, .undef, .undef, .undef, .undef, .undef, .undef, .undef, .undef, .undef, .undef, .undef, .undef, .undef, .undef], ofL [none, none, none, none], 4⟩)
    (fun m k => 0 ≤ k ∧ k ≤ ((x1.length : Nat) : Int) ∧ (∀ j : Nat, k ≤ (j : Int) → x1.getD j 0 = 0) ∧ k ≤ ((m : Nat) : Int)) ?_ x1.length (real.lenI x1) ⟨Int.natCast_nonneg _, Int.le_refl _, fun j hj => by
      have hj : ((x1.length : Nat) : Int) ≤ (j : Int) := hj
      rw [List.getD_eq_getElem?_getD, List.getElem?_eq_none (by omega)]; rfl, Int.le_refl _⟩
  rintro m k X ⟨h1, h2, h3, h4⟩ hX
  (generalize hK : kR _ _ = K; generalize hO : real = O; set_option maxRecDepth 100000 in cbv; subst hO hK ; dsimp only [real, rops, ropsH, ropsUm, ropsLb, ropsLm, ropsLc])
  have h5 : k ≤ ((m : Nat) : Int) := h4
  have h6 : k ≤ ((x1.length : Nat) : Int) := h2
  have h7 : ((x1.length : Nat) : Int) < 4611686018427387904 := x1len
  have h8 : ∀ j : Nat, k ≤ ((j : Nat) : Int) → x1.getD j 0 = 0 := h3
  clear h4 h2 h3 x1len
  have fin : k = 0 ∨ x1.getD (k - 1).toNat 0 ≠ 0 → x1.take k.toNat = bis (val2 x1) := fun h => trim_bis hrng (by omega) (fun i hi => h8 i (by omega)) (h.imp (fun h => by omega) fun h => by rwa [show (k - 1).toNat = k.toNat - 1 by omega] at h)
  refine ⟨imp_f fun h => ?_, imp_t fun h => ?_⟩
  · rw [c_gtr_t] at h
    have g : arithR .sub .i64 k 1 = k - 1 := sub_i64 (by omega) (by omega)
    rw [g]
    have h9 : k - 1 < ((x1.length : Nat) : Int) := by omega
    have hd := bitI_rng (val2 x1) (k - 1).toNat
    rw [← val2_get x1 _ hrng] at hd
    refine ⟨⟨by omega, h9⟩, imp_f fun hb => ?_, imp_t fun hb => ?_⟩
    · rw [Bool.not_eq_true', c_eql_f] at hb
      have hb : x1.getD (k - 1).toNat 0 = 0 := by omega
      have hm : m = (m - 1) + 1 := by omega
      have hc : k - 1 ≤ ((m - 1 : Nat) : Int) := by omega
      have hl : k - 1 ≤ ((x1.length : Nat) : Int) := by omega
      have hz : ∀ j : Nat, k - 1 ≤ ((j : Nat) : Int) → x1.getD j 0 = 0 := fun j hj => by
        by_cases e : ((j : Nat) : Int) = k - 1
        · have : j = (k - 1).toNat := by omega
          rw [this]; exact hb
        · exact h8 j (by omega)
      have := hX (m - 1) (k - 1) hm ⟨by omega, hl, hz, hc⟩
      exact this
    · rw [Bool.not_eq_false', c_eql_t] at hb
      refine ⟨⟨h1, h6⟩, ?_⟩
      rw [fin (.inr (by omega))]
      simp only [kR, canon, canons, ekEq, numE, getW, getWord, allInts8, asInt, isK, kindEq, isArgB, strOf, cBig, cInts, cWords, allInts, allWords, r_ofLimbs, r_mkWord, Option.some.injEq, LV.wide.injEq, LV.word.injEq, LV.int.injEq, LV.bool.injEq, LV.str.injEq, LV.big.injEq, LV.tup.injEq, LV.agg.injEq, List.cons.injEq, and_true, true_and]
  · rw [c_gtr_f] at h
    refine ⟨⟨h1, h6⟩, ?_⟩
    rw [fin (.inl (by omega))]
    simp only [kR, canon, canons, ekEq, numE, getW, getWord, allInts8, asInt, isK, kindEq, isArgB, strOf, cBig, cInts, cWords, allInts, allWords, r_ofLimbs, r_mkWord, Option.some.injEq, LV.wide.injEq, LV.word.injEq, LV.int.injEq, LV.bool.injEq, LV.str.injEq, LV.big.injEq, LV.tup.injEq, LV.agg.injEq, List.cons.injEq, and_true, true_and]
theorem p_bbits : SpecOk Try.prog globs 8 (mkSpec real [.ints .u64] (s_bbits ropsLc)) := by
  have hfns : FnsOk Try.prog globs [(28, .spec (mkSpec real [.ints .bool] (s_bcut ropsLc)))] := (fnsCons (fnSpec (p_bcut)) fnsNil)
  refine specL (fun c => match c with | 0 => [0,3,4,300003] | 2 => [0,3,4,5] | _ => []) hfns (by kernel_rfl) Try.func8 (by kernel_rfl) (by kernel_rfl) (by kernel_rfl) 4 _ _ (.ints .bool) ?_
  clear hfns
  generalize hEE : envL (fun c => match c with | 0 => [0,3,4,300003] | 2 => [0,3,4,5] | _ => []) [(28, .spec (mkSpec real [.ints .bool] (s_bcut ropsLc)))] = EE
  intro l r hl hr
  simp only [Forms, Form] at hl
  obtain ⟨_, _, rfl, ⟨x1, rfl, x1all, x1len⟩, rfl⟩ := hl
  subst hEE
  generalize hK : kR (.ints .bool) r = K
  generalize hO : real = O
  generalize hS0 : rops = S0
  generalize hS1 : ropsH = S1
  generalize hS2 : ropsUm = S2
  generalize hS3 : ropsLb = S3
  generalize hS4 : ropsLm = S4
  generalize hS5 : ropsLc = S5
  set_option maxRecDepth 100000 in cbv
  obtain ⟨hs1, hr⟩ := hr
  have hr : r = _ := hr.symm
  subst hO hK hS0 hS1 hS2 hS3 hS4 hS5
  subst hr
  have hrng := rng64_of x1all
  have l1 : x1.length ≤ 100000 := hs1
  clear x1len hs1 x1all
  refine loop_rule (α := List Int × Int) (fun p => ⟨[.ints .u64 x1, .undef, .undef, .own .bool p.1, .int .i64 p.2, .undef, .undef, .undef, .undef, .undef, .undef, .undef, .undef, .undef, .undef, .undef, .undef, .undef, .undef, .undef, .undef, .undef, .undef, .undef, .undef, .undef, .undef, .undef, .undef, .undef], flagOn (ofL [none, none, none]), 3⟩)
    (fun m p => bitP (val64 x1) p.1 ∧ ((p.1.length : Nat) : Int) = 64 * p.2 ∧ 0 ≤ p.2 ∧ p.2 ≤ ((x1.length : Nat) : Int) ∧ ((x1.length : Nat) : Int) - p.2 ≤ ((m : Nat) : Int)) ?_ x1.length ([], 0) ⟨bitP_nil _, rfl, by decide, Int.natCast_nonneg _, by show _ - (0 : Int) ≤ _; omega⟩
  rintro m ⟨l, i⟩ X ⟨h1, h2, h3, h4, h5⟩ hX
  (generalize hK : kR _ _ = K; generalize hO : real = O; generalize hS0 : rops = S0; generalize hS1 : ropsH = S1; generalize hS2 : ropsUm = S2; generalize hS3 : ropsLb = S3; generalize hS4 : ropsLm = S4; generalize hS5 : ropsLc = S5; set_option maxRecDepth 100000 in cbv; subst hO hK hS0 hS1 hS2 hS3 hS4 hS5)
  have g1 : bitP (val64 x1) l := h1
  have g2 : ((l.length : Nat) : Int) = 64 * i := h2
  have g3 : 0 ≤ i := h3
  have g4 : i ≤ ((x1.length : Nat) : Int) := h4
  have g5 : ((x1.length : Nat) : Int) - i ≤ ((m : Nat) : Int) := h5
  clear h1 h2 h3 h4 h5
  refine ⟨imp_f fun h => ?_, imp_t fun h => ?_⟩
  · replace h : cmpR .lss i ((x1.length : Nat) : Int) = true := h
    rw [c_lss_t] at h
    refine loop_rule (α := List Int × Int) (fun p => ⟨[.ints .u64 x1, .undef, .undef, .own .bool p.1, .int .i64 i, .int .i64 p.2, .undef, .undef, .undef, .undef, .undef, .undef, .undef, .undef, .undef, .undef, .undef, .undef, .undef, .undef, .undef, .undef, .undef, .undef, .undef, .undef, .undef, .undef, .undef, .undef], flagOn (ofL [none, none, none, none, none, none, none, none]), 8⟩)
      (fun m p => bitP (val64 x1) p.1 ∧ ((p.1.length : Nat) : Int) = 64 * i + p.2 ∧ 0 ≤ p.2 ∧ p.2 ≤ 64 ∧ 64 - p.2 ≤ ((m : Nat) : Int)) ?_ 64 (l, 0) ⟨g1, by show ((l.length : Nat) : Int) = 64 * i + 0; omega, Int.le_refl 0, by show (0 : Int) ≤ 64; decide, by show 64 - (0 : Int) ≤ _; decide⟩
    rintro m2 ⟨l, k⟩ X2 ⟨h1, h2, h3, h4, h5⟩ hX2
    (generalize hK : kR _ _ = K; generalize hO : real = O; generalize hS0 : rops = S0; generalize hS1 : ropsH = S1; generalize hS2 : ropsUm = S2; generalize hS3 : ropsLb = S3; generalize hS4 : ropsLm = S4; generalize hS5 : ropsLc = S5; set_option maxRecDepth 100000 in cbv; subst hO hK hS0 hS1 hS2 hS3 hS4 hS5)
    have q1 : bitP (val64 x1) l := h1
    have q2 : ((l.length : Nat) : Int) = 64 * i + k := h2
    have q3 : 0 ≤ k := h3
    have q4 : k ≤ 64 := h4
    have q5 : 64 - k ≤ ((m2 : Nat) : Int) := h5
    have q6 : x1.length ≤ 100000 := l1
    have w1 : i < ((x1.length : Nat) : Int) := h
    have w2 : ((x1.length : Nat) : Int) - i ≤ ((m : Nat) : Int) := g5
    have w3 : 0 ≤ i := g3
    clear h1 h2 h3 h4 h5 h g5 g3 g4 g2 l1
    refine ⟨imp_f fun hk => ?_, imp_t fun hk => ?_⟩
    · replace hk : cmpR .lss k 64 = true := hk
      rw [c_lss_t] at hk
      dsimp only [real, rops, ropsH, ropsUm, ropsLb, ropsLm, ropsLc]
      have e1 : arithR .add .i64 k 1 = k + 1 := add_i64 (by omega) (by omega)
      have hp := Nat.two_pow_pos k.toNat
      have hm : m2 = (m2 - 1) + 1 := by omega
      have hc1 : (((l.length + 1 : Nat)) : Int) = 64 * i + (k + 1) := by omega
      have hc2 : 64 - (k + 1) ≤ ((m2 - 1 : Nat) : Int) := by omega
      refine ⟨⟨w3, w1⟩, q3, by rw [shl_one ⟨q3, hk⟩]; omega, by simp only [List.length_cons, List.length_nil]; omega, ?_⟩
      refine hX2 (m2 - 1) (_, arithR .add .i64 k 1) hm ⟨bitP_app q1 ?_, ?_, ?_, ?_, ?_⟩
      · rw [val64_get _ _ hrng, digit_el q3 hk]
        congr 1
        omega
      · rw [List.length_append]
        dsimp only
        rw [e1]
        exact hc1
      · dsimp only; rw [e1]; omega
      · dsimp only; rw [e1]; omega
      · dsimp only; rw [e1]; exact hc2
    · replace hk : cmpR .lss k 64 = false := hk
      rw [c_lss_f] at hk
      have e1 : real.arith .add .i64 i 1 = i + 1 := add_i64 (by omega) (by omega)
      have hm : m = (m - 1) + 1 := by omega
      have hc1 : ((l.length : Nat) : Int) = 64 * (i + 1) := by omega
      have hc2 : ((x1.length : Nat) : Int) - (i + 1) ≤ ((m - 1 : Nat) : Int) := by omega
      have hc3 : i + 1 ≤ ((x1.length : Nat) : Int) := by omega
      have := hX (m - 1) (l, i + 1) hm ⟨q1, hc1, by show 0 ≤ i + 1; omega, hc3, hc2⟩
      rw [← e1] at this
      exact this
  · replace h : cmpR .lss i ((x1.length : Nat) : Int) = false := h
    rw [c_lss_f] at h
    have hv : val2 l = val64 x1 := bitP_end g1 (by
      rw [show l.length = 64 * x1.length by omega]
      exact val64_lt x1 hrng)
    show kR (AT.ints .bool) (LV.ints .bool (bis (val64 x1))) (LV.ints .bool (bis (val2 l)))
    rw [hv]
    simp only [kR, canon, canons, ekEq, numE, getW, getWord, allInts8, asInt, isK, kindEq, isArgB, strOf, cBig, cInts, cWords, allInts, allWords, r_ofLimbs, r_mkWord, Option.some.injEq, LV.wide.injEq, LV.word.injEq, LV.int.injEq, LV.bool.injEq, LV.str.injEq, LV.big.injEq, LV.tup.injEq, LV.agg.injEq, List.cons.injEq, and_true, true_and]
theorem p_bshift : SpecOk Try.prog globs 10 (mkSpec real [.ints .bool, .int .i64] (s_bshift ropsLc)) := by
  have hfns : FnsOk Try.prog globs [(28, .spec (mkSpec real [.ints .bool] (s_bcut ropsLc)))] := (fnsCons (fnSpec (p_bcut)) fnsNil)
  refine spec0 hfns (by kernel_rfl) Try.func10 (by kernel_rfl) (by kernel_rfl) (by kernel_rfl) 4 _ _ (.ints .bool) ?_
  clear hfns
  generalize hEE : env0 [(28, .spec (mkSpec real [.ints .bool] (s_bcut ropsLc)))] = EE
  intro l r hl hr
  simp only [Forms, Form] at hl
  obtain ⟨_, _, rfl, ⟨x1, rfl, x1all, x1len⟩, _, _, rfl, ⟨x2, rfl, x2lo, x2hi⟩, rfl⟩ := hl
  subst hEE
  generalize hK : kR (.ints .bool) r = K
  generalize hO : real = O
  generalize hS0 : rops = S0
  generalize hS1 : ropsH = S1
  generalize hS2 : ropsUm = S2
  generalize hS3 : ropsLb = S3
  generalize hS4 : ropsLm = S4
  generalize hS5 : ropsLc = S5
  set_option maxRecDepth 100000 in cbv
  subst hO hK hS0 hS1 hS2 hS3 hS4 hS5
  simp only [s_bshift, R.Y] at hr
  try dsimp only [real, rops, ropsH, ropsUm, ropsLb, ropsLm, ropsLc]
  obtain ⟨hs, hn, hr⟩ := hr
  subst hr
  dsimp only [ropsLc]
  have hrng : rng2 x1 := x1all
  replace hs : x1.length ≤ 10000000 := hs
  replace hn : -65536 ≤ x2 ∧ x2 ≤ 65536 := hn
  have hlt := val2_lt x1 hrng
  have en : unR .neg .i64 x2 = -x2 := wrap_i64_of (by omega) (by omega)
  rw [en]
  refine ⟨imp_f fun h => ⟨⟨?_, by omega⟩, by simp only [List.length_replicate]; omega, ?_⟩, imp_t fun h => ⟨imp_f fun g => ?_, imp_t fun g => ⟨⟨?_, ?_⟩, ?_⟩⟩⟩
  · rw [c_geq_t] at h; exact h
  · rw [c_geq_t] at h
    rw [val2_append, val2_nought, Nat.zero_add, List.length_replicate]
    unfold shfN
    rw [if_neg (by omega), if_pos h, Nat.mul_comm]
    simp only [kR, canon, canons, ekEq, numE, getW, getWord, allInts8, asInt, isK, kindEq, isArgB, strOf, cBig, cInts, cWords, allInts, allWords, r_ofLimbs, r_mkWord, Option.some.injEq, LV.wide.injEq, LV.word.injEq, LV.int.injEq, LV.bool.injEq, LV.str.injEq, LV.big.injEq, LV.tup.injEq, LV.agg.injEq, List.cons.injEq, and_true, true_and]
  · rw [c_geq_f] at h
    rw [c_geq_t] at g
    have e : shfN (val2 x1) x2 = 0 := by
      unfold shfN
      rw [if_neg (by omega), if_neg (by omega)]
      exact Nat.div_eq_of_lt (Nat.lt_of_lt_of_le hlt (Nat.pow_le_pow_right (by decide) (by omega)))
    rw [e]
    rfl
  · rw [c_geq_f] at h; omega
  · rw [c_geq_f] at g; omega
  · rw [c_geq_f] at h g
    rw [val2_drop x1 hrng _ (by omega)]
    unfold shfN
    rw [if_neg (by omega), if_neg (by omega)]
    simp only [kR, canon, canons, ekEq, numE, getW, getWord, allInts8, asInt, isK, kindEq, isArgB, strOf, cBig, cInts, cWords, allInts, allWords, r_ofLimbs, r_mkWord, Option.some.injEq, LV.wide.injEq, LV.word.injEq, LV.int.injEq, LV.bool.injEq, LV.str.injEq, LV.big.injEq, LV.tup.injEq, LV.agg.injEq, List.cons.injEq, and_true, true_and]
theorem p_blimbs : SpecOk Try.prog globs 9 (mkSpec real [.ints .bool] (s_blimbs ropsLc)) := by
  have hfns : FnsOk Try.prog globs [(28, .spec (mkSpec real [.ints .bool] (s_bcut ropsLc)))] := (fnsCons (fnSpec (p_bcut)) fnsNil)
  refine specL (fun _ => [0,3,4,200003]) hfns (by kernel_rfl) Try.func9 (by kernel_rfl) (by kernel_rfl) (by kernel_rfl) 4 _ _ (.ints .u64) ?_
  clear hfns
  generalize hEE : envL (fun _ => [0,3,4,200003]) [(28, .spec (mkSpec real [.ints .bool] (s_bcut ropsLc)))] = EE
  intro l r hl hr
  simp only [Forms, Form] at hl
  obtain ⟨_, _, rfl, ⟨x1, rfl, x1all, x1len⟩, rfl⟩ := hl
  subst hEE
  generalize hK : kR (.ints .u64) r = K
  generalize hO : real = O
  generalize hS0 : rops = S0
  generalize hS1 : ropsH = S1
  generalize hS2 : ropsUm = S2
  generalize hS3 : ropsLb = S3
  generalize hS4 : ropsLm = S4
  generalize hS5 : ropsLc = S5
  set_option maxRecDepth 100000 in cbv
  obtain ⟨hs, hr⟩ := hr
  have hr : r = _ := hr.symm
  subst hO hK hS0 hS1 hS2 hS3 hS4 hS5
  subst hr
  have hrng : rng2 x1 := x1all
  have l1 : x1.length ≤ 10000000 := hs
  clear x1len hs x1all
  have hbl := bis_bitN (val2 x1)
  have hbn : bitN (val2 x1) ≤ 10000000 := Nat.le_trans (bitN_le.2 (val2_lt x1 hrng)) l1
  refine loop_rule (α := List Int × Int) (fun p => ⟨[.ints .bool (ropsLc.cut x1), .undef, .undef, .own .u64 p.1, .int .i64 p.2, .undef, .undef, .undef, .undef, .undef, .undef, .undef, .undef, .undef, .undef, .undef, .undef, .undef, .undef, .undef, .undef, .undef, .undef, .undef, .undef, .undef, .undef, .undef, .undef, .undef, .undef, .undef, .undef, .undef, .undef, .undef, .undef], flagOn (ofL [none, none, none, none, none, none]), 6⟩)
    (fun m p => 0 ≤ p.2 ∧ limP (val2 x1) p.1 p.2.toNat ∧ p.2 ≤ ((bitN (val2 x1) : Nat) : Int) ∧ ((bitN (val2 x1) : Nat) : Int) - p.2 ≤ ((m : Nat) : Int)) ?_ (bitN (val2 x1)) ([], 0) ⟨Int.le_refl 0, limP_zero _, Int.natCast_nonneg _, by show _ - (0 : Int) ≤ _; omega⟩
  rintro m ⟨l, i⟩ X ⟨h1, h2, h3, h4⟩ hX
  (generalize hK : kR _ _ = K; generalize hO : real = O; generalize hS0 : rops = S0; generalize hS1 : ropsH = S1; generalize hS2 : ropsUm = S2; generalize hS3 : ropsLb = S3; generalize hS4 : ropsLm = S4; generalize hS5 : ropsLc = S5; set_option maxRecDepth 100000 in cbv; subst hO hK hS0 hS1 hS2 hS3 hS4 hS5; dsimp only [real, rops, ropsH, ropsUm, ropsLb, ropsLm, ropsLc])
  have g1 : 0 ≤ i := h1
  have g2 : limP (val2 x1) l i.toNat := h2
  have g3 : i ≤ ((bitN (val2 x1) : Nat) : Int) := h3
  have g4 : ((bitN (val2 x1) : Nat) : Int) - i ≤ ((m : Nat) : Int) := h4
  have g5 : bitN (val2 x1) ≤ 10000000 := hbn
  clear h1 h2 h3 h4 hbn
  have eq : arithR .quo .i64 i 64 = i / 64 := quo64 g1 (by omega)
  have er : arithR .rem .i64 i 64 = i % 64 := rem64 g1
  have e1 : arithR .add .i64 i 1 = i + 1 := add_i64 (by omega) (by omega)
  refine ⟨imp_f fun h => ?_, imp_t fun h => ?_⟩
  · rw [c_lss_t, hbl] at h
    have hm : m = (m - 1) + 1 := by omega
    have hc : ((bitN (val2 x1) : Nat) : Int) - (i + 1) ≤ ((m - 1 : Nat) : Int) := by omega
    have hc3 : i + 1 ≤ ((bitN (val2 x1) : Nat) : Int) := by omega
    have h' : i < (((bis (val2 x1)).length : Nat) : Int) := by rw [hbl]; exact h
    refine ⟨imp_f fun hz => ?_, imp_t fun hz => ?_⟩
    · rw [c_eql_t, er] at hz
      have hq := limQ_grow g2 (by omega)
      refine ⟨by have := g2.2.1; simp only [List.length_cons, List.length_nil]; omega, ⟨g1, h'⟩, imp_f fun hb => ⟨⟨?_, ?_⟩, ?_, ⟨?_, ?_⟩, ?_⟩, imp_t fun hb => ?_⟩
      · rw [eq]; omega
      · rw [eq, hq.2.1]; omega
      · rw [er]; omega
      · rw [eq]; omega
      · rw [eq, hq.2.1]; omega
      · rw [c_eql_t, bis_get] at hb
        obtain ⟨⟨y1, y2⟩, y3⟩ := limQ_yes hq hb
        have ev : arithR .add .u64 ((l ++ [0]).getD (arithR .quo .i64 i 64).toNat 0) (arithR .shl .u64 1 (arithR .rem .i64 i 64)) = (l ++ [0]).getD (i.toNat / 64) 0 + ((2 ^ (i.toNat % 64) : Nat) : Int) := by
          rw [eq, er, shl_one (by omega), show (i / 64).toNat = i.toNat / 64 by omega, show (i % 64).toNat = i.toNat % 64 by omega]
          exact add_u64' (Int.add_nonneg y1 (Int.natCast_nonneg _)) y2
        refine hX (m - 1) (_, arithR .add .i64 i 1) hm ⟨?_, ?_, ?_, ?_⟩
        · dsimp only; rw [e1]; omega
        · dsimp only; rw [e1, ev, eq, show (i / 64).toNat = i.toNat / 64 by omega, show (i + 1).toNat = i.toNat + 1 by omega]; exact y3
        · dsimp only; rw [e1]; exact hc3
        · dsimp only; rw [e1]; exact hc
      · rw [c_eql_f, bis_get] at hb
        have hb0 : bitI (val2 x1) i.toNat = 0 := (bitI_rng _ _).resolve_right hb
        refine hX (m - 1) (_, arithR .add .i64 i 1) hm ⟨?_, ?_, ?_, ?_⟩
        · dsimp only; rw [e1]; omega
        · dsimp only; rw [e1, show (i + 1).toNat = i.toNat + 1 by omega]; exact limQ_no hq hb0
        · dsimp only; rw [e1]; exact hc3
        · dsimp only; rw [e1]; exact hc
    · rw [c_eql_f, er] at hz
      have hq := limQ_same g2 (by omega)
      refine ⟨⟨g1, h'⟩, imp_f fun hb => ⟨⟨?_, ?_⟩, ?_, ⟨?_, ?_⟩, ?_⟩, imp_t fun hb => ?_⟩
      · rw [eq]; omega
      · rw [eq, hq.2.1]; omega
      · rw [er]; omega
      · rw [eq]; omega
      · rw [eq, hq.2.1]; omega
      · rw [c_eql_t, bis_get] at hb
        obtain ⟨⟨y1, y2⟩, y3⟩ := limQ_yes hq hb
        have ev : arithR .add .u64 ((l).getD (arithR .quo .i64 i 64).toNat 0) (arithR .shl .u64 1 (arithR .rem .i64 i 64)) = (l).getD (i.toNat / 64) 0 + ((2 ^ (i.toNat % 64) : Nat) : Int) := by
          rw [eq, er, shl_one (by omega), show (i / 64).toNat = i.toNat / 64 by omega, show (i % 64).toNat = i.toNat % 64 by omega]
          exact add_u64' (Int.add_nonneg y1 (Int.natCast_nonneg _)) y2
        refine hX (m - 1) (_, arithR .add .i64 i 1) hm ⟨?_, ?_, ?_, ?_⟩
        · dsimp only; rw [e1]; omega
        · dsimp only; rw [e1, ev, eq, show (i / 64).toNat = i.toNat / 64 by omega, show (i + 1).toNat = i.toNat + 1 by omega]; exact y3
        · dsimp only; rw [e1]; exact hc3
        · dsimp only; rw [e1]; exact hc
      · rw [c_eql_f, bis_get] at hb
        have hb0 : bitI (val2 x1) i.toNat = 0 := (bitI_rng _ _).resolve_right hb
        refine hX (m - 1) (_, arithR .add .i64 i 1) hm ⟨?_, ?_, ?_, ?_⟩
        · dsimp only; rw [e1]; omega
        · dsimp only; rw [e1, show (i + 1).toNat = i.toNat + 1 by omega]; exact limQ_no hq hb0
        · dsimp only; rw [e1]; exact hc3
        · dsimp only; rw [e1]; exact hc
  · rw [c_lss_f, hbl] at h
    have hi : i.toNat = bitN (val2 x1) := by omega
    rw [hi] at g2
    rw [limP_end g2]
    simp only [kR, canon, canons, ekEq, numE, getW, getWord, allInts8, asInt, isK, kindEq, isArgB, strOf, cBig, cInts, cWords, allInts, allWords, r_ofLimbs, r_mkWord, Option.some.injEq, LV.wide.injEq, LV.word.injEq, LV.int.injEq, LV.bool.injEq, LV.str.injEq, LV.big.injEq, LV.tup.injEq, LV.agg.injEq, List.cons.injEq, and_true, true_and]
end Go.LE