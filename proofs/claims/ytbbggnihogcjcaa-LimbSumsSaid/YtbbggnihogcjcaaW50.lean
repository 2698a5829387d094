import Derived.Test.YtbbggnihogcjcaaW13m
import Derived.Test.YtbbggnihogcjcaaLeY
set_option linter.unusedVariables false
set_option linter.unusedSimpArgs false
namespace Go.LE
open Go Go.Proofs
structure OpsLb where
  lz : List Int → Int → Int
  tr : List Int → List Int
  len : List Int → Int
  less : List Int → List Int → Bool
  same : List Int → List Int → Bool
  sum : List Int → List Int → List Int
  shf : List Int → Int → List Int
  short : List Int → Prop
  bit : List Int → Int → Bool
def shfN (a : Nat) (n : Int) : Nat := if n > 65536 ∨ n < -65536 then 0 else if 0 ≤ n then a * 2 ^ n.toNat else a / 2 ^ (-n).toNat
noncomputable def ropsLb : OpsLb where
  lz := fun l i => limZ (val64 l) i
  tr := fun l => lim (val64 l)
  len := fun l => ((bitN (val64 l) : Nat) : Int)
  less := fun a b => decide (val64 a < val64 b)
  same := fun a b => decide (a = b)
  sum := fun a b => lim (val64 a + val64 b)
  shf := fun l n => lim (shfN (val64 l) n)
  short := fun l => l.length ≤ 100000
  bit := fun l n => decide (0 ≤ n) && (val64 l).testBit n.toNat
def s_lat (S : OpsLb) : List LV → R LV
  | [.ints _ l, .int _ i] => .ok (.int .u64 (S.lz l i))
  | _ => .fail
def s_ltrim (S : OpsLb) : List LV → R LV
  | [.ints _ l] => .ok (.ints .u64 (S.tr l))
  | _ => .fail
def s_lLen (S : OpsLb) : List LV → R LV
  | [.ints _ l] => .req (S.short l) (.ok (.int .i64 (S.len l)))
  | _ => .fail
def s_lLess (S : OpsLb) : List LV → R LV
  | [.ints _ a, .ints _ b] => .ok (.bool (S.less a b))
  | _ => .fail
def s_lsame (S : OpsLb) : List LV → R LV
  | [.ints _ a, .ints _ b] => .ok (.bool (S.same a b))
  | _ => .fail
def s_lBit (S : OpsLb) : List LV → R LV
  | [.ints _ l, .int _ n] => .ok (.bool (S.bit l n))
  | _ => .fail
theorem p_lat : SpecOk Try.prog globs 31 (mkSpec real [.ints .u64, .int .i64] (s_lat ropsLb)) := by
  have hfns : FnsOk Try.prog globs [] := fnsNil
  refine spec0 hfns (by kernel_rfl) Try.func31 (by kernel_rfl) (by kernel_rfl) (by kernel_rfl) 4 _ _ (.int .u64) ?_
  clear hfns
  generalize hEE : env0 [] = EE
  intro l r hl hr
  simp only [Forms, Form] at hl
  obtain ⟨_, _, rfl, ⟨x1, rfl, x1all, x1len⟩, _, _, rfl, ⟨x2, rfl, x2lo, x2hi⟩, rfl⟩ := hl
  subst hEE
  generalize hK : kR (.int .u64) r = K
  generalize hO : real = O
  set_option maxRecDepth 100000 in cbv
  subst hO hK 
  simp only [s_lat, R.Y] at hr
  subst hr
  try dsimp only [real, rops, ropsH, ropsUm, ropsLb]
  have hr := rng64_of x1all
  refine ⟨imp_f fun h => ?_, imp_t fun h => ⟨imp_f fun h2 => ?_, imp_t fun h2 => ?_⟩⟩
  · rw [c_lss_t] at h
    simp only [kR, canon, canons, ekEq, numE, getW, getWord, allInts8, asInt, isK, kindEq, isArgB, strOf, cBig, cInts, cWords, allInts, allWords, r_ofLimbs, r_mkWord, Option.some.injEq, LV.wide.injEq, LV.word.injEq, LV.int.injEq, LV.bool.injEq, LV.str.injEq, LV.big.injEq, LV.tup.injEq, LV.agg.injEq, List.cons.injEq, and_true, true_and]
    exact (limZ_neg h).symm
  · rw [c_geq_t] at h2
    simp only [kR, canon, canons, ekEq, numE, getW, getWord, allInts8, asInt, isK, kindEq, isArgB, strOf, cBig, cInts, cWords, allInts, allWords, r_ofLimbs, r_mkWord, Option.some.injEq, LV.wide.injEq, LV.word.injEq, LV.int.injEq, LV.bool.injEq, LV.str.injEq, LV.big.injEq, LV.tup.injEq, LV.agg.injEq, List.cons.injEq, and_true, true_and]
    exact (limZ_ge hr h2).symm
  · rw [c_lss_f] at h
    rw [c_geq_f] at h2
    refine ⟨⟨by omega, by omega⟩, ?_⟩
    simp only [kR, canon, canons, ekEq, numE, getW, getWord, allInts8, asInt, isK, kindEq, isArgB, strOf, cBig, cInts, cWords, allInts, allWords, r_ofLimbs, r_mkWord, Option.some.injEq, LV.wide.injEq, LV.word.injEq, LV.int.injEq, LV.bool.injEq, LV.str.injEq, LV.big.injEq, LV.tup.injEq, LV.agg.injEq, List.cons.injEq, and_true, true_and]
    exact (limZ_in hr (by omega)).symm
theorem p_ltrim : SpecOk Try.prog globs 37 (mkSpec real [.ints .u64] (s_ltrim ropsLb)) := by
  have hfns : FnsOk Try.prog globs [] := fnsNil
  refine specL (fun _ => [0,3]) hfns (by kernel_rfl) Try.func37 (by kernel_rfl) (by kernel_rfl) (by kernel_rfl) 4 _ _ (.ints .u64) ?_
  clear hfns
  generalize hEE : envL (fun _ => [0,3]) [] = EE
  intro l r hl hr
  simp only [Forms, Form] at hl
  obtain ⟨_, _, rfl, ⟨x1, rfl, x1all, x1len⟩, rfl⟩ := hl
  subst hEE
  generalize hK : kR (.ints .u64) r = K
  generalize hO : real = O
  set_option maxRecDepth 100000 in cbv
  have hr : r = _ := hr.symm
  subst hO hK 
  subst hr
  have hrng := rng64_of x1all
  refine loop_rule (α := Int) (fun k => ⟨[.ints .u64 x1, .undef, .undef, .int .i64 k, .undef, .undef, .undef, .undef, .undef, .undef, .undef, .undef, .undef, .undef, .undef, .undef, .undef, .undef, .undef, .undef, .undef, .undef], ofL [none, none, none, none], 4⟩)
    (fun m k => 0 ≤ k ∧ k ≤ ((x1.length : Nat) : Int) ∧ (∀ j : Nat, k ≤ (j : Int) → x1.getD j 0 = 0) ∧ k ≤ ((m : Nat) : Int)) ?_ x1.length (real.lenI x1) ⟨Int.natCast_nonneg _, Int.le_refl _, fun j hj => by
      have hj : ((x1.length : Nat) : Int) ≤ (j : Int) := hj
      rw [List.getD_eq_getElem?_getD, List.getElem?_eq_none (by omega)]; rfl, Int.le_refl _⟩
  rintro m k X ⟨h1, h2, h3, h4⟩ hX
  (generalize hK : kR _ _ = K; generalize hO : real = O; set_option maxRecDepth 100000 in cbv; subst hO hK ; dsimp only [real, rops, ropsH, ropsUm, ropsLb])
  have h5 : k ≤ ((m : Nat) : Int) := h4
  have h6 : k ≤ ((x1.length : Nat) : Int) := h2
  have h7 : ((x1.length : Nat) : Int) < 4611686018427387904 := x1len
  have h8 : ∀ j : Nat, k ≤ ((j : Nat) : Int) → x1.getD j 0 = 0 := h3
  clear h4 h2 h3 x1len
  have fin : k = 0 ∨ x1.getD (k - 1).toNat 0 ≠ 0 → x1.take k.toNat = lim (val64 x1) := fun h => trim_lim hrng (by omega) (fun i hi => h8 i (by omega)) (h.imp (fun h => by omega) fun h => by rwa [show (k - 1).toNat = k.toNat - 1 by omega] at h)
  refine ⟨imp_f fun h => ?_, imp_t fun h => ?_⟩
  · rw [c_gtr_t] at h
    have g : arithR .sub .i64 k 1 = k - 1 := sub_i64 (by omega) (by omega)
    rw [g]
    have h9 : k - 1 < ((x1.length : Nat) : Int) := by omega
    refine ⟨⟨by omega, h9⟩, imp_f fun hb => ?_, imp_t fun hb => ?_⟩
    · rw [c_eql_t] at hb
      have hm : m = (m - 1) + 1 := by omega
      have hc : k - 1 ≤ ((m - 1 : Nat) : Int) := by omega
      have hl : k - 1 ≤ ((x1.length : Nat) : Int) := by omega
      have hz : ∀ j : Nat, k - 1 ≤ ((j : Nat) : Int) → x1.getD j 0 = 0 := fun j hj => by
        by_cases e : ((j : Nat) : Int) = k - 1
        · have : j = (k - 1).toNat := by omega
          rw [this]; exact hb
        · exact h8 j (by omega)
      have := hX (m - 1) (k - 1) hm ⟨by omega, hl, hz, hc⟩
      exact this
    · rw [c_eql_f] at hb
      refine ⟨⟨h1, h6⟩, ?_⟩
      rw [fin (.inr hb)]
      simp only [kR, canon, canons, ekEq, numE, getW, getWord, allInts8, asInt, isK, kindEq, isArgB, strOf, cBig, cInts, cWords, allInts, allWords, r_ofLimbs, r_mkWord, Option.some.injEq, LV.wide.injEq, LV.word.injEq, LV.int.injEq, LV.bool.injEq, LV.str.injEq, LV.big.injEq, LV.tup.injEq, LV.agg.injEq, List.cons.injEq, and_true, true_and]
  · rw [c_gtr_f] at h
    refine ⟨⟨h1, h6⟩, ?_⟩
    rw [fin (.inl (by omega))]
    simp only [kR, canon, canons, ekEq, numE, getW, getWord, allInts8, asInt, isK, kindEq, isArgB, strOf, cBig, cInts, cWords, allInts, allWords, r_ofLimbs, r_mkWord, Option.some.injEq, LV.wide.injEq, LV.word.injEq, LV.int.injEq, LV.bool.injEq, LV.str.injEq, LV.big.injEq, LV.tup.injEq, LV.agg.injEq, List.cons.injEq, and_true, true_and]
theorem p_lsame : SpecOk Try.prog globs 11 (mkSpec real [.ints .u64, .ints .u64] (s_lsame ropsLb)) := by
  have hfns : FnsOk Try.prog globs [] := fnsNil
  refine specL (fun _ => [0,1,5]) hfns (by kernel_rfl) Try.func11 (by kernel_rfl) (by kernel_rfl) (by kernel_rfl) 4 _ _ (.bool) ?_
  clear hfns
  generalize hEE : envL (fun _ => [0,1,5]) [] = EE
  intro l r hl hr
  simp only [Forms, Form] at hl
  obtain ⟨_, _, rfl, ⟨x1, rfl, x1all, x1len⟩, _, _, rfl, ⟨x2, rfl, x2all, x2len⟩, rfl⟩ := hl
  subst hEE
  generalize hK : kR (.bool) r = K
  generalize hO : real = O
  set_option maxRecDepth 100000 in cbv
  have hr : r = _ := hr.symm
  subst hO hK 
  subst hr
  refine ⟨imp_f fun h => ?_, imp_t fun h => ?_⟩
  · replace h : cmpR .neq ((x1.length : Nat) : Int) ((x2.length : Nat) : Int) = true := h
    rw [c_neq_t] at h
    have : decide (x1 = x2) = false := decide_eq_false fun e => h (by rw [e])
    show kR AT.bool (LV.bool (decide (x1 = x2))) _
    rw [this]; rfl
  · replace h : cmpR .neq ((x1.length : Nat) : Int) ((x2.length : Nat) : Int) = false := h
    rw [c_neq_f] at h
    have hlen : x1.length = x2.length := by omega
    refine loop_rule (α := Int) (fun k => ⟨[.ints .u64 x1, .ints .u64 x2, .undef, .undef, .undef, .int .i64 k, .undef, .undef, .undef, .undef, .undef, .undef, .undef, .undef, .undef, .undef, .undef, .undef, .undef, .undef, .undef, .undef, .undef, .undef, .undef, .undef], ofL [none, none, none, none, none, none, none], 7⟩)
      (fun m k => 0 ≤ k ∧ k ≤ ((x1.length : Nat) : Int) ∧ (∀ j : Nat, (j : Int) < k → x1.getD j 0 = x2.getD j 0) ∧ ((x1.length : Nat) : Int) - k ≤ ((m : Nat) : Int)) ?_ x1.length 0 ⟨by omega, Int.natCast_nonneg _, fun j hj => by omega, by omega⟩
    rintro m k X ⟨h1, h2, h3, h4⟩ hX
    (generalize hK : kR _ _ = K; generalize hO : real = O; set_option maxRecDepth 100000 in cbv; subst hO hK ; dsimp only [real, rops, ropsH, ropsUm, ropsLb])
    have h5 : ((x1.length : Nat) : Int) - k ≤ ((m : Nat) : Int) := h4
    have h6 : k ≤ ((x1.length : Nat) : Int) := h2
    have h7 : ((x1.length : Nat) : Int) < 4611686018427387904 := x1len
    have h8 : ∀ j : Nat, ((j : Nat) : Int) < k → x1.getD j 0 = x2.getD j 0 := h3
    clear h4 h2 h3 x1len
    refine ⟨imp_f fun g => ?_, imp_t fun g => ?_⟩
    · rw [c_lss_t] at g
      have g1 : arithR .add .i64 k 1 = k + 1 := add_i64 (by omega) (by omega)
      rw [g1]
      have hb2 : k < ((x2.length : Nat) : Int) := by omega
      refine ⟨⟨h1, g⟩, ⟨h1, hb2⟩, imp_f fun hb => ?_, imp_t fun hb => ?_⟩
      · rw [c_neq_t] at hb
        have : decide (x1 = x2) = false := decide_eq_false fun e => hb (by rw [e])
        show kR AT.bool (LV.bool (decide (x1 = x2))) _
        rw [this]; rfl
      · rw [c_neq_f] at hb
        have hm : m = (m - 1) + 1 := by omega
        have hc : ((x1.length : Nat) : Int) - (k + 1) ≤ ((m - 1 : Nat) : Int) := by omega
        have hl : k + 1 ≤ ((x1.length : Nat) : Int) := by omega
        have hz : ∀ j : Nat, ((j : Nat) : Int) < k + 1 → x1.getD j 0 = x2.getD j 0 := fun j hj => by
          by_cases e : ((j : Nat) : Int) = k
          · have : j = k.toNat := by omega
            rw [this]; exact hb
          · exact h8 j (by omega)
        exact hX (m - 1) (k + 1) hm ⟨by omega, hl, hz, hc⟩
    · rw [c_lss_f] at g
      have : decide (x1 = x2) = true := decide_eq_true (List.ext_getElem hlen fun j a b => by
        have := h8 j (by omega)
        rw [List.getD_eq_getElem?_getD, List.getD_eq_getElem?_getD, List.getElem?_eq_getElem a, List.getElem?_eq_getElem b] at this
        exact this)
      show kR AT.bool (LV.bool (decide (x1 = x2))) _
      rw [this]; rfl
theorem p_lLen : SpecOk Try.prog globs 19 (mkSpec real [.ints .u64] (s_lLen ropsLb)) := by
  have hfns : FnsOk Try.prog globs [(37, .spec (mkSpec real [.ints .u64] (s_ltrim ropsLb))), (38, .spec (mkSpec real [.int .u64] (s_len64 rops)))] := (fnsCons (fnSpec (p_ltrim)) (fnsCons (fnSpec (p_len64)) fnsNil))
  refine spec0 hfns (by kernel_rfl) Try.func19 (by kernel_rfl) (by kernel_rfl) (by kernel_rfl) 4 _ _ (.int .i64) ?_
  clear hfns
  generalize hEE : env0 [(37, .spec (mkSpec real [.ints .u64] (s_ltrim ropsLb))), (38, .spec (mkSpec real [.int .u64] (s_len64 rops)))] = EE
  intro l r hl hr
  simp only [Forms, Form] at hl
  obtain ⟨_, _, rfl, ⟨x1, rfl, x1all, x1len⟩, rfl⟩ := hl
  subst hEE
  generalize hK : kR (.int .i64) r = K
  generalize hO : real = O
  generalize hS0 : rops = S0
  generalize hS1 : ropsH = S1
  generalize hS2 : ropsUm = S2
  generalize hS3 : ropsLb = S3
  set_option maxRecDepth 100000 in cbv
  subst hO hK hS0 hS1 hS2 hS3
  simp only [s_lLen, R.Y] at hr
  try dsimp only [real, rops, ropsH, ropsUm, ropsLb]
  obtain ⟨hs, hr⟩ := hr
  subst hr
  dsimp only [ropsLb]
  replace hs : x1.length ≤ 100000 := hs
  have hrng := rng64_of x1all
  have hb : (lim (val64 x1)).length ≤ 100000 := Nat.le_trans ((lim_len _ _).2 (val64_lt x1 hrng)) hs
  refine ⟨imp_f fun h => ?_, imp_t fun h => ?_⟩
  · rw [c_eql_t] at h
    have h0 : val64 x1 = 0 := by
      by_cases e : val64 x1 = 0
      · exact e
      · have := List.length_pos_iff.2 (lim_ne e); omega
    rw [h0]
    rfl
  · rw [c_eql_f] at h
    have e : val64 x1 ≠ 0 := fun e => h (by rw [e]; rfl)
    have hp := List.length_pos_iff.2 (lim_ne e)
    have e1 : arithR .sub .i64 (((lim (val64 x1)).length : Nat) : Int) 1 = (((lim (val64 x1)).length - 1 : Nat) : Int) := by rw [sub_i64 (by omega) (by omega)]; omega
    have e2 := limA_rng (val64 x1) ((lim (val64 x1)).length - 1)
    have e3 := lim_last e
    have e4 := bitN_lim e
    have e5 : nLen (limA (val64 x1) ((lim (val64 x1)).length - 1)) = ((bitN (limA (val64 x1) ((lim (val64 x1)).length - 1)).toNat : Nat) : Int) := by
      unfold nLen bitN
      rw [if_neg (by omega), if_neg (by omega)]
      omega
    have e6 := nLen64 e2
    have e7 : arithR .mul .i64 64 (((lim (val64 x1)).length - 1 : Nat) : Int) = 64 * (((lim (val64 x1)).length - 1 : Nat) : Int) := mul_i64 (by omega) (by omega)
    rw [e1, Int.toNat_natCast, lim_get, e5, e7, add_i64 (by omega) (by omega)]
    refine ⟨⟨by omega, by omega⟩, ?_⟩
    simp only [kR, canon, canons, ekEq, numE, getW, getWord, allInts8, asInt, isK, kindEq, isArgB, strOf, cBig, cInts, cWords, allInts, allWords, r_ofLimbs, r_mkWord, Option.some.injEq, LV.wide.injEq, LV.word.injEq, LV.int.injEq, LV.bool.injEq, LV.str.injEq, LV.big.injEq, LV.tup.injEq, LV.agg.injEq, List.cons.injEq, and_true, true_and]
    rw [e4]; omega
theorem p_lLess : SpecOk Try.prog globs 18 (mkSpec real [.ints .u64, .ints .u64] (s_lLess ropsLb)) := by
  have hfns : FnsOk Try.prog globs [(31, .spec (mkSpec real [.ints .u64, .int .i64] (s_lat ropsLb)))] := (fnsCons (fnSpec (p_lat)) fnsNil)
  refine specL (fun _ => [0,1,5]) hfns (by kernel_rfl) Try.func18 (by kernel_rfl) (by kernel_rfl) (by kernel_rfl) 4 _ _ (.bool) ?_
  clear hfns
  generalize hEE : envL (fun _ => [0,1,5]) [(31, .spec (mkSpec real [.ints .u64, .int .i64] (s_lat ropsLb)))] = EE
  intro l r hl hr
  simp only [Forms, Form] at hl
  obtain ⟨_, _, rfl, ⟨x1, rfl, x1all, x1len⟩, _, _, rfl, ⟨x2, rfl, x2all, x2len⟩, rfl⟩ := hl
  subst hEE
  generalize hK : kR (.bool) r = K
  generalize hO : real = O
  generalize hS0 : rops = S0
  generalize hS1 : ropsH = S1
  generalize hS2 : ropsUm = S2
  generalize hS3 : ropsLb = S3
  set_option maxRecDepth 100000 in cbv
  have hr : r = _ := hr.symm
  subst hO hK hS0 hS1 hS2 hS3
  subst hr
  have ra := rng64_of x1all
  have rb := rng64_of x2all
  have l1 : ((x1.length : Nat) : Int) < 4611686018427387904 := x1len
  have l2 : ((x2.length : Nat) : Int) < 4611686018427387904 := x2len
  clear x1len x2len
  have hm4 : ((max x1.length x2.length : Nat) : Int) ≤ 4611686018427387904 := by omega
  have hmx : real.mx (real.lenI x1) (real.lenI x2) = ((max x1.length x2.length : Nat) : Int) := by
    show (if (x2.length : Int) > (x1.length : Int) then (x2.length : Int) else (x1.length : Int)) = _
    split <;> omega
  have hst : arithR .sub .i64 ((max x1.length x2.length : Nat) : Int) 1 = ((max x1.length x2.length : Nat) : Int) - 1 := sub_i64 (by omega) (by omega)
  have hst2 : arithR .sub .i64 (real.mx (real.lenI x1) (real.lenI x2)) 1 = ((max x1.length x2.length : Nat) : Int) - 1 := by rw [hmx, hst]
  refine loop_rule (α := Int) (fun k => ⟨[.ints .u64 x1, .ints .u64 x2, .undef, .undef, .undef, .int .i64 k, .undef, .undef, .undef, .undef, .undef, .undef, .undef, .undef, .undef, .undef, .undef, .undef, .undef, .undef, .undef, .undef, .undef, .undef, .undef, .undef, .undef, .undef, .undef, .undef], ofL [none, none, none, none, none, none, none, none], 8⟩)
    (fun m k => -1 ≤ k ∧ k < ((max x1.length x2.length : Nat) : Int) ∧ (∀ j : Nat, k < (j : Int) → limA (val64 x1) j = limA (val64 x2) j) ∧ k + 1 ≤ ((m : Nat) : Int)) ?_ (max x1.length x2.length) (arithR .sub .i64 (real.mx (real.lenI x1) (real.lenI x2)) 1) ?_
  · rintro m k X ⟨h1, h2, h3, h4⟩ hX
    (generalize hK : kR _ _ = K; generalize hO : real = O; generalize hS0 : rops = S0; generalize hS1 : ropsH = S1; generalize hS2 : ropsUm = S2; generalize hS3 : ropsLb = S3; set_option maxRecDepth 100000 in cbv; subst hO hK hS0 hS1 hS2 hS3; dsimp only [real, rops, ropsH, ropsUm, ropsLb])
    have h5 : k + 1 ≤ ((m : Nat) : Int) := h4
    have h6 : k < ((max x1.length x2.length : Nat) : Int) := h2
    have h8 : ∀ j : Nat, k < ((j : Nat) : Int) → limA (val64 x1) j = limA (val64 x2) j := h3
    have h9 : -1 ≤ k := h1
    clear h1 h4 h2 h3
    have h10 : ((max x1.length x2.length : Nat) : Int) ≤ 4611686018427387904 := hm4
    refine ⟨imp_f fun h => ?_, imp_t fun h => ?_⟩
    · rw [c_geq_t] at h
      have e1 : arithR .sub .i64 k 1 = k - 1 := sub_i64 (by omega) (by omega)
      rw [e1]
      have z1 : limZ (val64 x1) k = limA (val64 x1) k.toNat := by unfold limZ; rw [if_neg (by omega)]
      have z2 : limZ (val64 x2) k = limA (val64 x2) k.toNat := by unfold limZ; rw [if_neg (by omega)]
      refine ⟨imp_f fun g => ?_, imp_t fun g => ?_⟩
      · rw [c_neq_t] at g
        simp only [kR, canon, canons, ekEq, numE, getW, getWord, allInts8, asInt, isK, kindEq, isArgB, strOf, cBig, cInts, cWords, allInts, allWords, r_ofLimbs, r_mkWord, Option.some.injEq, LV.wide.injEq, LV.word.injEq, LV.int.injEq, LV.bool.injEq, LV.str.injEq, LV.big.injEq, LV.tup.injEq, LV.agg.injEq, List.cons.injEq, and_true, true_and]
        rw [z1, z2] at g ⊢
        rcases Int.lt_or_gt_of_ne g with hlt | hgt
        · have := lt_of_lims (i := k.toNat) (fun j hj => h8 j (by omega)) hlt
          rw [decide_eq_true this]
          rw [c_lss_t]; exact hlt
        · have := lt_of_lims (i := k.toNat) (fun j hj => (h8 j (by omega)).symm) hgt
          rw [decide_eq_false (by omega)]
          rw [c_lss_f]; omega
      · rw [c_neq_f] at g
        have hm : m = (m - 1) + 1 := by omega
        have hc : k - 1 + 1 ≤ ((m - 1 : Nat) : Int) := by omega
        have hl : k - 1 < ((max x1.length x2.length : Nat) : Int) := by omega
        have hz : ∀ j : Nat, k - 1 < ((j : Nat) : Int) → limA (val64 x1) j = limA (val64 x2) j := fun j hj => by
          by_cases e : ((j : Nat) : Int) = k
          · have : j = k.toNat := by omega
            rw [this, ← z1, ← z2]; exact g
          · exact h8 j (by omega)
        exact hX (m - 1) (k - 1) hm ⟨by omega, hl, hz, hc⟩
    · rw [c_geq_f] at h
      have : val64 x1 = val64 x2 := lim_ext fun j => h8 j (by omega)
      rw [this]
      simp only [kR, canon, canons, ekEq, numE, getW, getWord, allInts8, asInt, isK, kindEq, isArgB, strOf, cBig, cInts, cWords, allInts, allWords, r_ofLimbs, r_mkWord, Option.some.injEq, LV.wide.injEq, LV.word.injEq, LV.int.injEq, LV.bool.injEq, LV.str.injEq, LV.big.injEq, LV.tup.injEq, LV.agg.injEq, List.cons.injEq, and_true, true_and]
      simp
  · rw [hst2]
    refine ⟨by omega, by omega, fun j hj => ?_, by omega⟩
    rw [← val64_get _ _ ra, ← val64_get _ _ rb, List.getD_eq_getElem?_getD, List.getD_eq_getElem?_getD, List.getElem?_eq_none (by omega), List.getElem?_eq_none (by omega)]
end Go.LE