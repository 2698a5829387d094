import Derived.Test.YtcmicmbpcgminaaGreatDoorW11
import Derived.Test.YtcmicmbpcgminaaGreatDoorLeO
set_option linter.unusedVariables false
set_option linter.unusedSimpArgs false
namespace Go.LE
open Go Go.Proofs
structure OpsH where
  valL : List Int → Nat
  dA : Nat → Int → Int
  small : Nat → Prop
  le : Nat → Nat → Prop
  cmp : Nat → Nat → Int
  add : Nat → Nat → Nat
  sub : Nat → Nat → Nat
  shl : Nat → Int → Nat
  okSh : Int → Prop
  len : Nat → Int
  val64 : List Int → Nat
  short : List Int → Prop
  ofI : Int → Nat
def lenN (n : Nat) : Int := (bitN n : Int)
noncomputable def ropsH : OpsH where
  valL := valL
  dA := digA
  small := small
  le := fun a b => a ≤ b
  cmp := cmpN
  add := fun a b => a + b
  sub := fun a b => a - b
  shl := fun a n => a * 2 ^ n.toNat
  okSh := fun n => 0 ≤ n ∧ n ≤ 17179869184
  len := lenN
  val64 := val64
  short := fun l => l.length ≤ 536870912
  ofI := fun n => n.toNat
def s_trim (S : OpsH) : List LV → R LV
  | [.ints _ l] => .ok (.big (S.valL l))
  | _ => .fail
def s_digit (S : OpsH) : List LV → R LV
  | [.big n, .int _ i] => .ok (.int .u64 (S.dA n i))
  | _ => .fail
def s_cmp01 (S : OpsH) : List LV → R LV
  | [.big a, .big b] => .ok (.int .i64 (S.cmp a b))
  | _ => .fail
def s_add01 (S : OpsH) : List LV → R LV
  | [.big a, .big b] => .req (S.small a) (.req (S.small b) (.ok (.big (S.add a b))))
  | _ => .fail
def s_sub01 (S : OpsH) : List LV → R LV
  | [.big a, .big b] => .req (S.small a) (.req (S.le b a) (.ok (.big (S.sub a b))))
  | _ => .fail
def s_shl01 (S : OpsH) : List LV → R LV
  | [.big a, .int _ n] => .req (S.small a) (.req (S.okSh n) (.ok (.big (S.shl a n))))
  | _ => .fail
def s_len01 (S : OpsH) : List LV → R LV
  | [.big a] => .req (S.small a) (.ok (.int .i64 (S.len a)))
  | _ => .fail
def s_of01 (S : OpsH) : List LV → R LV
  | [.ints _ l] => .req (S.short l) (.ok (.big (S.val64 l)))
  | _ => .fail
def s_small01 (S : OpsH) : List LV → R LV
  | [.int _ n] => .ok (.big (S.ofI n))
  | _ => .fail
theorem cBig_take {l : List Int} {k : Nat} (h : dig (valL l) = l.take k) : cBig (.ints .u32 (l.take k)) = some (valL l) := by
  have e : valL (l.take k) = valL l := by rw [← h, valL_dig]
  unfold cBig
  simp only [e]
  rw [decide_eq_true h]
theorem rng_u32 {l : List Int} (h : ∀ n ∈ l, IntKind.u32.min ≤ n ∧ n ≤ IntKind.u32.max) : rngL l := fun x hx => by
  have := h x hx
  simp only [IntKind.min, IntKind.max, IntKind.signed, IntKind.bits] at this
  simp at this
  omega
theorem trim_fin {l : List Int} (hr : rngL l) {k : Int} (h1 : 0 ≤ k) (h2 : k ≤ ((l.length : Nat) : Int)) (h3 : ∀ j : Nat, k ≤ (j : Int) → l.getD j 0 = 0) (h4 : k = 0 ∨ l.getD (k - 1).toNat 0 ≠ 0) :
    kR .big (.big (valL l)) (.ints .u32 (l.take k.toNat)) := by
  have := trim_dig hr (k := k.toNat) (by omega) (fun j hj => h3 j (by omega)) (h4.imp (fun h => by omega) fun h => by rwa [show (k - 1).toNat = k.toNat - 1 by omega] at h)
  simp only [kR, canon, cBig_take this]
theorem p_trim : SpecOk Tryz.prog globs 54 (mkSpec real [.ints .u32] (s_trim ropsH)) := by
  have hfns : FnsOk Tryz.prog globs [] := fnsNil
  refine specL (fun _ => [0,3]) hfns (by kernel_rfl) Tryz.func54 (by kernel_rfl) (by kernel_rfl) (by kernel_rfl) 4 _ _ (.big) ?_
  clear hfns
  generalize hEE : envL (fun _ => [0,3]) [] = EE
  intro l r hl hr
  simp only [Forms, Form] at hl
  obtain ⟨_, _, rfl, ⟨x1, rfl, x1all, x1len⟩, rfl⟩ := hl
  subst hEE
  generalize hK : kR (.big) r = K
  generalize hO : real = O
  set_option maxRecDepth 100000 in cbv
  have hr : r = _ := hr.symm
  subst hO hK 
  subst hr
  have hrng := rng_u32 x1all
  refine loop_rule (α := Int) (fun k => ⟨[.ints .u32 x1, .undef, .undef, .int .i64 k, .undef, .undef, .undef, .undef, .undef, .undef, .undef, .undef, .undef, .undef, .undef, .undef, .undef, .undef, .undef, .undef, .undef], ofL [none, none, none, none], 4⟩)
    (fun m k => 0 ≤ k ∧ k ≤ ((x1.length : Nat) : Int) ∧ (∀ j : Nat, k ≤ (j : Int) → x1.getD j 0 = 0) ∧ k ≤ ((m : Nat) : Int)) ?_ x1.length (real.lenI x1) ⟨Int.natCast_nonneg _, Int.le_refl _, fun j hj => by
      have hj : ((x1.length : Nat) : Int) ≤ (j : Int) := hj
      rw [List.getD_eq_getElem?_getD, List.getElem?_eq_none (by omega)]; rfl, Int.le_refl _⟩
  rintro m k X ⟨h1, h2, h3, h4⟩ hX
  (generalize hK : kR _ _ = K; generalize hO : real = O; set_option maxRecDepth 100000 in cbv; subst hO hK ; dsimp only [real, rops, ropsB, ropsC, ropsD, ropsE, ropsF, ropsG, ropsH])
  have h5 : k ≤ ((m : Nat) : Int) := h4
  have h6 : k ≤ ((x1.length : Nat) : Int) := h2
  have h7 : ((x1.length : Nat) : Int) < 4611686018427387904 := x1len
  have h8 : ∀ j : Nat, k ≤ ((j : Nat) : Int) → x1.getD j 0 = 0 := h3
  clear h4 h2 h3 x1len
  refine ⟨imp_f fun h => ?_, imp_t fun h => ?_⟩
  · rw [c_gtr_t] at h
    have g : arithR .sub .i64 k 1 = k - 1 := sub_i64 (by omega) (by omega)
    rw [g]
    have h9 : k - 1 < ((x1.length : Nat) : Int) := by omega
    refine ⟨⟨by omega, h9⟩, imp_f fun hb => ?_, imp_t fun hb => ?_⟩
    · rw [c_eql_t] at hb
      have hm : m = (m - 1) + 1 := by omega
      have hc : k - 1 ≤ ((m - 1 : Nat) : Int) := by omega
      have hl : k - 1 ≤ ((x1.length : Nat) : Int) := by omega
      have hz : ∀ j : Nat, k - 1 ≤ ((j : Nat) : Int) → x1.getD j 0 = 0 := fun j hj => by
        by_cases e : ((j : Nat) : Int) = k - 1
        · have : j = (k - 1).toNat := by omega
          rw [this]; exact hb
        · exact h8 j (by omega)
      have := hX (m - 1) (k - 1) hm ⟨by omega, hl, hz, hc⟩
      exact this
    · rw [c_eql_f] at hb
      exact ⟨⟨h1, h6⟩, trim_fin hrng h1 h6 h8 (.inr hb)⟩
  · rw [c_gtr_f] at h
    exact ⟨⟨h1, h6⟩, trim_fin hrng h1 h6 h8 (.inl (by omega))⟩
theorem p_digit : SpecOk Tryz.prog globs 105 (mkSpec real [.big, .int .i64] (s_digit ropsH)) := by
  have hfns : FnsOk Tryz.prog globs [] := fnsNil
  refine spec0 hfns (by kernel_rfl) Tryz.func105 (by kernel_rfl) (by kernel_rfl) (by kernel_rfl) 4 _ _ (.int .u64) ?_
  clear hfns
  generalize hEE : env0 [] = EE
  intro l r hl hr
  simp only [Forms, Form] at hl
  obtain ⟨_, _, rfl, ⟨x1, rfl, x1len⟩, _, _, rfl, ⟨x2, rfl, x2lo, x2hi⟩, rfl⟩ := hl
  subst hEE
  generalize hK : kR (.int .u64) r = K
  generalize hO : real = O
  set_option maxRecDepth 100000 in cbv
  subst hO hK 
  simp only [s_digit, R.Y] at hr
  subst hr
  try dsimp only [real, rops, ropsB, ropsC, ropsD, ropsE, ropsF, ropsG, ropsH]
  refine ⟨imp_f fun h => ?_, imp_t fun h => ⟨imp_f fun h2 => ?_, imp_t fun h2 => ?_⟩⟩
  · rw [c_lss_t] at h
    simp only [kR, canon, canons, ekEq, numE, getW, getWord, allInts8, asInt, isK, kindEq, isArgB, strOf, cBig, cInts, cWords, allInts, allWords, r_ofLimbs, r_mkWord, Option.some.injEq, LV.wide.injEq, LV.word.injEq, LV.int.injEq, LV.bool.injEq, LV.str.injEq, LV.big.injEq, LV.tup.injEq, LV.agg.injEq, List.cons.injEq, and_true, true_and]
    exact (digA_neg h).symm
  · rw [c_geq_t] at h2
    simp only [kR, canon, canons, ekEq, numE, getW, getWord, allInts8, asInt, isK, kindEq, isArgB, strOf, cBig, cInts, cWords, allInts, allWords, r_ofLimbs, r_mkWord, Option.some.injEq, LV.wide.injEq, LV.word.injEq, LV.int.injEq, LV.bool.injEq, LV.str.injEq, LV.big.injEq, LV.tup.injEq, LV.agg.injEq, List.cons.injEq, and_true, true_and]
    exact (digA_ge h2).symm
  · rw [c_lss_f] at h
    rw [c_geq_f] at h2
    refine ⟨⟨by omega, by omega⟩, ?_⟩
    simp only [kR, canon, canons, ekEq, numE, getW, getWord, allInts8, asInt, isK, kindEq, isArgB, strOf, cBig, cInts, cWords, allInts, allWords, r_ofLimbs, r_mkWord, Option.some.injEq, LV.wide.injEq, LV.word.injEq, LV.int.injEq, LV.bool.injEq, LV.str.injEq, LV.big.injEq, LV.tup.injEq, LV.agg.injEq, List.cons.injEq, and_true, true_and]
    rw [digA_in (by omega)]
    have := digA_rng x1 x2
    exact (inK_iff .u64 _).2 ⟨by simp [IntKind.min, IntKind.signed]; omega, by simp [IntKind.max, IntKind.signed, IntKind.bits]; omega⟩
theorem p_cmp01 : SpecOk Tryz.prog globs 66 (mkSpec real [.big, .big] (s_cmp01 ropsH)) := by
  have hfns : FnsOk Tryz.prog globs [(105, .spec (mkSpec real [.big, .int .i64] (s_digit ropsH)))] := (fnsCons (fnSpec (p_digit)) fnsNil)
  refine specL (fun _ => [0,1,5]) hfns (by kernel_rfl) Tryz.func66 (by kernel_rfl) (by kernel_rfl) (by kernel_rfl) 4 _ _ (.int .i64) ?_
  clear hfns
  generalize hEE : envL (fun _ => [0,1,5]) [(105, .spec (mkSpec real [.big, .int .i64] (s_digit ropsH)))] = EE
  intro l r hl hr
  simp only [Forms, Form] at hl
  obtain ⟨_, _, rfl, ⟨x1, rfl, x1len⟩, _, _, rfl, ⟨x2, rfl, x2len⟩, rfl⟩ := hl
  subst hEE
  generalize hK : kR (.int .i64) r = K
  generalize hO : real = O
  generalize hS0 : rops = S0
  generalize hS1 : ropsB = S1
  generalize hS2 : ropsC = S2
  generalize hS3 : ropsD = S3
  generalize hS4 : ropsE = S4
  generalize hS5 : ropsF = S5
  generalize hS6 : ropsG = S6
  generalize hS7 : ropsH = S7
  set_option maxRecDepth 100000 in cbv
  have hr : r = _ := hr.symm
  subst hO hK hS0 hS1 hS2 hS3 hS4 hS5 hS6 hS7
  subst hr
  have h1l : (((dig x1).length : Nat) : Int) < 4611686018427387904 := x1len
  have h2l : (((dig x2).length : Nat) : Int) < 4611686018427387904 := x2len
  have hmx : real.mx (real.lenBig x1) (real.lenBig x2) = ((max (dig x1).length (dig x2).length : Nat) : Int) := by
    show (if (((dig x2).length : Nat) : Int) > (((dig x1).length : Nat) : Int) then (((dig x2).length : Nat) : Int) else (((dig x1).length : Nat) : Int)) = _
    split <;> omega
  have hst : arithR .sub .i64 ((max (dig x1).length (dig x2).length : Nat) : Int) 1 = ((max (dig x1).length (dig x2).length : Nat) : Int) - 1 := sub_i64 (by omega) (by omega)
  refine loop_rule (α := Int) (fun i => ⟨[.big x1, .big x2, .undef, .undef, .undef, .int .i64 i, .undef, .undef, .undef, .undef, .undef, .undef, .undef, .undef, .undef, .undef, .undef, .undef, .undef, .undef, .undef, .undef, .undef, .undef, .undef, .undef, .undef, .undef, .undef, .undef], ofL [none, none, none, none, none, none, none, none], 8⟩)
    (fun m i => -1 ≤ i ∧ i < 4611686018427387904 ∧ (∀ j : Nat, i < (j : Int) → digA x1 (j : Int) = digA x2 (j : Int)) ∧ i < ((m : Nat) : Int)) ?_ (max (dig x1).length (dig x2).length) _ ?_
  · rintro m i X ⟨h1, h2, h3, h4⟩ hX
    (generalize hK : kR _ _ = K; generalize hO : real = O; generalize hS0 : rops = S0; generalize hS1 : ropsB = S1; generalize hS2 : ropsC = S2; generalize hS3 : ropsD = S3; generalize hS4 : ropsE = S4; generalize hS5 : ropsF = S5; generalize hS6 : ropsG = S6; generalize hS7 : ropsH = S7; set_option maxRecDepth 100000 in cbv; subst hO hK hS0 hS1 hS2 hS3 hS4 hS5 hS6 hS7; dsimp only [real, rops, ropsB, ropsC, ropsD, ropsE, ropsF, ropsG, ropsH])
    have h5 : i < ((m : Nat) : Int) := h4
    have h6 : ∀ j : Nat, i < ((j : Nat) : Int) → digA x1 (j : Int) = digA x2 (j : Int) := h3
    clear h4 h3
    refine ⟨imp_f fun h => ?_, imp_t fun h => ?_⟩
    · rw [c_geq_t] at h
      have hii : ((i.toNat : Nat) : Int) = i := by omega
      refine ⟨imp_f fun hb => ?_, imp_t fun hb => ⟨imp_f fun hc => ?_, imp_t fun hc => ?_⟩⟩
      · rw [c_lss_t] at hb
        simp only [kR, canon, canons, ekEq, numE, getW, getWord, allInts8, asInt, isK, kindEq, isArgB, strOf, cBig, cInts, cWords, allInts, allWords, r_ofLimbs, r_mkWord, Option.some.injEq, LV.wide.injEq, LV.word.injEq, LV.int.injEq, LV.bool.injEq, LV.str.injEq, LV.big.injEq, LV.tup.injEq, LV.agg.injEq, List.cons.injEq, and_true, true_and]
        rw [cmpN_lt (lt_of_digs (i := i.toNat) (fun j hj => h6 j (by omega)) (by rw [hii]; exact hb))]
      · rw [c_gtr_t] at hc
        simp only [kR, canon, canons, ekEq, numE, getW, getWord, allInts8, asInt, isK, kindEq, isArgB, strOf, cBig, cInts, cWords, allInts, allWords, r_ofLimbs, r_mkWord, Option.some.injEq, LV.wide.injEq, LV.word.injEq, LV.int.injEq, LV.bool.injEq, LV.str.injEq, LV.big.injEq, LV.tup.injEq, LV.agg.injEq, List.cons.injEq, and_true, true_and]
        rw [cmpN_gt (lt_of_digs (i := i.toNat) (fun j hj => (h6 j (by omega)).symm) (by rw [hii]; exact hc))]
      · rw [c_lss_f] at hb
        rw [c_gtr_f] at hc
        have g : arithR .sub .i64 i 1 = i - 1 := sub_i64 (by omega) (by omega)
        rw [g]
        have hm : m = (m - 1) + 1 := by omega
        have hc2 : i - 1 < ((m - 1 : Nat) : Int) := by omega
        have hz : ∀ j : Nat, i - 1 < ((j : Nat) : Int) → digA x1 (j : Int) = digA x2 (j : Int) := fun j hj => by
          by_cases e : ((j : Nat) : Int) = i
          · rw [e]; omega
          · exact h6 j (by omega)
        have := hX (m - 1) (i - 1) hm ⟨by omega, by omega, hz, hc2⟩
        exact this
    · rw [c_geq_f] at h
      simp only [kR, canon, canons, ekEq, numE, getW, getWord, allInts8, asInt, isK, kindEq, isArgB, strOf, cBig, cInts, cWords, allInts, allWords, r_ofLimbs, r_mkWord, Option.some.injEq, LV.wide.injEq, LV.word.injEq, LV.int.injEq, LV.bool.injEq, LV.str.injEq, LV.big.injEq, LV.tup.injEq, LV.agg.injEq, List.cons.injEq, and_true, true_and]
      have : x1 = x2 := digA_ext fun j => h6 j (by omega)
      rw [this, cmpN_eq]
  · have hv : ∀ v : Int, v = ((max (dig x1).length (dig x2).length : Nat) : Int) - 1 → (-1 ≤ v ∧ v < 4611686018427387904 ∧ (∀ j : Nat, v < (j : Int) → digA x1 (j : Int) = digA x2 (j : Int)) ∧ v < ((max (dig x1).length (dig x2).length : Nat) : Int)) := by
      intro v hv
      subst hv
      refine ⟨by omega, by omega, fun j hj => ?_, by omega⟩
      rw [digA_ge (by omega), digA_ge (by omega)]
    exact hv _ (by show arithR .sub .i64 (real.mx (real.lenBig x1) (real.lenBig x2)) 1 = _; rw [hmx]; exact hst)
theorem mx_len (a b : Nat) : (if (((dig b).length : Nat) : Int) > (((dig a).length : Nat) : Int) then (((dig b).length : Nat) : Int) else (((dig a).length : Nat) : Int)) = ((max (dig a).length (dig b).length : Nat) : Int) := by
  split <;> omega
theorem p_add01 : SpecOk Tryz.prog globs 55 (mkSpec real [.big, .big] (s_add01 ropsH)) := by
  have hfns : FnsOk Tryz.prog globs [(105, .spec (mkSpec real [.big, .int .i64] (s_digit ropsH))), (54, .spec (mkSpec real [.ints .u32] (s_trim ropsH)))] := (fnsCons (fnSpec (p_digit)) (fnsCons (fnSpec (p_trim)) fnsNil))
  refine specL (fun _ => [0,1,5,6,7,100005]) hfns (by kernel_rfl) Tryz.func55 (by kernel_rfl) (by kernel_rfl) (by kernel_rfl) 4 _ _ (.big) ?_
  clear hfns
  generalize hEE : envL (fun _ => [0,1,5,6,7,100005]) [(105, .spec (mkSpec real [.big, .int .i64] (s_digit ropsH))), (54, .spec (mkSpec real [.ints .u32] (s_trim ropsH)))] = EE
  intro l r hl hr
  simp only [Forms, Form] at hl
  obtain ⟨_, _, rfl, ⟨x1, rfl, x1len⟩, _, _, rfl, ⟨x2, rfl, x2len⟩, rfl⟩ := hl
  subst hEE
  generalize hK : kR (.big) r = K
  generalize hO : real = O
  generalize hS0 : rops = S0
  generalize hS1 : ropsB = S1
  generalize hS2 : ropsC = S2
  generalize hS3 : ropsD = S3
  generalize hS4 : ropsE = S4
  generalize hS5 : ropsF = S5
  generalize hS6 : ropsG = S6
  generalize hS7 : ropsH = S7
  set_option maxRecDepth 100000 in cbv
  simp only [s_add01, R.Y] at hr
  obtain ⟨hs1, hs2, hr⟩ := hr
  subst hO hK hS0 hS1 hS2 hS3 hS4 hS5 hS6 hS7
  subst hr
  have h1l : (dig x1).length ≤ 1073741824 := hs1
  have h2l : (dig x2).length ≤ 1073741824 := hs2
  refine loop_rule (α := List Int × Int × Int) (fun p => ⟨[.big x1, .big x2, .undef, .undef, .undef, .own .u32 p.1, .int .u64 p.2.1, .int .i64 p.2.2, .undef, .undef, .undef, .undef, .undef, .undef, .undef, .undef, .undef, .undef, .undef, .undef, .undef, .undef, .undef, .undef, .undef, .undef, .undef, .undef, .undef, .undef, .undef, .undef, .undef, .undef, .undef], flagOn (ofL [none, none, none, none]), 4⟩)
    (fun m p => addP x1 x2 p.1 p.2.1 p.2.2 ∧ p.2.2 ≤ ((max (dig x1).length (dig x2).length : Nat) : Int) + 1 ∧ ((max (dig x1).length (dig x2).length : Nat) : Int) + 1 - p.2.2 ≤ ((m : Nat) : Int)) ?_ (max (dig x1).length (dig x2).length + 1) ([], 0, 0) ⟨addP_zero x1 x2, by show (0 : Int) ≤ _; omega, by show _ - (0 : Int) ≤ _; omega⟩
  rintro m ⟨l, c, i⟩ X ⟨h1, h2, h3⟩ hX
  (generalize hK : kR _ _ = K; generalize hO : real = O; generalize hS0 : rops = S0; generalize hS1 : ropsB = S1; generalize hS2 : ropsC = S2; generalize hS3 : ropsD = S3; generalize hS4 : ropsE = S4; generalize hS5 : ropsF = S5; generalize hS6 : ropsG = S6; generalize hS7 : ropsH = S7; set_option maxRecDepth 100000 in cbv; subst hO hK hS0 hS1 hS2 hS3 hS4 hS5 hS6 hS7; dsimp only [real, rops, ropsB, ropsC, ropsD, ropsE, ropsF, ropsG, ropsH])
  have h4 : addP x1 x2 l c i := h1
  have h5 : i ≤ ((max (dig x1).length (dig x2).length : Nat) : Int) + 1 := h2
  have h6 : ((max (dig x1).length (dig x2).length : Nat) : Int) + 1 - i ≤ ((m : Nat) : Int) := h3
  clear h1 h2 h3
  rw [mx_len]
  refine ⟨imp_f fun h => ?_, imp_t fun h => ?_⟩
  · rw [c_leq_t] at h
    have hda := digA_rng x1 i
    have hdb := digA_rng x2 i
    have hc := h4.2.2
    have h0 := h4.1
    have e1 : arithR .add .u64 c (digA x1 i) = c + digA x1 i := add_u64' (by omega) (by omega)
    have e2 : arithR .add .u64 (c + digA x1 i) (digA x2 i) = c + digA x1 i + digA x2 i := add_u64' (by omega) (by omega)
    have e3 : arithR .add .i64 i 1 = i + 1 := add_i64 (by omega) (by omega)
    rw [e1, e2, e3, shr_32, wrap_u32]
    have hll : ((l.length : Nat) : Int) = i := h4.2.1
    refine ⟨by show ((l.length + 1 : Nat) : Int) ≤ _; omega, ?_⟩
    have hm : m = (m - 1) + 1 := by omega
    have hc1 : i + 1 ≤ ((max (dig x1).length (dig x2).length : Nat) : Int) + 1 := by omega
    have hc2 : ((max (dig x1).length (dig x2).length : Nat) : Int) + 1 - (i + 1) ≤ ((m - 1 : Nat) : Int) := by omega
    have := hX (m - 1) (l ++ [(c + digA x1 i + digA x2 i) % 4294967296], (c + digA x1 i + digA x2 i) / 4294967296, i + 1) hm ⟨addP_step h4, hc1, hc2⟩
    exact this
  · rw [c_leq_f] at h
    simp only [kR, canon, canons, ekEq, numE, getW, getWord, allInts8, asInt, isK, kindEq, isArgB, strOf, cBig, cInts, cWords, allInts, allWords, r_ofLimbs, r_mkWord, Option.some.injEq, LV.wide.injEq, LV.word.injEq, LV.int.injEq, LV.bool.injEq, LV.str.injEq, LV.big.injEq, LV.tup.injEq, LV.agg.injEq, List.cons.injEq, and_true, true_and]
    exact addP_end h4 (by omega) (by omega)
theorem p_sub01 : SpecOk Tryz.prog globs 67 (mkSpec real [.big, .big] (s_sub01 ropsH)) := by
  have hfns : FnsOk Tryz.prog globs [(105, .spec (mkSpec real [.big, .int .i64] (s_digit ropsH))), (54, .spec (mkSpec real [.ints .u32] (s_trim ropsH)))] := (fnsCons (fnSpec (p_digit)) (fnsCons (fnSpec (p_trim)) fnsNil))
  refine specL (fun _ => [0,1,5,6,7,100005]) hfns (by kernel_rfl) Tryz.func67 (by kernel_rfl) (by kernel_rfl) (by kernel_rfl) 4 _ _ (.big) ?_
  clear hfns
  generalize hEE : envL (fun _ => [0,1,5,6,7,100005]) [(105, .spec (mkSpec real [.big, .int .i64] (s_digit ropsH))), (54, .spec (mkSpec real [.ints .u32] (s_trim ropsH)))] = EE
  intro l r hl hr
  simp only [Forms, Form] at hl
  obtain ⟨_, _, rfl, ⟨x1, rfl, x1len⟩, _, _, rfl, ⟨x2, rfl, x2len⟩, rfl⟩ := hl
  subst hEE
  generalize hK : kR (.big) r = K
  generalize hO : real = O
  generalize hS0 : rops = S0
  generalize hS1 : ropsB = S1
  generalize hS2 : ropsC = S2
  generalize hS3 : ropsD = S3
  generalize hS4 : ropsE = S4
  generalize hS5 : ropsF = S5
  generalize hS6 : ropsG = S6
  generalize hS7 : ropsH = S7
  set_option maxRecDepth 100000 in cbv
  simp only [s_sub01, R.Y] at hr
  obtain ⟨hs1, hs2, hr⟩ := hr
  subst hO hK hS0 hS1 hS2 hS3 hS4 hS5 hS6 hS7
  subst hr
  have h1l : (dig x1).length ≤ 1073741824 := hs1
  have hle : x2 ≤ x1 := hs2
  refine loop_rule (α := List Int × Int × Int) (fun p => ⟨[.big x1, .big x2, .undef, .undef, .undef, .own .u32 p.1, .int .u64 p.2.1, .int .i64 p.2.2, .undef, .undef, .undef, .undef, .undef, .undef, .undef, .undef, .undef, .undef, .undef, .undef, .undef, .undef, .undef, .undef, .undef, .undef, .undef, .undef, .undef, .undef, .undef, .undef, .undef, .undef, .undef], flagOn (ofL [none, none, none, none]), 4⟩)
    (fun m p => subP x1 x2 p.1 p.2.1 p.2.2 ∧ p.2.2 ≤ (((dig x1).length : Nat) : Int) ∧ (((dig x1).length : Nat) : Int) - p.2.2 ≤ ((m : Nat) : Int)) ?_ (dig x1).length ([], 0, 0) ⟨subP_zero x1 x2, by show (0 : Int) ≤ _; omega, by show _ - (0 : Int) ≤ _; omega⟩
  rintro m ⟨l, c, i⟩ X ⟨h1, h2, h3⟩ hX
  (generalize hK : kR _ _ = K; generalize hO : real = O; generalize hS0 : rops = S0; generalize hS1 : ropsB = S1; generalize hS2 : ropsC = S2; generalize hS3 : ropsD = S3; generalize hS4 : ropsE = S4; generalize hS5 : ropsF = S5; generalize hS6 : ropsG = S6; generalize hS7 : ropsH = S7; set_option maxRecDepth 100000 in cbv; subst hO hK hS0 hS1 hS2 hS3 hS4 hS5 hS6 hS7; dsimp only [real, rops, ropsB, ropsC, ropsD, ropsE, ropsF, ropsG, ropsH])
  have h4 : subP x1 x2 l c i := h1
  have h5 : i ≤ (((dig x1).length : Nat) : Int) := h2
  have h6 : (((dig x1).length : Nat) : Int) - i ≤ ((m : Nat) : Int) := h3
  clear h1 h2 h3
  refine ⟨imp_f fun h => ?_, imp_t fun h => ?_⟩
  · rw [c_lss_t] at h
    have hda := digA_rng x1 i
    have hdb := digA_rng x2 i
    have hc := h4.2.2
    have h0 := h4.1
    have e1 : arithR .add .u64 (digA x1 i) 4294967296 = digA x1 i + 4294967296 := add_u64' (by omega) (by omega)
    have e2 : arithR .sub .u64 (digA x1 i + 4294967296) (digA x2 i) = digA x1 i + 4294967296 - digA x2 i := sub_u64' (by omega) (by omega)
    have e3 : arithR .sub .u64 (digA x1 i + 4294967296 - digA x2 i) c = digA x1 i + 4294967296 - digA x2 i - c := sub_u64' (by omega) (by omega)
    have e4 : arithR .add .i64 i 1 = i + 1 := add_i64 (by omega) (by omega)
    have e5 : arithR .sub .u64 1 ((digA x1 i + 4294967296 - digA x2 i - c) / 4294967296) = 1 - (digA x1 i + 4294967296 - digA x2 i - c) / 4294967296 := sub_u64' (by omega) (by omega)
    rw [e1, e2, e3, e4, shr_32, e5, wrap_u32]
    have hll : ((l.length : Nat) : Int) = i := h4.2.1
    refine ⟨by show ((l.length + 1 : Nat) : Int) ≤ _; omega, ?_⟩
    have hm : m = (m - 1) + 1 := by omega
    have hc1 : i + 1 ≤ (((dig x1).length : Nat) : Int) := by omega
    have hc2 : (((dig x1).length : Nat) : Int) - (i + 1) ≤ ((m - 1 : Nat) : Int) := by omega
    have := hX (m - 1) (l ++ [(digA x1 i + 4294967296 - digA x2 i - c) % 4294967296], 1 - (digA x1 i + 4294967296 - digA x2 i - c) / 4294967296, i + 1) hm ⟨subP_step h4, hc1, hc2⟩
    exact this
  · rw [c_lss_f] at h
    simp only [kR, canon, canons, ekEq, numE, getW, getWord, allInts8, asInt, isK, kindEq, isArgB, strOf, cBig, cInts, cWords, allInts, allWords, r_ofLimbs, r_mkWord, Option.some.injEq, LV.wide.injEq, LV.word.injEq, LV.int.injEq, LV.bool.injEq, LV.str.injEq, LV.big.injEq, LV.tup.injEq, LV.agg.injEq, List.cons.injEq, and_true, true_and]
    exact subP_end hle h4 (by omega)
theorem p_shl01 : SpecOk Tryz.prog globs 56 (mkSpec real [.big, .int .i64] (s_shl01 ropsH)) := by
  have hfns : FnsOk Tryz.prog globs [(105, .spec (mkSpec real [.big, .int .i64] (s_digit ropsH))), (54, .spec (mkSpec real [.ints .u32] (s_trim ropsH)))] := (fnsCons (fnSpec (p_digit)) (fnsCons (fnSpec (p_trim)) fnsNil))
  refine specL (fun c => match c with | 0 => [0,1,5,6,100005] | 2 => [0,1,5,7,8] | _ => []) hfns (by kernel_rfl) Tryz.func56 (by kernel_rfl) (by kernel_rfl) (by kernel_rfl) 4 _ _ (.big) ?_
  clear hfns
  generalize hEE : envL (fun c => match c with | 0 => [0,1,5,6,100005] | 2 => [0,1,5,7,8] | _ => []) [(105, .spec (mkSpec real [.big, .int .i64] (s_digit ropsH))), (54, .spec (mkSpec real [.ints .u32] (s_trim ropsH)))] = EE
  intro l r hl hr
  simp only [Forms, Form] at hl
  obtain ⟨_, _, rfl, ⟨x1, rfl, x1len⟩, _, _, rfl, ⟨x2, rfl, x2lo, x2hi⟩, rfl⟩ := hl
  subst hEE
  generalize hK : kR (.big) r = K
  generalize hO : real = O
  generalize hS0 : rops = S0
  generalize hS1 : ropsB = S1
  generalize hS2 : ropsC = S2
  generalize hS3 : ropsD = S3
  generalize hS4 : ropsE = S4
  generalize hS5 : ropsF = S5
  generalize hS6 : ropsG = S6
  generalize hS7 : ropsH = S7
  set_option maxRecDepth 100000 in cbv
  simp only [s_shl01, R.Y] at hr
  obtain ⟨hs1, hs2, hr⟩ := hr
  subst hO hK hS0 hS1 hS2 hS3 hS4 hS5 hS6 hS7
  subst hr
  have h1l : (dig x1).length ≤ 1073741824 := hs1
  have hn : 0 ≤ x2 ∧ x2 ≤ 17179869184 := hs2
  have hq : arithR .quo .i64 x2 32 = x2 / 32 := quo_32 hn.1 (by omega)
  have hrm : arithR .rem .i64 x2 32 = x2 % 32 := rem_32 hn.1
  refine loop_rule (α := List Int × Int) (fun p => ⟨[.big x1, .int .i64 x2, .undef, .undef, .undef, .own .u32 p.1, .int .i64 p.2, .undef, .undef, .undef, .undef, .undef, .undef, .undef, .undef, .undef, .undef, .undef, .undef, .undef, .undef, .undef, .undef, .undef, .undef, .undef, .undef, .undef, .undef, .undef, .undef, .undef, .undef, .undef, .undef, .undef, .undef, .undef, .undef, .undef, .undef], flagOn (ofL [none, none, none]), 3⟩)
    (fun m p => 0 ≤ p.2 ∧ p.1 = List.replicate p.2.toNat 0 ∧ p.2 ≤ x2 / 32 ∧ x2 / 32 - p.2 ≤ ((m : Nat) : Int)) ?_ (x2 / 32).toNat ([], 0) ⟨Int.le_refl _, rfl, by show (0 : Int) ≤ _; omega, by show _ - (0 : Int) ≤ _; omega⟩
  rintro m ⟨l, i⟩ X ⟨h1, h2, h3, h4⟩ hX
  (generalize hK : kR _ _ = K; generalize hO : real = O; generalize hS0 : rops = S0; generalize hS1 : ropsB = S1; generalize hS2 : ropsC = S2; generalize hS3 : ropsD = S3; generalize hS4 : ropsE = S4; generalize hS5 : ropsF = S5; generalize hS6 : ropsG = S6; generalize hS7 : ropsH = S7; set_option maxRecDepth 100000 in cbv; subst hO hK hS0 hS1 hS2 hS3 hS4 hS5 hS6 hS7)
  have h5 : 0 ≤ i := h1
  have h6 : l = List.replicate i.toNat 0 := h2
  have h7 : i ≤ x2 / 32 := h3
  have h8 : x2 / 32 - i ≤ ((m : Nat) : Int) := h4
  clear h1 h2 h3 h4
  refine ⟨imp_f fun h => ?_, imp_t fun h => ?_⟩
  · replace h : cmpR .lss i (arithR .quo .i64 x2 32) = true := h
    rw [hq, c_lss_t] at h
    (dsimp only [real, rops, ropsB, ropsC, ropsD, ropsE, ropsF, ropsG, ropsH])
    have e3 : arithR .add .i64 i 1 = i + 1 := add_i64 (by omega) (by omega)
    rw [e3]
    have hll : l.length = i.toNat := by rw [h6, List.length_replicate]
    refine ⟨by show ((l.length + 1 : Nat) : Int) ≤ _; omega, ?_⟩
    have hm : m = (m - 1) + 1 := by omega
    have hc0 : l ++ [0] = List.replicate (i + 1).toNat 0 := by rw [show (i + 1).toNat = i.toNat + 1 by omega, List.replicate_succ', h6]
    have hc1 : i + 1 ≤ x2 / 32 := by omega
    have hc2 : x2 / 32 - (i + 1) ≤ ((m - 1 : Nat) : Int) := by omega
    have := hX (m - 1) (l ++ [0], i + 1) hm ⟨by show 0 ≤ i + 1; omega, hc0, hc1, hc2⟩
    exact this
  · replace h : cmpR .lss i (arithR .quo .i64 x2 32) = false := h
    rw [hq, c_lss_f] at h
    clear hX
    refine loop_rule (α := List Int × Int × Int) (fun p => ⟨[.big x1, .int .i64 x2, .undef, .undef, .undef, .own .u32 p.1, .undef, .int .u64 p.2.1, .int .i64 p.2.2, .undef, .undef, .undef, .undef, .undef, .undef, .undef, .undef, .undef, .undef, .undef, .undef, .undef, .undef, .undef, .undef, .undef, .undef, .undef, .undef, .undef, .undef, .undef, .undef, .undef, .undef, .undef, .undef, .undef, .undef, .undef, .undef], flagOn (ofL [none, none, none, none, none, none, none, none, none]), 9⟩)
      (fun m p => shlP x1 (x2 / 32).toNat (x2 % 32).toNat p.1 p.2.1 p.2.2 ∧ p.2.2 ≤ (((dig x1).length : Nat) : Int) + 1 ∧ (((dig x1).length : Nat) : Int) + 1 - p.2.2 ≤ ((m : Nat) : Int)) ?_ ((dig x1).length + 1) (l, 0, 0) ⟨shlP_zero x1 _ _ (by show l = _; rw [h6]; congr 2; omega), by show (0 : Int) ≤ _; omega, by show _ - (0 : Int) ≤ _; omega⟩
    rintro m ⟨l, c, i⟩ X ⟨h1, h2, h3⟩ hX
    (generalize hK : kR _ _ = K; generalize hO : real = O; generalize hS0 : rops = S0; generalize hS1 : ropsB = S1; generalize hS2 : ropsC = S2; generalize hS3 : ropsD = S3; generalize hS4 : ropsE = S4; generalize hS5 : ropsF = S5; generalize hS6 : ropsG = S6; generalize hS7 : ropsH = S7; set_option maxRecDepth 100000 in cbv; subst hO hK hS0 hS1 hS2 hS3 hS4 hS5 hS6 hS7; dsimp only [real, rops, ropsB, ropsC, ropsD, ropsE, ropsF, ropsG, ropsH])
    have h4 : shlP x1 (x2 / 32).toNat (x2 % 32).toNat l c i := h1
    have h5 : i ≤ (((dig x1).length : Nat) : Int) + 1 := h2
    have h6 : (((dig x1).length : Nat) : Int) + 1 - i ≤ ((m : Nat) : Int) := h3
    clear h1 h2 h3
    have hpow : 2 ^ (32 * (x2 / 32).toNat + (x2 % 32).toNat) = 2 ^ x2.toNat := by congr 1; omega
    rw [hrm]
    refine ⟨imp_f fun h => ?_, imp_t fun h => ?_⟩
    · rw [c_leq_t] at h
      have hda := digA_rng x1 i
      have hc := h4.2.2
      have h0 := h4.1
      obtain ⟨_, e1⟩ := or_shl (c := c) (d := digA x1 i) (s := x2 % 32) ⟨by omega, by omega⟩ ⟨hc.1, hc.2.1⟩ hda
      have e3 : arithR .add .i64 i 1 = i + 1 := add_i64 (by omega) (by omega)
      rw [e1, e3, shr_32, wrap_u32]
      have hll : ((l.length : Nat) : Int) = ((x2 / 32).toNat : Int) + i := h4.2.1
      refine ⟨by omega, by show ((l.length + 1 : Nat) : Int) ≤ _; omega, ?_⟩
      have hm : m = (m - 1) + 1 := by omega
      have hc1 : i + 1 ≤ (((dig x1).length : Nat) : Int) + 1 := by omega
      have hc2 : (((dig x1).length : Nat) : Int) + 1 - (i + 1) ≤ ((m - 1 : Nat) : Int) := by omega
      have := hX (m - 1) (l ++ [(c + digA x1 i * ((2 ^ (x2 % 32).toNat : Nat) : Int)) % 4294967296], (c + digA x1 i * ((2 ^ (x2 % 32).toNat : Nat) : Int)) / 4294967296, i + 1) hm ⟨shlP_step (by omega) h4, hc1, hc2⟩
      exact this
    · rw [c_leq_f] at h
      simp only [kR, canon, canons, ekEq, numE, getW, getWord, allInts8, asInt, isK, kindEq, isArgB, strOf, cBig, cInts, cWords, allInts, allWords, r_ofLimbs, r_mkWord, Option.some.injEq, LV.wide.injEq, LV.word.injEq, LV.int.injEq, LV.bool.injEq, LV.str.injEq, LV.big.injEq, LV.tup.injEq, LV.agg.injEq, List.cons.injEq, and_true, true_and]
      rw [← hpow]
      exact shlP_end (by omega) h4 (by omega)
theorem bitN_u32 {d : Int} (h : 0 ≤ d ∧ d < 4294967296) : bitN d.toNat ≤ 32 := by
  by_cases h0 : d.toNat = 0
  · rw [h0, bitN_zero]; omega
  · unfold bitN
    rw [if_neg h0]
    have := (Nat.log2_lt (k := 32) h0).2 (by omega)
    omega
theorem len_step {n d : Int} {k : Nat} (hd : 0 < d) (h : n + (bitN d.toNat : Int) = k) : n + 1 + (bitN (d / 2).toNat : Int) = k := by
  have := bitN_half (n := d.toNat) (by omega)
  rw [show (d / 2).toNat = d.toNat / 2 by omega]
  omega
def s_trimB (_ : OpsH) : List LV → R LV
  | [.big n] => .ok (.big n)
  | _ => .fail
theorem p_trimB : SpecOk Tryz.prog globs 54 (mkSpec real [.big] (s_trimB ropsH)) := by
  refine ⟨p_trim.1, fun args r hY w vals hv hg => ?_⟩
  unfold mkSpec at hY
  split at hY
  · rename_i l hl
    obtain ⟨hv', hfm⟩ := canons_VV [.big] args l vals hl hv
    simp only [Forms, Form] at hfm
    obtain ⟨_, _, rfl, ⟨n, rfl, _⟩, rfl⟩ := hfm
    have hr : LV.big n = r := hY
    subst hr
    simp only [VVs, VV] at hv'
    obtain ⟨v, _, rfl, h1, rfl⟩ := hv'
    have := p_trim.2 [.ints .u32 (dig n)] (.big (valL (dig n))) (by
      show (mkSpec real [.ints .u32] (s_trim ropsH) [.ints .u32 (dig n)]).Y _
      exact rfl) w [v] (by simp only [VVs, VV]; exact ⟨v, [], rfl, ⟨fun m hm => dig_inK n m hm, h1⟩, rfl⟩) hg
    rw [valL_dig] at this
    exact this
  · exact hY.elim
theorem rng_u64 {l : List Int} (h : ∀ n ∈ l, IntKind.u64.min ≤ n ∧ n ≤ IntKind.u64.max) (i : Nat) : 0 ≤ l.getD i 0 ∧ l.getD i 0 < 18446744073709551616 := by
  rw [List.getD_eq_getElem?_getD]
  by_cases hi : i < l.length
  · have := h l[i] (List.getElem_mem hi)
    simp only [IntKind.min, IntKind.max, IntKind.signed, IntKind.bits] at this
    simp at this
    rw [List.getElem?_eq_getElem hi]
    simp
    omega
  · rw [List.getElem?_eq_none (by omega)]
    simp
theorem p_of01 : SpecOk Tryz.prog globs 106 (mkSpec real [.ints .u64] (s_of01 ropsH)) := by
  have hfns : FnsOk Tryz.prog globs [(54, .spec (mkSpec real [.ints .u32] (s_trim ropsH)))] := (fnsCons (fnSpec (p_trim)) fnsNil)
  refine specL (fun _ => [0,3,4,100003]) hfns (by kernel_rfl) Tryz.func106 (by kernel_rfl) (by kernel_rfl) (by kernel_rfl) 4 _ _ (.big) ?_
  clear hfns
  generalize hEE : envL (fun _ => [0,3,4,100003]) [(54, .spec (mkSpec real [.ints .u32] (s_trim ropsH)))] = EE
  intro l r hl hr
  simp only [Forms, Form] at hl
  obtain ⟨_, _, rfl, ⟨x1, rfl, x1all, x1len⟩, rfl⟩ := hl
  subst hEE
  generalize hK : kR (.big) r = K
  generalize hO : real = O
  generalize hS0 : rops = S0
  generalize hS1 : ropsB = S1
  generalize hS2 : ropsC = S2
  generalize hS3 : ropsD = S3
  generalize hS4 : ropsE = S4
  generalize hS5 : ropsF = S5
  generalize hS6 : ropsG = S6
  generalize hS7 : ropsH = S7
  set_option maxRecDepth 100000 in cbv
  simp only [s_of01, R.Y] at hr
  obtain ⟨hs1, hr⟩ := hr
  subst hO hK hS0 hS1 hS2 hS3 hS4 hS5 hS6 hS7
  subst hr
  have h1l : x1.length ≤ 536870912 := hs1
  refine loop_rule (α := List Int × Int) (fun p => ⟨[.ints .u64 x1, .undef, .undef, .own .u32 p.1, .int .i64 p.2, .undef, .undef, .undef, .undef, .undef, .undef, .undef, .undef, .undef, .undef, .undef, .undef, .undef, .undef, .undef, .undef, .undef, .undef, .undef, .undef, .undef, .undef], flagOn (ofL [none, none, none]), 3⟩)
    (fun m p => ofP x1 p.1 p.2 ∧ ((x1.length : Nat) : Int) - p.2 ≤ ((m : Nat) : Int)) ?_ x1.length ([], 0) ⟨ofP_zero x1, by show _ - (0 : Int) ≤ _; omega⟩
  rintro m ⟨l, i⟩ X ⟨h1, h2⟩ hX
  (generalize hK : kR _ _ = K; generalize hO : real = O; generalize hS0 : rops = S0; generalize hS1 : ropsB = S1; generalize hS2 : ropsC = S2; generalize hS3 : ropsD = S3; generalize hS4 : ropsE = S4; generalize hS5 : ropsF = S5; generalize hS6 : ropsG = S6; generalize hS7 : ropsH = S7; set_option maxRecDepth 100000 in cbv; subst hO hK hS0 hS1 hS2 hS3 hS4 hS5 hS6 hS7; dsimp only [real, rops, ropsB, ropsC, ropsD, ropsE, ropsF, ropsG, ropsH])
  have h4 : ofP x1 l i := h1
  have h5 : ((x1.length : Nat) : Int) - i ≤ ((m : Nat) : Int) := h2
  clear h1 h2
  refine ⟨imp_f fun h => ?_, imp_t fun h => ?_⟩
  · rw [c_lss_t] at h
    have h0 := h4.1
    have hx := rng_u64 x1all i.toNat
    have e3 : arithR .add .i64 i 1 = i + 1 := add_i64 (by omega) (by omega)
    rw [e3, shr_32, wrap_u32, wrap_u32]
    have hll : ((l.length : Nat) : Int) = 2 * i := h4.2.2.1
    refine ⟨⟨h0, h⟩, ⟨h0, h⟩, by show ((l.length + 2 : Nat) : Int) ≤ _; omega, ?_⟩
    have hm : m = (m - 1) + 1 := by omega
    have hc2 : ((x1.length : Nat) : Int) - (i + 1) ≤ ((m - 1 : Nat) : Int) := by omega
    have := hX (m - 1) (l ++ [x1.getD i.toNat 0 % 4294967296, x1.getD i.toNat 0 / 4294967296 % 4294967296], i + 1) hm ⟨ofP_step h4 h hx, hc2⟩
    exact this
  · rw [c_lss_f] at h
    simp only [kR, canon, canons, ekEq, numE, getW, getWord, allInts8, asInt, isK, kindEq, isArgB, strOf, cBig, cInts, cWords, allInts, allWords, r_ofLimbs, r_mkWord, Option.some.injEq, LV.wide.injEq, LV.word.injEq, LV.int.injEq, LV.bool.injEq, LV.str.injEq, LV.big.injEq, LV.tup.injEq, LV.agg.injEq, List.cons.injEq, and_true, true_and]
    have h0 := h4.2.2.2.2
    rw [List.take_of_length_le (by omega)] at h0
    exact h0
theorem p_small01 : SpecOk Tryz.prog globs 57 (mkSpec real [.int .u64] (s_small01 ropsH)) := by
  have hfns : FnsOk Tryz.prog globs [(106, .spec (mkSpec real [.ints .u64] (s_of01 ropsH)))] := (fnsCons (fnSpec (p_of01)) fnsNil)
  refine spec0 hfns (by kernel_rfl) Tryz.func57 (by kernel_rfl) (by kernel_rfl) (by kernel_rfl) 4 _ _ (.big) ?_
  clear hfns
  generalize hEE : env0 [(106, .spec (mkSpec real [.ints .u64] (s_of01 ropsH)))] = EE
  intro l r hl hr
  simp only [Forms, Form] at hl
  obtain ⟨_, _, rfl, ⟨x1, rfl, x1lo, x1hi⟩, rfl⟩ := hl
  subst hEE
  generalize hK : kR (.big) r = K
  generalize hO : real = O
  generalize hS0 : rops = S0
  generalize hS1 : ropsB = S1
  generalize hS2 : ropsC = S2
  generalize hS3 : ropsD = S3
  generalize hS4 : ropsE = S4
  generalize hS5 : ropsF = S5
  generalize hS6 : ropsG = S6
  generalize hS7 : ropsH = S7
  set_option maxRecDepth 100000 in cbv
  subst hO hK hS0 hS1 hS2 hS3 hS4 hS5 hS6 hS7
  simp only [s_small01, R.Y] at hr
  subst hr
  try dsimp only [real, rops, ropsB, ropsC, ropsD, ropsE, ropsF, ropsG, ropsH]
  refine ⟨by show 1 ≤ 536870912; omega, ?_⟩
  simp only [kR, canon, canons, ekEq, numE, getW, getWord, allInts8, asInt, isK, kindEq, isArgB, strOf, cBig, cInts, cWords, allInts, allWords, r_ofLimbs, r_mkWord, Option.some.injEq, LV.wide.injEq, LV.word.injEq, LV.int.injEq, LV.bool.injEq, LV.str.injEq, LV.big.injEq, LV.tup.injEq, LV.agg.injEq, List.cons.injEq, and_true, true_and]
  simp [val64]
theorem p_len01 : SpecOk Tryz.prog globs 19 (mkSpec real [.big] (s_len01 ropsH)) := by
  have hfns : FnsOk Tryz.prog globs [(54, .spec (mkSpec real [.big] (s_trimB ropsH)))] := (fnsCons (fnSpec (p_trimB)) fnsNil)
  refine specL (fun _ => [0,3,4]) hfns (by kernel_rfl) Tryz.func19 (by kernel_rfl) (by kernel_rfl) (by kernel_rfl) 4 _ _ (.int .i64) ?_
  clear hfns
  generalize hEE : envL (fun _ => [0,3,4]) [(54, .spec (mkSpec real [.big] (s_trimB ropsH)))] = EE
  intro l r hl hr
  simp only [Forms, Form] at hl
  obtain ⟨_, _, rfl, ⟨x1, rfl, x1len⟩, rfl⟩ := hl
  subst hEE
  generalize hK : kR (.int .i64) r = K
  generalize hO : real = O
  generalize hS0 : rops = S0
  generalize hS1 : ropsB = S1
  generalize hS2 : ropsC = S2
  generalize hS3 : ropsD = S3
  generalize hS4 : ropsE = S4
  generalize hS5 : ropsF = S5
  generalize hS6 : ropsG = S6
  generalize hS7 : ropsH = S7
  set_option maxRecDepth 100000 in cbv
  simp only [s_len01, R.Y] at hr
  obtain ⟨hs1, hr⟩ := hr
  subst hO hK hS0 hS1 hS2 hS3 hS4 hS5 hS6 hS7
  subst hr
  have h1l : (dig x1).length ≤ 1073741824 := hs1
  have h0 : lenN x1 = ((bitN x1 : Nat) : Int) := rfl
  refine ⟨imp_f fun h => ?_, imp_t fun h => ?_⟩
  · replace h : cmpR .eql (((dig x1).length : Nat) : Int) 0 = true := h
    rw [c_eql_t] at h
    have hx : x1 = 0 := by
      rcases Nat.eq_zero_or_pos x1 with h' | h'
      · exact h'
      · have := List.length_pos_iff.2 (dig_ne (n := x1) (by omega)); omega
    (dsimp only [real, rops, ropsB, ropsC, ropsD, ropsE, ropsF, ropsG, ropsH])
    simp only [kR, canon, canons, ekEq, numE, getW, getWord, allInts8, asInt, isK, kindEq, isArgB, strOf, cBig, cInts, cWords, allInts, allWords, r_ofLimbs, r_mkWord, Option.some.injEq, LV.wide.injEq, LV.word.injEq, LV.int.injEq, LV.bool.injEq, LV.str.injEq, LV.big.injEq, LV.tup.injEq, LV.agg.injEq, List.cons.injEq, and_true, true_and]
    rw [h0, hx]; rfl
  · replace h : cmpR .eql (((dig x1).length : Nat) : Int) 0 = false := h
    rw [c_eql_f] at h
    have hx : x1 ≠ 0 := fun e => h (by rw [e]; rfl)
    have e1 : arithR .sub .i64 (((dig x1).length : Nat) : Int) 1 = ((((dig x1).length - 1 : Nat)) : Int) := by rw [sub_i64 (by omega) (by omega)]; omega
    have hb := bitN_dig hx
    refine ⟨?_, ?_⟩
    · show 0 ≤ arithR .sub .i64 (((dig x1).length : Nat) : Int) 1 ∧ arithR .sub .i64 (((dig x1).length : Nat) : Int) 1 < (((dig x1).length : Nat) : Int)
      rw [e1]; omega
    · refine loop_rule (α := Int × Int) (fun p => ⟨[.big x1, .undef, .undef, .int .i64 p.1, .int .u32 p.2, .undef, .undef, .undef, .undef, .undef, .undef, .undef, .undef, .undef, .undef, .undef, .undef, .undef, .undef, .undef, .undef, .undef, .undef, .undef, .undef, .undef, .undef, .undef], ofL [none, none, none, none, none, none, none, none, none, none, none, none, none, none, none], 15⟩)
        (fun m p => 0 ≤ p.1 ∧ 0 ≤ p.2 ∧ p.2 < 4294967296 ∧ p.1 + (bitN p.2.toNat : Int) = ((bitN (digA x1 (((dig x1).length - 1 : Nat) : Int)).toNat : Nat) : Int) ∧ p.2 ≤ ((m : Nat) : Int)) ?_ 4294967296 (0, _) ?_
      · rintro m ⟨n, d⟩ X ⟨g1, g2, g3, g4, g5⟩ hX
        (generalize hK : kR _ _ = K; generalize hO : real = O; generalize hS0 : rops = S0; generalize hS1 : ropsB = S1; generalize hS2 : ropsC = S2; generalize hS3 : ropsD = S3; generalize hS4 : ropsE = S4; generalize hS5 : ropsF = S5; generalize hS6 : ropsG = S6; generalize hS7 : ropsH = S7; set_option maxRecDepth 100000 in cbv; subst hO hK hS0 hS1 hS2 hS3 hS4 hS5 hS6 hS7; dsimp only [real, rops, ropsB, ropsC, ropsD, ropsE, ropsF, ropsG, ropsH])
        have k1 : 0 ≤ n := g1
        have k2 : 0 ≤ d := g2
        have k3 : d < 4294967296 := g3
        have k4 : n + ((bitN d.toNat : Nat) : Int) = ((bitN (digA x1 (((dig x1).length - 1 : Nat) : Int)).toNat : Nat) : Int) := g4
        have k5 : d ≤ ((m : Nat) : Int) := g5
        clear g1 g2 g3 g4 g5
        have hb2 := bitN_dig hx
        have hbnd := bitN_u32 (digA_rng x1 (((dig x1).length - 1 : Nat) : Int))
        refine ⟨imp_f fun h => ?_, imp_t fun h => ?_⟩
        · rw [c_gtr_t] at h
          have e3 : arithR .add .i64 n 1 = n + 1 := add_i64 (by omega) (by omega)
          have e4 : arithR .quo .u32 d 2 = d / 2 := half_u32 k2 k3
          rw [e3, e4]
          have hm : m = (m - 1) + 1 := by omega
          have hc2 : d / 2 ≤ ((m - 1 : Nat) : Int) := by omega
          have := hX (m - 1) (n + 1, d / 2) hm ⟨by show 0 ≤ n + 1; omega, by show 0 ≤ d / 2; omega, by show d / 2 < 4294967296; omega, len_step h k4, hc2⟩
          exact this
        · rw [c_gtr_f] at h
          have hd : d = 0 := by omega
          subst hd
          rw [show (0 : Int).toNat = 0 from rfl, bitN_zero] at k4
          have e5 : arithR .mul .i64 32 (((dig x1).length - 1 : Nat) : Int) = 32 * (((dig x1).length - 1 : Nat) : Int) := mul_i64 (by omega) (by omega)
          have e6 : arithR .add .i64 (32 * (((dig x1).length - 1 : Nat) : Int)) n = 32 * (((dig x1).length - 1 : Nat) : Int) + n := add_i64 (by omega) (by omega)
          rw [e1, e5, e6]
          simp only [kR, canon, canons, ekEq, numE, getW, getWord, allInts8, asInt, isK, kindEq, isArgB, strOf, cBig, cInts, cWords, allInts, allWords, r_ofLimbs, r_mkWord, Option.some.injEq, LV.wide.injEq, LV.word.injEq, LV.int.injEq, LV.bool.injEq, LV.str.injEq, LV.big.injEq, LV.tup.injEq, LV.agg.injEq, List.cons.injEq, and_true, true_and]
          have k6 : n = ((bitN (digA x1 (((dig x1).length - 1 : Nat) : Int)).toNat : Nat) : Int) := by
            have : n + 0 = ((bitN (digA x1 (((dig x1).length - 1 : Nat) : Int)).toNat : Nat) : Int) := k4
            omega
          show _ = ((bitN x1 : Nat) : Int)
          omega
      · have hv : ∀ v : Int, v = digA x1 (((dig x1).length - 1 : Nat) : Int) → (0 ≤ (0 : Int) ∧ 0 ≤ v ∧ v < 4294967296 ∧ 0 + (bitN v.toNat : Int) = ((bitN (digA x1 (((dig x1).length - 1 : Nat) : Int)).toNat : Nat) : Int) ∧ v ≤ ((4294967296 : Nat) : Int)) := by
          intro v hv
          subst hv
          have := digA_rng x1 (((dig x1).length - 1 : Nat) : Int)
          exact ⟨by omega, this.1, this.2, by omega, by omega⟩
        refine hv _ ?_
        show (dig x1).getD (arithR .sub .i64 (((dig x1).length : Nat) : Int) 1).toNat 0 = _
        rw [e1, digA_in (by omega)]
end Go.LE