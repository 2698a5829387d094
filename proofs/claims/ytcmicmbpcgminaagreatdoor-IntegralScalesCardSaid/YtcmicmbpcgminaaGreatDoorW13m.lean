import Derived.Test.YtcmicmbpcgminaaGreatDoorW13
import Derived.Test.YtcmicmbpcgminaaGreatDoorLeR
set_option linter.unusedVariables false
set_option linter.unusedSimpArgs false
namespace Go.LE
open Go Go.Proofs
structure OpsUm where
  small : Nat → Prop
  mul : Nat → Nat → Nat
  odd : Nat → Bool
noncomputable def ropsUm : OpsUm where
  small := small
  mul := fun a b => a * b
  odd := oddN
def s_mul01 (S : OpsUm) : List LV → R LV
  | [.big a, .big b] => .req (S.small a) (.req (S.small b) (.ok (.big (S.mul a b))))
  | _ => .fail
def s_odd01 (S : OpsUm) : List LV → R LV
  | [.big a] => .ok (.bool (S.odd a))
  | _ => .fail
set_option maxHeartbeats 4000000 in
theorem p_mul01 : SpecOk Tryz.prog globs 187 (mkSpec real [.big, .big] (s_mul01 ropsUm)) := by
  have hfns : FnsOk Tryz.prog globs [(54, .spec (mkSpec real [.ints .u32] (s_trim ropsH)))] := (fnsCons (fnSpec (p_trim)) fnsNil)
  refine specL (fun c => match c with | 0 => [0,1,5,6,100005] | 2 => [0,1,5,6,7,8] | _ => []) hfns (by kernel_rfl) Tryz.func187 (by kernel_rfl) (by kernel_rfl) (by kernel_rfl) 4 _ _ (.big) ?_
  clear hfns
  generalize hEE : envL (fun c => match c with | 0 => [0,1,5,6,100005] | 2 => [0,1,5,6,7,8] | _ => []) [(54, .spec (mkSpec real [.ints .u32] (s_trim ropsH)))] = EE
  intro l r hl hr
  simp only [Forms, Form] at hl
  obtain ⟨_, _, rfl, ⟨x1, rfl, x1len⟩, _, _, rfl, ⟨x2, rfl, x2len⟩, rfl⟩ := hl
  subst hEE
  generalize hK : kR (.big) r = K
  generalize hO : real = O
  generalize hS0 : rops = S0
  generalize hS1 : ropsB = S1
  generalize hS2 : ropsC = S2
  generalize hS3 : ropsD = S3
  generalize hS4 : ropsE = S4
  generalize hS5 : ropsF = S5
  generalize hS6 : ropsG = S6
  generalize hS7 : ropsH = S7
  generalize hS8 : ropsUm = S8
  set_option maxRecDepth 100000 in cbv
  simp only [s_mul01, R.Y] at hr
  obtain ⟨hs1, hs2, hr⟩ := hr
  subst hO hK hS0 hS1 hS2 hS3 hS4 hS5 hS6 hS7 hS8
  subst hr
  have h1l : lenD x1 ≤ 1073741824 := hs1
  have h2l : lenD x2 ≤ 1073741824 := hs2
  have hn : real.arith .add .i64 (real.lenBig x1) (real.lenBig x2) = ((lenD x1 + lenD x2 : Nat) : Int) := by
    show arithR .add .i64 ((lenD x1 : Nat) : Int) ((lenD x2 : Nat) : Int) = _
    rw [add_i64 (by omega) (by omega)]; omega
  refine ⟨by show 0 ≤ real.arith .add .i64 (real.lenBig x1) (real.lenBig x2) ∧ real.arith .add .i64 (real.lenBig x1) (real.lenBig x2) ≤ 1099511627776; rw [hn]; omega, ?_⟩
  refine loop_rule (α := List Int × Int) (fun p => ⟨[.big x1, .big x2, .undef, .undef, .undef, .own .u32 p.1, .int .i64 p.2, .undef, .undef, .undef, .undef, .undef, .undef, .undef, .undef, .undef, .undef, .undef, .undef, .undef, .undef, .undef, .undef, .undef, .undef, .undef, .undef, .undef, .undef, .undef, .undef, .undef, .undef, .undef, .undef, .undef, .undef, .undef, .undef, .undef, .undef, .undef, .undef, .undef, .undef, .undef, .undef, .undef, .undef, .undef, .undef, .undef, .undef, .undef, .undef, .undef, .undef, .undef, .undef, .undef, .undef, .undef, .undef, .undef, .undef, .undef, .undef], flagOn (ofL [none, none, none, none, none, none, none, none, none]), 9⟩)
    (fun m p => mulP x1 x2 p.1 p.2 ∧ ((lenD x1 : Nat) : Int) - p.2 ≤ ((m : Nat) : Int)) ?_ (lenD x1) (real.zerosI (real.arith .add .i64 (real.lenBig x1) (real.lenBig x2)), 0) ⟨mulP_zero x1 x2 (by show List.replicate (real.arith .add .i64 (real.lenBig x1) (real.lenBig x2)).toNat 0 = _; rw [hn]; rfl), by show _ - (0 : Int) ≤ _; omega⟩
  rintro m ⟨l, i⟩ X ⟨h1, h2⟩ hX
  (generalize hK : kR _ _ = K; generalize hO : real = O; generalize hS0 : rops = S0; generalize hS1 : ropsB = S1; generalize hS2 : ropsC = S2; generalize hS3 : ropsD = S3; generalize hS4 : ropsE = S4; generalize hS5 : ropsF = S5; generalize hS6 : ropsG = S6; generalize hS7 : ropsH = S7; generalize hS8 : ropsUm = S8; set_option maxRecDepth 100000 in cbv; subst hO hK hS0 hS1 hS2 hS3 hS4 hS5 hS6 hS7 hS8)
  have h4 : mulP x1 x2 l i := h1
  have h5 : ((lenD x1 : Nat) : Int) - i ≤ ((m : Nat) : Int) := h2
  clear h1 h2
  refine ⟨imp_f fun h => ?_, imp_t fun h => ?_⟩
  · replace h : cmpR .lss i ((lenD x1 : Nat) : Int) = true := h
    rw [c_lss_t] at h
    refine loop_rule (α := List Int × Int × Int) (fun p => ⟨[.big x1, .big x2, .undef, .undef, .undef, .own .u32 p.1, .int .i64 i, .int .u64 p.2.1, .int .i64 p.2.2, .undef, .undef, .undef, .undef, .undef, .undef, .undef, .undef, .undef, .undef, .undef, .undef, .undef, .undef, .undef, .undef, .undef, .undef, .undef, .undef, .undef, .undef, .undef, .undef, .undef, .undef, .undef, .undef, .undef, .undef, .undef, .undef, .undef, .undef, .undef, .undef, .undef, .undef, .undef, .undef, .undef, .undef, .undef, .undef, .undef, .undef, .undef, .undef, .undef, .undef, .undef, .undef, .undef, .undef, .undef, .undef, .undef, .undef], flagOn (ofL [none, none, none, none, none, none, none, none, none, none, none, none, none, none, none]), 15⟩)
      (fun m p => mulQ x1 x2 i p.1 p.2.1 p.2.2 ∧ ((lenD x2 : Nat) : Int) - p.2.2 ≤ ((m : Nat) : Int)) ?_ (lenD x2) (l, 0, 0) ⟨mulQ_zero h4 h, by show _ - (0 : Int) ≤ _; omega⟩
    rintro m2 ⟨l, c, k⟩ X2 ⟨g1, g2⟩ hX2
    (generalize hK : kR _ _ = K; generalize hO : real = O; generalize hS0 : rops = S0; generalize hS1 : ropsB = S1; generalize hS2 : ropsC = S2; generalize hS3 : ropsD = S3; generalize hS4 : ropsE = S4; generalize hS5 : ropsF = S5; generalize hS6 : ropsG = S6; generalize hS7 : ropsH = S7; generalize hS8 : ropsUm = S8; set_option maxRecDepth 100000 in cbv; subst hO hK hS0 hS1 hS2 hS3 hS4 hS5 hS6 hS7 hS8; dsimp only [real, rops, ropsB, ropsC, ropsD, ropsE, ropsF, ropsG, ropsH, ropsUm])
    have g4 : mulQ x1 x2 i l c k := g1
    have g5 : ((lenD x2 : Nat) : Int) - k ≤ ((m2 : Nat) : Int) := g2
    clear g1 g2
    have hI : i < ((lenD x1 : Nat) : Int) := h
    have h6 : ((lenD x1 : Nat) : Int) - i ≤ ((m : Nat) : Int) := h5
    clear h h5
    have hlen : l.length = lenD x1 + lenD x2 := g4.2.2.2.1
    have hb1 : ((lenD x1 : Nat) : Int) ≤ 1073741824 := by have := small_len hs1; omega
    have hb2 : ((lenD x2 : Nat) : Int) ≤ 1073741824 := by have := small_len hs2; omega
    have hi0 : 0 ≤ i := g4.1.1
    have hk0 : 0 ≤ k := g4.2.1
    have hk1 : k ≤ ((lenD x2 : Nat) : Int) := g4.2.2.1
    have hcr := g4.2.2.2.2.2.1
    have hrl := g4.2.2.2.2.1
    refine ⟨imp_f fun hh => ?_, imp_t fun hh => ?_⟩
    · replace hh : cmpR .lss k ((lenD x2 : Nat) : Int) = true := hh
      rw [c_lss_t] at hh
      obtain ⟨q1, q2⟩ := mulQ_step g4 hh
      have e1 : arithR .add .i64 i k = i + k := add_i64 (by omega) (by omega)
      have e8 : arithR .add .i64 k 1 = k + 1 := add_i64 (by omega) (by omega)
      have d1 : (dig x1).getD i.toNat 0 = digA x1 i := digA_in hi0
      have d2 : (dig x2).getD k.toNat 0 = digA x2 k := digA_in hk0
      have r1 := digA_rng x1 i
      have r2 := digA_rng x2 k
      have r3 := rngL_get hrl (i + k).toNat
      have r4 := prod_rng r1 r2
      have e2 : IntKind.u64.wrap (digA x1 i) = digA x1 i := wrap_u64_of (by omega) (by omega)
      have e3 : IntKind.u64.wrap (digA x2 k) = digA x2 k := wrap_u64_of (by omega) (by omega)
      have e4 : IntKind.u64.wrap (l.getD (i + k).toNat 0) = l.getD (i + k).toNat 0 := wrap_u64_of (by omega) (by omega)
      have e5 : arithR .mul .u64 (digA x1 i) (digA x2 k) = digA x1 i * digA x2 k := wrap_u64_of (by omega) (by omega)
      have e6 : arithR .add .u64 c (l.getD (i + k).toNat 0) = c + l.getD (i + k).toNat 0 := add_u64' (by omega) (by omega)
      have e7 : arithR .add .u64 (c + l.getD (i + k).toNat 0) (digA x1 i * digA x2 k) = c + l.getD (i + k).toNat 0 + digA x1 i * digA x2 k := add_u64' q1.1 q1.2
      rw [e1, d1, d2, e2, e3, e4, e5, e6, e7, e8, shr_32, wrap_u32]
      have b1 : i + k < ((l.length : Nat) : Int) := by omega
      refine ⟨⟨by omega, b1⟩, ⟨hi0, hI⟩, ⟨hk0, hh⟩, ⟨by omega, b1⟩, ?_⟩
      have hm : m2 = (m2 - 1) + 1 := by omega
      have hc2 : ((lenD x2 : Nat) : Int) - (k + 1) ≤ ((m2 - 1 : Nat) : Int) := by omega
      have := hX2 (m2 - 1) (l.set (i + k).toNat ((c + l.getD (i + k).toNat 0 + digA x1 i * digA x2 k) % 4294967296), (c + l.getD (i + k).toNat 0 + digA x1 i * digA x2 k) / 4294967296, k + 1) hm ⟨q2, hc2⟩
      exact this
    · replace hh : cmpR .lss k ((lenD x2 : Nat) : Int) = false := hh
      rw [c_lss_f] at hh
      have q2 := mulQ_end g4 hh
      have e1 : arithR .add .i64 i (((dig x2).length : Nat) : Int) = i + ((lenD x2 : Nat) : Int) := add_i64 (by show _ ≤ i + ((lenD x2 : Nat) : Int); omega) (by show i + ((lenD x2 : Nat) : Int) ≤ _; omega)
      have e8 : arithR .add .i64 i 1 = i + 1 := add_i64 (by omega) (by omega)
      have e9 : c % 4294967296 = c := Int.emod_eq_of_lt hcr.1 hcr.2
      rw [e1, e8, wrap_u32, e9]
      have b1 : i + ((lenD x2 : Nat) : Int) < ((l.length : Nat) : Int) := by omega
      refine ⟨⟨by omega, b1⟩, ?_⟩
      have hm : m = (m - 1) + 1 := by omega
      have hc2 : ((lenD x1 : Nat) : Int) - (i + 1) ≤ ((m - 1 : Nat) : Int) := by omega
      have := hX (m - 1) (l.set (i + ((lenD x2 : Nat) : Int)).toNat c, i + 1) hm ⟨q2, hc2⟩
      exact this
  · replace h : cmpR .lss i ((lenD x1 : Nat) : Int) = false := h
    rw [c_lss_f] at h
    (dsimp only [real, rops, ropsB, ropsC, ropsD, ropsE, ropsF, ropsG, ropsH, ropsUm])
    simp only [kR, canon, canons, ekEq, numE, getW, getWord, allInts8, asInt, isK, kindEq, isArgB, strOf, cBig, cInts, cWords, allInts, allWords, r_ofLimbs, r_mkWord, Option.some.injEq, LV.wide.injEq, LV.word.injEq, LV.int.injEq, LV.bool.injEq, LV.str.injEq, LV.big.injEq, LV.tup.injEq, LV.agg.injEq, List.cons.injEq, and_true, true_and]
    exact mulP_end h4 h
theorem p_odd01 : SpecOk Tryz.prog globs 68 (mkSpec real [.big] (s_odd01 ropsUm)) := by
  have hfns : FnsOk Tryz.prog globs [(105, .spec (mkSpec real [.big, .int .i64] (s_digit ropsH)))] := (fnsCons (fnSpec (p_digit)) fnsNil)
  refine spec0 hfns (by kernel_rfl) Tryz.func68 (by kernel_rfl) (by kernel_rfl) (by kernel_rfl) 4 _ _ (.bool) ?_
  clear hfns
  generalize hEE : env0 [(105, .spec (mkSpec real [.big, .int .i64] (s_digit ropsH)))] = EE
  intro l r hl hr
  simp only [Forms, Form] at hl
  obtain ⟨_, _, rfl, ⟨x1, rfl, x1len⟩, rfl⟩ := hl
  subst hEE
  generalize hK : kR (.bool) r = K
  generalize hO : real = O
  generalize hS0 : rops = S0
  generalize hS1 : ropsB = S1
  generalize hS2 : ropsC = S2
  generalize hS3 : ropsD = S3
  generalize hS4 : ropsE = S4
  generalize hS5 : ropsF = S5
  generalize hS6 : ropsG = S6
  generalize hS7 : ropsH = S7
  generalize hS8 : ropsUm = S8
  set_option maxRecDepth 100000 in cbv
  subst hO hK hS0 hS1 hS2 hS3 hS4 hS5 hS6 hS7 hS8
  simp only [s_odd01, R.Y] at hr
  subst hr
  try dsimp only [real, rops, ropsB, ropsC, ropsD, ropsE, ropsF, ropsG, ropsH, ropsUm]
  simp only [kR, canon, canons, ekEq, numE, getW, getWord, allInts8, asInt, isK, kindEq, isArgB, strOf, cBig, cInts, cWords, allInts, allWords, r_ofLimbs, r_mkWord, Option.some.injEq, LV.wide.injEq, LV.word.injEq, LV.int.injEq, LV.bool.injEq, LV.str.injEq, LV.big.injEq, LV.tup.injEq, LV.agg.injEq, List.cons.injEq, and_true, true_and]
  rw [show digA x1 0 = ((x1 % 4294967296 : Nat) : Int) by unfold digA; simp, rem2_nat, eql_dec]
  unfold oddN
  exact decide_eq_decide.2 (by omega)
end Go.LE