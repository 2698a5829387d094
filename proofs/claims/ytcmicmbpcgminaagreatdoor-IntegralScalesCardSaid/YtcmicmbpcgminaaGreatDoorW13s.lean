import Derived.Test.YtcmicmbpcgminaaGreatDoorW13
import Derived.Test.YtcmicmbpcgminaaGreatDoorLeS
set_option linter.unusedVariables false
set_option linter.unusedSimpArgs false
namespace Go.LE
open Go Go.Proofs
structure OpsQs where
  shr : Nat → Int → Nat
  okSh : Int → Prop
  small : Nat → Prop
noncomputable def ropsQs : OpsQs where
  shr := fun a n => a / 2 ^ n.toNat
  okSh := fun n => 0 ≤ n ∧ n ≤ 17179869184
  small := small
def s_shr01 (S : OpsQs) : List LV → R LV
  | [.big a, .int _ n] => .req (S.small a) (.req (S.okSh n) (.ok (.big (S.shr a n))))
  | _ => .fail
theorem p_shr01 : SpecOk Tryz.prog globs 69 (mkSpec real [.big, .int .i64] (s_shr01 ropsQs)) := by
  have hfns : FnsOk Tryz.prog globs [(105, .spec (mkSpec real [.big, .int .i64] (s_digit ropsH))), (54, .spec (mkSpec real [.ints .u32] (s_trim ropsH)))] := (fnsCons (fnSpec (p_digit)) (fnsCons (fnSpec (p_trim)) fnsNil))
  refine specL (fun _ => [0,1,5,6,100005]) hfns (by kernel_rfl) Tryz.func69 (by kernel_rfl) (by kernel_rfl) (by kernel_rfl) 4 _ _ (.big) ?_
  clear hfns
  generalize hEE : envL (fun _ => [0,1,5,6,100005]) [(105, .spec (mkSpec real [.big, .int .i64] (s_digit ropsH))), (54, .spec (mkSpec real [.ints .u32] (s_trim ropsH)))] = EE
  intro l r hl hr
  simp only [Forms, Form] at hl
  obtain ⟨_, _, rfl, ⟨x1, rfl, x1len⟩, _, _, rfl, ⟨x2, rfl, x2lo, x2hi⟩, rfl⟩ := hl
  subst hEE
  generalize hK : kR (.big) r = K
  generalize hO : real = O
  generalize hS0 : rops = S0
  generalize hS1 : ropsB = S1
  generalize hS2 : ropsC = S2
  generalize hS3 : ropsD = S3
  generalize hS4 : ropsE = S4
  generalize hS5 : ropsF = S5
  generalize hS6 : ropsG = S6
  generalize hS7 : ropsH = S7
  generalize hS8 : ropsQs = S8
  set_option maxRecDepth 100000 in cbv
  simp only [s_shr01, R.Y] at hr
  obtain ⟨hs1, hn, hr⟩ := hr
  subst hO hK hS0 hS1 hS2 hS3 hS4 hS5 hS6 hS7 hS8
  subst hr
  have h1l : (dig x1).length ≤ 1073741824 := hs1
  have hn : 0 ≤ x2 ∧ x2 ≤ 17179869184 := hn
  have hq : arithR .quo .i64 x2 32 = ((x2.toNat / 32 : Nat) : Int) := by rw [quo_32 hn.1 (by omega)]; omega
  have hq1 : x2.toNat / 32 ≤ 536870912 := by omega
  have hrm : arithR .rem .i64 x2 32 = ((x2.toNat % 32 : Nat) : Int) := by rw [rem_32 hn.1]; omega
  refine loop_rule (α := List Int × Int) (fun p => ⟨[.big x1, .int .i64 x2, .undef, .undef, .undef, .own .u32 p.1, .int .i64 p.2, .undef, .undef, .undef, .undef, .undef, .undef, .undef, .undef, .undef, .undef, .undef, .undef, .undef, .undef, .undef, .undef, .undef, .undef, .undef, .undef, .undef, .undef, .undef, .undef, .undef, .undef], flagOn (ofL [none, none, none, none, none]), 5⟩)
    (fun m p => shrP x1 x2.toNat p.1 p.2 ∧ (p.2 ≤ (((dig x1).length : Nat) : Int) ∨ p.2 = ((x2.toNat / 32 : Nat) : Int)) ∧ (((dig x1).length : Nat) : Int) - p.2 ≤ ((m : Nat) : Int)) ?_ (dig x1).length ([], _) ⟨by show shrP x1 x2.toNat [] (arithR .quo .i64 x2 32); rw [hq]; exact shrP_zero _ _, .inr hq, by show _ - (arithR .quo .i64 x2 32) ≤ _; rw [hq]; omega⟩
  rintro m ⟨l, i⟩ X ⟨h1, h2, h3⟩ hX
  (generalize hK : kR _ _ = K; generalize hO : real = O; generalize hS0 : rops = S0; generalize hS1 : ropsB = S1; generalize hS2 : ropsC = S2; generalize hS3 : ropsD = S3; generalize hS4 : ropsE = S4; generalize hS5 : ropsF = S5; generalize hS6 : ropsG = S6; generalize hS7 : ropsH = S7; generalize hS8 : ropsQs = S8; set_option maxRecDepth 100000 in cbv; subst hO hK hS0 hS1 hS2 hS3 hS4 hS5 hS6 hS7 hS8; dsimp only [real, rops, ropsB, ropsC, ropsD, ropsE, ropsF, ropsG, ropsH, ropsQs])
  have h4 : shrP x1 x2.toNat l i := h1
  have h5 : i ≤ (((dig x1).length : Nat) : Int) ∨ i = ((x2.toNat / 32 : Nat) : Int) := h2
  have h6 : (((dig x1).length : Nat) : Int) - i ≤ ((m : Nat) : Int) := h3
  have h7 : x2.toNat / 32 ≤ 536870912 := hq1
  clear h1 h2 h3
  have h0 := h4.1
  have hll : ((l.length : Nat) : Int) = i - ((x2.toNat / 32 : Nat) : Int) := h4.2.1
  refine ⟨imp_f fun h => ?_, imp_t fun h => ?_⟩
  · replace h : cmpR .lss i (((dig x1).length : Nat) : Int) = true := h
    rw [c_lss_t] at h
    have hda := digA_rng x1 i
    have hdb := digA_rng x1 (i + 1)
    have e1 : arithR .add .i64 i 1 = i + 1 := add_i64 (by omega) (by omega)
    have e2 := or_high hda hdb
    have e3 : arithR .shr .u64 (digA x1 i + 4294967296 * digA x1 (i + 1)) ((x2.toNat % 32 : Nat) : Int) = (((digA x1 i + 4294967296 * digA x1 (i + 1)).toNat / 2 ^ (x2.toNat % 32) : Nat) : Int) := by
      rw [shr_any (by omega) (by omega), Int.toNat_natCast]
    rw [e1, e2, hrm, e3, wrap_u32]
    refine ⟨Int.natCast_nonneg _, by show ((l.length + 1 : Nat) : Int) ≤ _; omega, ?_⟩
    have hm : m = (m - 1) + 1 := by omega
    have hc1 : i + 1 ≤ (((dig x1).length : Nat) : Int) ∨ i + 1 = ((x2.toNat / 32 : Nat) : Int) := by omega
    have hc2 : (((dig x1).length : Nat) : Int) - (i + 1) ≤ ((m - 1 : Nat) : Int) := by omega
    have := hX (m - 1) (l ++ [(((digA x1 i + 4294967296 * digA x1 (i + 1)).toNat / 2 ^ (x2.toNat % 32) : Nat) : Int) % 4294967296], i + 1) hm ⟨shrP_step h4, hc1, hc2⟩
    exact this
  · replace h : cmpR .lss i (((dig x1).length : Nat) : Int) = false := h
    rw [c_lss_f] at h
    simp only [kR, canon, canons, ekEq, numE, getW, getWord, allInts8, asInt, isK, kindEq, isArgB, strOf, cBig, cInts, cWords, allInts, allWords, r_ofLimbs, r_mkWord, Option.some.injEq, LV.wide.injEq, LV.word.injEq, LV.int.injEq, LV.bool.injEq, LV.str.injEq, LV.big.injEq, LV.tup.injEq, LV.agg.injEq, List.cons.injEq, and_true, true_and]
    exact shrP_end h4 h
end Go.LE