import Derived.Test.YtghinobkekkopaaDoorW32
import Derived.Test.YtghinobkekkopaaDoorLeU
set_option linter.unusedVariables false
set_option linter.unusedSimpArgs false
namespace Go.LE
open Go Go.Proofs
def ccI (f a : Int) (w : BitVec 128) : Int := ucmp (vNeg f (irW f (1 + a % 5) w)) (vExp f (irW f (1 + a % 5) w)) (vSig f (irW f (1 + a % 5) w)) (vNeg f w) (vExp f w) (vSig f w)
structure OpsSt where
  irW : Int → Int → BitVec 128 → BitVec 128
  irX : Int → Int → BitVec 128 → Int
  okR : Int → Int → BitVec 128 → Prop
  whP : Int → BitVec 128 → Prop
  isU : Bool → Int → W → Bool → Int → W → Int → Prop
  ccP : Int → Int → BitVec 128 → Int → Prop
noncomputable def ropsSt : OpsSt where
  irW := irW
  irX := irX
  okR := fun f m w => irE f m w = 0
  whP := fun f w => whI f w = true
  isU := fun b e s c g t r => ucmp b e s c g t = r
  ccP := fun f a w c => 4 ≤ cls f w → ccI f a w = c
def s_iroundF (S : OpsSt) : List LV → R LV
  | [.int _ f, .int _ m, .word w] => .req (S.okR f m w) (.ok (.tup [.word (S.irW f m w), .int .i64 (S.irX f m w), .lit .i64 0]))
  | _ => .fail
def s_iisY (S : OpsSt) : List LV → R LV
  | [.int _ f, .word w] => .req (S.whP f w) (.ok (.blit true))
  | _ => .fail
def s_ucmpL (c : Int) (S : OpsSt) : List LV → R LV
  | [.agg [.bool b, .int _ e, .wide s], .agg [.bool d, .int _ g, .wide t]] => .req (S.isU b e s d g t c) (.ok (.lit .i64 c))
  | _ => .fail
def s_IntegralStaysZ (S : OpsSt) : List LV → R LV
  | [.int _ f, .agg [.int _ a, .int _ _], .word w] => .req (S.ccP f a w 0) (.ok (.bool true))
  | _ => .fail
def s_IntegralStaysP (S : OpsSt) : List LV → R LV
  | [.int _ f, .agg [.int _ a, .int _ _], .word w] => .req (S.ccP f a w 1) (.ok (.bool true))
  | _ => .fail
def s_IntegralStaysM (S : OpsSt) : List LV → R LV
  | [.int _ f, .agg [.int _ a, .int _ _], .word w] => .req (S.ccP f a w (-1)) (.ok (.bool true))
  | _ => .fail
def s_IntegralStays (_ : OpsSt) : List LV → R LV := fun _ => .ok (.bool true)
theorem u8_rg {x : Int} (h1 : IntKind.u8.min ≤ x) (h2 : x ≤ IntKind.u8.max) : 0 ≤ x ∧ x < 256 := by
  simp only [IntKind.min, IntKind.max, IntKind.signed, IntKind.bits] at h1 h2
  simp at h1 h2
  omega
theorem rem_u8k {x k : Int} (hx : 0 ≤ x ∧ x < 256) (hk : 0 < k ∧ k ≤ 256) : IntKind.i64.wrap (arithR .rem .u8 x k) = x % k := by
  have e : arithR .rem .u8 x k = x % k := Int.tmod_eq_emod_of_nonneg hx.1
  have h1 := Int.emod_nonneg x (show k ≠ 0 by omega)
  have h2 := Int.emod_lt_of_pos x hk.1
  rw [e, wrap_i64_of (by omega) (by omega)]
theorem same_three {a b : LV} {k : IntKind} : Same (.tup [a, b, .int k 0]) (.tup [a, b, .lit k 0]) := fun ρ w v h => by
  simp only [VV, VVs] at h ⊢
  obtain ⟨vs, h0, h1⟩ := h
  refine ⟨vs, h0, ?_⟩
  match vs, h1 with
  | [x, y, c], h1 => simpa only [VVs, VV] using h1
theorem p_iroundF : SpecOk Tryd.prog globs 32 (mkSpec real [.int .i64, .int .i64, .word] (s_iroundF ropsSt)) := by
  refine spec_as p_iround ?_
  intro l r h
  unfold s_iroundF at h
  split at h
  · rename_i k f k2 m w
    obtain ⟨h1, rfl⟩ := h
    have h1 : irE f m w = 0 := h1
    refine ⟨_, rfl, ?_⟩
    show Same (.tup [.word (irW f m w), .int .i64 (irX f m w), .int .i64 (irE f m w)]) _
    rw [h1]
    exact same_three
  · exact h.elim
theorem p_iisY : SpecOk Tryd.prog globs 33 (mkSpec real [.int .i64, .word] (s_iisY ropsSt)) := by
  refine spec_as p_iis ?_
  intro l r h
  unfold s_iisY at h
  split at h
  · rename_i k f w
    obtain ⟨h1, rfl⟩ := h
    have h1 : whI f w = true := h1
    refine ⟨_, rfl, ?_⟩
    show Same (.bool (whI f w)) _
    rw [h1]
    exact same_blit _
  · exact h.elim
theorem p_ucmpL (c : Int) : SpecOk Tryd.prog globs 25 (mkSpec real [.st [.bool, .int .i64, .wide], .st [.bool, .int .i64, .wide]] (s_ucmpL c ropsSt)) := by
  refine spec_as p_ucmp ?_
  intro l r h
  unfold s_ucmpL at h
  split at h
  · obtain ⟨h1, rfl⟩ := h
    refine ⟨_, rfl, ?_⟩
    have h1 : ucmp _ _ _ _ _ _ = c := h1; rw [← h1]; exact same_lit _ _
  · exact h.elim
theorem p_IntegralStaysZ : SpecOk Tryd.prog globs 9 (mkSpec real [.int .i64, .st [.int .u8, .int .u8], .word] (s_IntegralStaysZ ropsSt)) := by
  have hfns : FnsOk Tryd.prog globs [(14, .spec (mkSpec real [.int .i64, .word] (s_class06 ropsC))), (32, .spec (mkSpec real [.int .i64, .int .i64, .word] (s_iroundF ropsSt))), (33, .spec (mkSpec real [.int .i64, .word] (s_iisY ropsSt))), (20, .spec (mkSpec real [.int .i64, .word] (s_value ropsL))), (25, .spec (mkSpec real [.st [.bool, .int .i64, .wide], .st [.bool, .int .i64, .wide]] (s_ucmpL 0 ropsSt))), (31, .spec (mkSpec real [] (s_awake32 ropsX)))] := (fnsCons (fnSpec (p_class06)) (fnsCons (fnSpec (p_iroundF)) (fnsCons (fnSpec (p_iisY)) (fnsCons (fnSpec (p_value)) (fnsCons (fnSpec (p_ucmpL 0)) (fnsCons (fnSpec (p_awake32)) fnsNil))))))
  refine spec0 hfns (by kernel_rfl) Tryd.func9 (by kernel_rfl) (by kernel_rfl) (by kernel_rfl) 7 _ _ (.bool) ?_
  clear hfns
  generalize hEE : env0 [(14, .spec (mkSpec real [.int .i64, .word] (s_class06 ropsC))), (32, .spec (mkSpec real [.int .i64, .int .i64, .word] (s_iroundF ropsSt))), (33, .spec (mkSpec real [.int .i64, .word] (s_iisY ropsSt))), (20, .spec (mkSpec real [.int .i64, .word] (s_value ropsL))), (25, .spec (mkSpec real [.st [.bool, .int .i64, .wide], .st [.bool, .int .i64, .wide]] (s_ucmpL 0 ropsSt))), (31, .spec (mkSpec real [] (s_awake32 ropsX)))] = EE
  intro l r hl hr
  simp only [Forms, Form] at hl
  obtain ⟨_, _, rfl, ⟨x1, rfl, x1lo, x1hi⟩, _, _, rfl, ⟨_, rfl, ⟨_, _, rfl, ⟨x2_1, rfl, x2_1lo, x2_1hi⟩, _, _, rfl, ⟨x2_2, rfl, x2_2lo, x2_2hi⟩, rfl⟩⟩, _, _, rfl, ⟨x3, rfl⟩, rfl⟩ := hl
  subst hEE
  generalize hK : kR (.bool) r = K
  generalize hO : real = O
  generalize hS0 : rops = S0
  generalize hS1 : ropsB = S1
  generalize hS2 : ropsC = S2
  generalize hS3 : ropsD = S3
  generalize hS4 : ropsE = S4
  generalize hS5 : ropsF = S5
  generalize hS6 : ropsG = S6
  generalize hS7 : ropsH = S7
  generalize hS8 : ropsI = S8
  generalize hS9 : ropsJ = S9
  generalize hS10 : ropsK = S10
  generalize hS11 : ropsL = S11
  generalize hS12 : ropsM = S12
  generalize hS13 : ropsN = S13
  generalize hS14 : ropsP = S14
  generalize hS15 : ropsQ = S15
  generalize hS16 : ropsT = S16
  generalize hS17 : ropsU = S17
  generalize hS18 : ropsV = S18
  generalize hS19 : ropsW = S19
  generalize hS20 : ropsX = S20
  generalize hS21 : ropsSt = S21
  set_option maxRecDepth 100000 in cbv
  subst hO hK hS0 hS1 hS2 hS3 hS4 hS5 hS6 hS7 hS8 hS9 hS10 hS11 hS12 hS13 hS14 hS15 hS16 hS17 hS18 hS19 hS20 hS21
  simp only [s_IntegralStaysZ, R.Y] at hr
  obtain ⟨hreq, hr⟩ := hr
  try dsimp only [rops, ropsB, ropsC, ropsD, ropsE, ropsF, ropsG, ropsH, ropsI, ropsJ, ropsK, ropsL, ropsM, ropsN, ropsP, ropsQ, ropsT, ropsU, ropsV, ropsW, ropsX, ropsSt] at hreq
  subst hr
  try dsimp only [real, rops, ropsB, ropsC, ropsD, ropsE, ropsF, ropsG, ropsH, ropsI, ropsJ, ropsK, ropsL, ropsM, ropsN, ropsP, ropsQ, ropsT, ropsU, ropsV, ropsW, ropsX, ropsSt]
  have r1 := u8_rg x2_1lo x2_1hi
  have r2 := u8_rg x2_2lo x2_2hi
  rw [rem_u8k r1 (k := 5) (by omega), rem_u8k r2 (k := 5) (by omega)]
  have a1 : arithR .add .i64 1 (x2_1 % 5) = 1 + x2_1 % 5 := add_i64 (by omega) (by omega)
  have a2 : arithR .add .i64 1 (x2_2 % 5) = 1 + x2_2 % 5 := add_i64 (by omega) (by omega)
  rw [a1, a2]
  have hm : isM (1 + x2_1 % 5) = true := decide_eq_true (by omega)
  have hm2 : isM (1 + x2_2 % 5) = true := decide_eq_true (by omega)
  replace hreq : 4 ≤ cls x1 x3 → ccI x1 x2_1 x3 = 0 := hreq
  unfold ccI at hreq
  generalize 1 + x2_1 % 5 = m at *
  generalize 1 + x2_2 % 5 = m2 at *
  refine ⟨imp_f fun _ => rfl, imp_t fun h => ?_⟩
  rw [c_lss_f] at h
  have hfin := (fin_iff _ _).2 h
  obtain ⟨s1, s2, s3, s4, s5, s6, s7, s8, s9⟩ := stays hfin hm hm2
  have hu := ucmp_words s2 hfin
  have hq := hreq h
  rw [hu] at hq
  rw [hq] at s7 s8 s9
  refine ⟨s1, s3, ?_⟩
  simp only [s4, s5, s6, hu, hq]
  have n0 : cmpR .neq 0 0 = false := rfl
  have kt : kR AT.bool (LV.bool true) (LV.bool true) := rfl
  simp [n0, kt]
theorem p_IntegralStaysP : SpecOk Tryd.prog globs 9 (mkSpec real [.int .i64, .st [.int .u8, .int .u8], .word] (s_IntegralStaysP ropsSt)) := by
  have hfns : FnsOk Tryd.prog globs [(14, .spec (mkSpec real [.int .i64, .word] (s_class06 ropsC))), (32, .spec (mkSpec real [.int .i64, .int .i64, .word] (s_iroundF ropsSt))), (33, .spec (mkSpec real [.int .i64, .word] (s_iisY ropsSt))), (20, .spec (mkSpec real [.int .i64, .word] (s_value ropsL))), (25, .spec (mkSpec real [.st [.bool, .int .i64, .wide], .st [.bool, .int .i64, .wide]] (s_ucmpL 1 ropsSt))), (31, .spec (mkSpec real [] (s_awake32 ropsX)))] := (fnsCons (fnSpec (p_class06)) (fnsCons (fnSpec (p_iroundF)) (fnsCons (fnSpec (p_iisY)) (fnsCons (fnSpec (p_value)) (fnsCons (fnSpec (p_ucmpL 1)) (fnsCons (fnSpec (p_awake32)) fnsNil))))))
  refine spec0 hfns (by kernel_rfl) Tryd.func9 (by kernel_rfl) (by kernel_rfl) (by kernel_rfl) 7 _ _ (.bool) ?_
  clear hfns
  generalize hEE : env0 [(14, .spec (mkSpec real [.int .i64, .word] (s_class06 ropsC))), (32, .spec (mkSpec real [.int .i64, .int .i64, .word] (s_iroundF ropsSt))), (33, .spec (mkSpec real [.int .i64, .word] (s_iisY ropsSt))), (20, .spec (mkSpec real [.int .i64, .word] (s_value ropsL))), (25, .spec (mkSpec real [.st [.bool, .int .i64, .wide], .st [.bool, .int .i64, .wide]] (s_ucmpL 1 ropsSt))), (31, .spec (mkSpec real [] (s_awake32 ropsX)))] = EE
  intro l r hl hr
  simp only [Forms, Form] at hl
  obtain ⟨_, _, rfl, ⟨x1, rfl, x1lo, x1hi⟩, _, _, rfl, ⟨_, rfl, ⟨_, _, rfl, ⟨x2_1, rfl, x2_1lo, x2_1hi⟩, _, _, rfl, ⟨x2_2, rfl, x2_2lo, x2_2hi⟩, rfl⟩⟩, _, _, rfl, ⟨x3, rfl⟩, rfl⟩ := hl
  subst hEE
  generalize hK : kR (.bool) r = K
  generalize hO : real = O
  generalize hS0 : rops = S0
  generalize hS1 : ropsB = S1
  generalize hS2 : ropsC = S2
  generalize hS3 : ropsD = S3
  generalize hS4 : ropsE = S4
  generalize hS5 : ropsF = S5
  generalize hS6 : ropsG = S6
  generalize hS7 : ropsH = S7
  generalize hS8 : ropsI = S8
  generalize hS9 : ropsJ = S9
  generalize hS10 : ropsK = S10
  generalize hS11 : ropsL = S11
  generalize hS12 : ropsM = S12
  generalize hS13 : ropsN = S13
  generalize hS14 : ropsP = S14
  generalize hS15 : ropsQ = S15
  generalize hS16 : ropsT = S16
  generalize hS17 : ropsU = S17
  generalize hS18 : ropsV = S18
  generalize hS19 : ropsW = S19
  generalize hS20 : ropsX = S20
  generalize hS21 : ropsSt = S21
  set_option maxRecDepth 100000 in cbv
  subst hO hK hS0 hS1 hS2 hS3 hS4 hS5 hS6 hS7 hS8 hS9 hS10 hS11 hS12 hS13 hS14 hS15 hS16 hS17 hS18 hS19 hS20 hS21
  simp only [s_IntegralStaysP, R.Y] at hr
  obtain ⟨hreq, hr⟩ := hr
  try dsimp only [rops, ropsB, ropsC, ropsD, ropsE, ropsF, ropsG, ropsH, ropsI, ropsJ, ropsK, ropsL, ropsM, ropsN, ropsP, ropsQ, ropsT, ropsU, ropsV, ropsW, ropsX, ropsSt] at hreq
  subst hr
  try dsimp only [real, rops, ropsB, ropsC, ropsD, ropsE, ropsF, ropsG, ropsH, ropsI, ropsJ, ropsK, ropsL, ropsM, ropsN, ropsP, ropsQ, ropsT, ropsU, ropsV, ropsW, ropsX, ropsSt]
  have r1 := u8_rg x2_1lo x2_1hi
  have r2 := u8_rg x2_2lo x2_2hi
  rw [rem_u8k r1 (k := 5) (by omega), rem_u8k r2 (k := 5) (by omega)]
  have a1 : arithR .add .i64 1 (x2_1 % 5) = 1 + x2_1 % 5 := add_i64 (by omega) (by omega)
  have a2 : arithR .add .i64 1 (x2_2 % 5) = 1 + x2_2 % 5 := add_i64 (by omega) (by omega)
  rw [a1, a2]
  have hm : isM (1 + x2_1 % 5) = true := decide_eq_true (by omega)
  have hm2 : isM (1 + x2_2 % 5) = true := decide_eq_true (by omega)
  replace hreq : 4 ≤ cls x1 x3 → ccI x1 x2_1 x3 = 1 := hreq
  unfold ccI at hreq
  generalize 1 + x2_1 % 5 = m at *
  generalize 1 + x2_2 % 5 = m2 at *
  refine ⟨imp_f fun _ => rfl, imp_t fun h => ?_⟩
  rw [c_lss_f] at h
  have hfin := (fin_iff _ _).2 h
  obtain ⟨s1, s2, s3, s4, s5, s6, s7, s8, s9⟩ := stays hfin hm hm2
  have hu := ucmp_words s2 hfin
  have hq := hreq h
  rw [hu] at hq
  rw [hq] at s7 s8 s9
  refine ⟨s1, s3, ?_⟩
  simp only [s4, s5, s6, hu, hq]
  have n0 : cmpR .neq 0 0 = false := rfl
  have kt : kR AT.bool (LV.bool true) (LV.bool true) := rfl
  have h5 : cmpR .neq m 5 = true := by
    rw [c_neq_t]
    intro hh
    exact absurd (s8 hh) (by decide)
  have v : cmpR .neq m 3 = true ∨ vNeg x1 x3 = true := by
    by_cases h3 : m = 3
    · right
      rcases s9 h3 with hh | hh
      · exact absurd hh (by decide)
      · cases hv : vNeg x1 x3 with
        | true => rfl
        | false => rw [hv] at hh; exact absurd rfl hh
    · left; rw [c_neq_t]; exact h3
  rcases v with v | v <;> simp [n0, h5, v, kt]
theorem p_IntegralStaysM : SpecOk Tryd.prog globs 9 (mkSpec real [.int .i64, .st [.int .u8, .int .u8], .word] (s_IntegralStaysM ropsSt)) := by
  have hfns : FnsOk Tryd.prog globs [(14, .spec (mkSpec real [.int .i64, .word] (s_class06 ropsC))), (32, .spec (mkSpec real [.int .i64, .int .i64, .word] (s_iroundF ropsSt))), (33, .spec (mkSpec real [.int .i64, .word] (s_iisY ropsSt))), (20, .spec (mkSpec real [.int .i64, .word] (s_value ropsL))), (25, .spec (mkSpec real [.st [.bool, .int .i64, .wide], .st [.bool, .int .i64, .wide]] (s_ucmpL (-1) ropsSt))), (31, .spec (mkSpec real [] (s_awake32 ropsX)))] := (fnsCons (fnSpec (p_class06)) (fnsCons (fnSpec (p_iroundF)) (fnsCons (fnSpec (p_iisY)) (fnsCons (fnSpec (p_value)) (fnsCons (fnSpec (p_ucmpL (-1))) (fnsCons (fnSpec (p_awake32)) fnsNil))))))
  refine spec0 hfns (by kernel_rfl) Tryd.func9 (by kernel_rfl) (by kernel_rfl) (by kernel_rfl) 7 _ _ (.bool) ?_
  clear hfns
  generalize hEE : env0 [(14, .spec (mkSpec real [.int .i64, .word] (s_class06 ropsC))), (32, .spec (mkSpec real [.int .i64, .int .i64, .word] (s_iroundF ropsSt))), (33, .spec (mkSpec real [.int .i64, .word] (s_iisY ropsSt))), (20, .spec (mkSpec real [.int .i64, .word] (s_value ropsL))), (25, .spec (mkSpec real [.st [.bool, .int .i64, .wide], .st [.bool, .int .i64, .wide]] (s_ucmpL (-1) ropsSt))), (31, .spec (mkSpec real [] (s_awake32 ropsX)))] = EE
  intro l r hl hr
  simp only [Forms, Form] at hl
  obtain ⟨_, _, rfl, ⟨x1, rfl, x1lo, x1hi⟩, _, _, rfl, ⟨_, rfl, ⟨_, _, rfl, ⟨x2_1, rfl, x2_1lo, x2_1hi⟩, _, _, rfl, ⟨x2_2, rfl, x2_2lo, x2_2hi⟩, rfl⟩⟩, _, _, rfl, ⟨x3, rfl⟩, rfl⟩ := hl
  subst hEE
  generalize hK : kR (.bool) r = K
  generalize hO : real = O
  generalize hS0 : rops = S0
  generalize hS1 : ropsB = S1
  generalize hS2 : ropsC = S2
  generalize hS3 : ropsD = S3
  generalize hS4 : ropsE = S4
  generalize hS5 : ropsF = S5
  generalize hS6 : ropsG = S6
  generalize hS7 : ropsH = S7
  generalize hS8 : ropsI = S8
  generalize hS9 : ropsJ = S9
  generalize hS10 : ropsK = S10
  generalize hS11 : ropsL = S11
  generalize hS12 : ropsM = S12
  generalize hS13 : ropsN = S13
  generalize hS14 : ropsP = S14
  generalize hS15 : ropsQ = S15
  generalize hS16 : ropsT = S16
  generalize hS17 : ropsU = S17
  generalize hS18 : ropsV = S18
  generalize hS19 : ropsW = S19
  generalize hS20 : ropsX = S20
  generalize hS21 : ropsSt = S21
  set_option maxRecDepth 100000 in cbv
  subst hO hK hS0 hS1 hS2 hS3 hS4 hS5 hS6 hS7 hS8 hS9 hS10 hS11 hS12 hS13 hS14 hS15 hS16 hS17 hS18 hS19 hS20 hS21
  simp only [s_IntegralStaysM, R.Y] at hr
  obtain ⟨hreq, hr⟩ := hr
  try dsimp only [rops, ropsB, ropsC, ropsD, ropsE, ropsF, ropsG, ropsH, ropsI, ropsJ, ropsK, ropsL, ropsM, ropsN, ropsP, ropsQ, ropsT, ropsU, ropsV, ropsW, ropsX, ropsSt] at hreq
  subst hr
  try dsimp only [real, rops, ropsB, ropsC, ropsD, ropsE, ropsF, ropsG, ropsH, ropsI, ropsJ, ropsK, ropsL, ropsM, ropsN, ropsP, ropsQ, ropsT, ropsU, ropsV, ropsW, ropsX, ropsSt]
  have r1 := u8_rg x2_1lo x2_1hi
  have r2 := u8_rg x2_2lo x2_2hi
  rw [rem_u8k r1 (k := 5) (by omega), rem_u8k r2 (k := 5) (by omega)]
  have a1 : arithR .add .i64 1 (x2_1 % 5) = 1 + x2_1 % 5 := add_i64 (by omega) (by omega)
  have a2 : arithR .add .i64 1 (x2_2 % 5) = 1 + x2_2 % 5 := add_i64 (by omega) (by omega)
  rw [a1, a2]
  have hm : isM (1 + x2_1 % 5) = true := decide_eq_true (by omega)
  have hm2 : isM (1 + x2_2 % 5) = true := decide_eq_true (by omega)
  replace hreq : 4 ≤ cls x1 x3 → ccI x1 x2_1 x3 = (-1) := hreq
  unfold ccI at hreq
  generalize 1 + x2_1 % 5 = m at *
  generalize 1 + x2_2 % 5 = m2 at *
  refine ⟨imp_f fun _ => rfl, imp_t fun h => ?_⟩
  rw [c_lss_f] at h
  have hfin := (fin_iff _ _).2 h
  obtain ⟨s1, s2, s3, s4, s5, s6, s7, s8, s9⟩ := stays hfin hm hm2
  have hu := ucmp_words s2 hfin
  have hq := hreq h
  rw [hu] at hq
  rw [hq] at s7 s8 s9
  refine ⟨s1, s3, ?_⟩
  simp only [s4, s5, s6, hu, hq]
  have n0 : cmpR .neq 0 0 = false := rfl
  have kt : kR AT.bool (LV.bool true) (LV.bool true) := rfl
  have h5 : cmpR .neq m 4 = true := by
    rw [c_neq_t]
    intro hh
    exact absurd (s7 hh) (by decide)
  have v : cmpR .neq m 3 = true ∨ vNeg x1 x3 = false := by
    by_cases h3 : m = 3
    · right
      rcases s9 h3 with hh | hh
      · exact absurd hh (by decide)
      · cases hv : vNeg x1 x3 with
        | false => rfl
        | true => rw [hv] at hh; exact absurd rfl hh
    · left; rw [c_neq_t]; exact h3
  rcases v with v | v <;> simp [n0, h5, v, kt]
theorem p_IntegralStays : SpecOk Tryd.prog globs 9 (mkSpec real [.int .i64, .st [.int .u8, .int .u8], .word] (s_IntegralStays ropsSt)) := by
  refine spec_or (g1 := fun l => match l with
    | [.int _ f, .agg [.int _ a, .int _ _], .word w] => if ccI f a w = 0 then s_IntegralStaysZ ropsSt l else if ccI f a w = 1 then s_IntegralStaysP ropsSt l else .fail
    | _ => .fail) (g2 := s_IntegralStaysM ropsSt) ?_ p_IntegralStaysM ?_
  · refine spec_or p_IntegralStaysZ p_IntegralStaysP ?_
    intro l r hl hr
    split at hr
    · split at hr
      · exact .inl hr
      · split at hr
        · exact .inr hr
        · exact hr.elim
    · exact hr.elim
  · intro l r hl hr
    simp only [Forms, Form] at hl
    obtain ⟨_, _, rfl, ⟨f, rfl, _⟩, _, _, rfl, ⟨_, rfl, ⟨_, _, rfl, ⟨a, rfl, alo, ahi⟩, _, _, rfl, ⟨b, rfl, _⟩, rfl⟩⟩, _, _, rfl, ⟨w, rfl⟩, rfl⟩ := hl
    have hr : LV.bool true = r := hr
    subst hr
    by_cases h0 : ccI f a w = 0
    · exact .inl (by show (if _ then _ else _ : R LV).Y _; rw [if_pos h0]; exact ⟨fun _ => h0, rfl⟩)
    · by_cases h1 : ccI f a w = 1
      · exact .inl (by show (if _ then _ else _ : R LV).Y _; rw [if_neg h0, if_pos h1]; exact ⟨fun _ => h1, rfl⟩)
      · refine .inr ⟨fun hc => ?_, rfl⟩
        have hfin := (fin_iff _ _).2 hc
        have ha := u8_rg alo ahi
        obtain ⟨_, s2, _⟩ := stays hfin (show isM (1 + a % 5) = true from decide_eq_true (by omega)) (show isM 3 = true by decide)
        have hu : ccI f a w = _ := ucmp_words s2 hfin
        rw [hu] at h0 h1
        show ccI f a w = -1
        rw [hu]
        unfold sgI at *
        split
        · rfl
        · rename_i h2
          rw [if_neg h2] at h0 h1
          split at h1
          · exact absurd rfl h1
          · rename_i h3
            rw [if_neg h3] at h0
            exact absurd rfl h0
end Go.LE