import Derived.Test.YtdfheggbjjkcdaaDoorW23
set_option linter.unusedVariables false
set_option linter.unusedSimpArgs false
namespace Go.LE
open Go Go.Proofs
def s_nextY (S : OpsN) : List LV → R LV
  | [.int _ f, .word w, .bool up] => .req (S.knw f w) (.ok (.tup [.word (S.onx f w up), .blit true]))
  | _ => .fail
def s_stepsY (S : OpsR) : List LV → R LV
  | [.int _ f, .word a, .word b] => .req (S.kY f a b) (.ok (.tup [.wide (S.stepW f a b), .blit true]))
  | _ => .fail
theorem p_nextY : SpecOk Tryd.prog globs 47 (mkSpec real [.int .i64, .word, .bool] (s_nextY ropsN)) := by
  refine spec_as p_next ?_
  intro l r h
  unfold s_nextY at h
  split at h
  · rename_i k f w up
    obtain ⟨h1, rfl⟩ := h
    have h1 : 3 ≤ cls f w := h1
    refine ⟨_, rfl, ?_⟩
    show Same (.tup [.word (onx f w up), .bool (decide (3 ≤ cls f w))]) _
    rw [decide_eq_true h1]
    exact same_two
  · exact h.elim
theorem p_stepsY : SpecOk Tryd.prog globs 29 (mkSpec real [.int .i64, .word, .word] (s_stepsY ropsR)) := by
  refine spec_as p_steps ?_
  intro l r h
  unfold s_stepsY at h
  split at h
  · rename_i k f a b
    obtain ⟨h1, rfl⟩ := h
    have h1 : kn2 f a b = true := h1
    refine ⟨_, rfl, ?_⟩
    show Same (.tup [_, .bool (kn2 f a b)]) _
    rw [h1]
    exact same_two
  · exact h.elim
theorem p_OrderWalks : SpecOk Tryd.prog globs 9 (mkSpec real [.int .i64, .word, .int .u8] (s_OrderWalks ropsR)) := by
  have hfns : FnsOk Tryd.prog globs [(30, .spec (mkSpec real [.int .i64, .word] (s_known28 ropsN))), (31, .spec (mkSpec real [] (s_awake28 ropsN))), (47, .spec (mkSpec real [.int .i64, .word, .bool] (s_nextY ropsN))), (48, .spec (mkSpec real [.int .i64, .word, .word] (s_compY ropsR))), (29, .spec (mkSpec real [.int .i64, .word, .word] (s_stepsY ropsR)))] := (fnsCons (fnSpec (p_known28)) (fnsCons (fnSpec (p_awake28)) (fnsCons (fnSpec (p_nextY)) (fnsCons (fnSpec (p_compY)) (fnsCons (fnSpec (p_stepsY)) fnsNil)))))
  refine specL (fun _ => [0,2,4,7,8]) hfns (by kernel_rfl) Tryd.func9 (by kernel_rfl) (by kernel_rfl) (by kernel_rfl) 4 _ _ (.bool) ?_
  clear hfns
  generalize hEE : envL (fun _ => [0,2,4,7,8]) [(30, .spec (mkSpec real [.int .i64, .word] (s_known28 ropsN))), (31, .spec (mkSpec real [] (s_awake28 ropsN))), (47, .spec (mkSpec real [.int .i64, .word, .bool] (s_nextY ropsN))), (48, .spec (mkSpec real [.int .i64, .word, .word] (s_compY ropsR))), (29, .spec (mkSpec real [.int .i64, .word, .word] (s_stepsY ropsR)))] = EE
  intro l r hl hr
  simp only [Forms, Form] at hl
  obtain ⟨_, _, rfl, ⟨x1, rfl, x1lo, x1hi⟩, _, _, rfl, ⟨x2, rfl⟩, _, _, rfl, ⟨x3, rfl, x3lo, x3hi⟩, rfl⟩ := hl
  subst hEE
  generalize hK : kR (.bool) r = K
  generalize hO : real = O
  generalize hS0 : rops = S0
  generalize hS1 : ropsB = S1
  generalize hS2 : ropsC = S2
  generalize hS3 : ropsD = S3
  generalize hS4 : ropsE = S4
  generalize hS5 : ropsF = S5
  generalize hS6 : ropsG = S6
  generalize hS7 : ropsH = S7
  generalize hS8 : ropsI = S8
  generalize hS9 : ropsJ = S9
  generalize hS10 : ropsK = S10
  generalize hS11 : ropsL = S11
  generalize hS12 : ropsM = S12
  generalize hS13 : ropsN = S13
  generalize hS14 : ropsP = S14
  generalize hS15 : ropsQ = S15
  generalize hS16 : ropsR = S16
  set_option maxRecDepth 100000 in cbv
  have hr : r = _ := hr.symm
  subst hO hK hS0 hS1 hS2 hS3 hS4 hS5 hS6 hS7 hS8 hS9 hS10 hS11 hS12 hS13 hS14 hS15 hS16
  subst hr
  refine ⟨imp_f fun _ => by rw [kb_t], imp_t fun h => ?_⟩
  replace h : (!decide (3 ≤ cls x1 x2)) = false := h
  have hk : 3 ≤ cls x1 x2 := by simpa using h
  have e1 : IntKind.u8.min = 0 := rfl
  have e2 : IntKind.u8.max = 255 := rfl
  rw [e1] at x3lo
  rw [e2] at x3hi
  refine loop_rule (α := BitVec 128 × Int) (fun p => ⟨[.int .i64 x1, .undef, .int .u8 x3, .undef, .ptr 0 0, .undef, .undef, .ptr 7 0, .int .i64 p.2, .undef, .undef, .undef, .undef, .undef, .undef, .undef, .undef, .undef, .undef, .undef, .undef, .undef, .undef, .undef, .undef, .undef, .undef, .undef, .undef, .undef, .undef, .undef, .undef, .undef, .undef, .undef, .undef, .undef, .undef, .undef, .undef, .undef, .undef, .undef, .undef, .undef, .undef, .undef, .undef, .undef, .undef, .undef, .undef, .undef, .undef, .undef, .undef, .undef, .undef, .undef, .undef, .undef, .undef, .undef, .undef, .undef, .undef, .undef, .undef, .undef, .undef, .undef, .undef, .undef, .undef, .undef, .undef, .undef, .undef, .undef, .undef, .undef, .undef, .undef, .undef], ofL [some (wordT, .word x2), none, none, none, none, none, none, some (wordT, .word p.1), none, none], 10⟩)
    (fun m p => 3 ≤ cls x1 p.1 ∧ sval x1 p.1 = sval x1 x2 + p.2 ∧ 0 ≤ p.2 ∧ p.2 ≤ 20 ∧ 21 - p.2 ≤ ((m : Nat) : Int)) ?_ 21 (x2, 0) ⟨hk, by show sval x1 x2 = sval x1 x2 + 0; omega, Int.le_refl _, by show (0 : Int) ≤ 20; decide, by show 21 - (0 : Int) ≤ 21; decide⟩
  rintro m ⟨b, i⟩ X ⟨h1, h2, h3, h4, h5⟩ hX
  (generalize hK : kR _ _ = K; generalize hO : real = O; generalize hS0 : rops = S0; generalize hS1 : ropsB = S1; generalize hS2 : ropsC = S2; generalize hS3 : ropsD = S3; generalize hS4 : ropsE = S4; generalize hS5 : ropsF = S5; generalize hS6 : ropsG = S6; generalize hS7 : ropsH = S7; generalize hS8 : ropsI = S8; generalize hS9 : ropsJ = S9; generalize hS10 : ropsK = S10; generalize hS11 : ropsL = S11; generalize hS12 : ropsM = S12; generalize hS13 : ropsN = S13; generalize hS14 : ropsP = S14; generalize hS15 : ropsQ = S15; generalize hS16 : ropsR = S16; set_option maxRecDepth 100000 in cbv; subst hO hK hS0 hS1 hS2 hS3 hS4 hS5 hS6 hS7 hS8 hS9 hS10 hS11 hS12 hS13 hS14 hS15 hS16; dsimp only [real, rops, ropsB, ropsC, ropsD, ropsE, ropsF, ropsG, ropsH, ropsI, ropsJ, ropsK, ropsL, ropsM, ropsN, ropsP, ropsQ, ropsR])
  have hb : 3 ≤ cls x1 b := h1
  have k2 : sval x1 b = sval x1 x2 + i := h2
  have k3 : 0 ≤ i := h3
  have k4 : i ≤ 20 := h4
  have k5 : 21 - i ≤ ((m : Nat) : Int) := h5
  clear h1 h2 h3 h4 h5
  have hn := onx_known hb true
  have hup := onx_up hb
  have hc : cmpO x1 b (onx x1 b true) = sgI (sval x1 b - sval x1 (onx x1 b true)) := by unfold cmpO; rw [kn2_iff.2 ⟨hb, hn⟩]; rfl
  have hs : sval x1 (onx x1 b true) = sval x1 b ∨ sval x1 (onx x1 b true) = sval x1 b + 1 := hup.imp (fun e => by rw [e]) id
  have hr20 : 0 ≤ arithR .rem .u8 x3 20 ∧ arithR .rem .u8 x3 20 < 20 := by
    have : arithR .rem .u8 x3 20 = x3 % 20 := Int.tmod_eq_emod_of_nonneg x3lo
    omega
  have hw20 : IntKind.i64.wrap (arithR .rem .u8 x3 20) = arithR .rem .u8 x3 20 := wrap_i64_of (by omega) (by omega)
  rw [hw20, hc, lss_dec, sgI_gtr, sgI_eql]
  have e3 : arithR .add .i64 i 1 = i + 1 := add_i64 (by omega) (by omega)
  have e4 : IntKind.u64.wrap (i + 1) = i + 1 := wrap_u64_of (by omega) (by omega)
  have hlen := half_512 (fits_lt (known_fits hk)).1 (n := (i + 1).toNat) (by
    have := inf_pos (fits_lt (known_fits hk)).1
    have hh : 2 ^ 5 ≤ halfN x1 := Nat.pow_le_pow_right (by decide) (by have := b_len x1 (fits_lt (known_fits hk)).1; omega)
    omega)
  have e5 : ofLimbsR (i + 1) 0 0 0 0 0 0 0 = BitVec.ofNat 512 (i + 1).toNat := by
    apply BitVec.eq_of_toNat_eq
    rw [of1_toNat (x := i + 1) ⟨by omega, by omega⟩, BitVec.toNat_ofNat, Nat.mod_eq_of_lt hlen]
  have e6 : onx x1 b true ≠ b → stepW x1 x2 (onx x1 b true) = BitVec.ofNat 512 (i + 1).toNat := fun hne => by
    have := hup.resolve_left hne
    unfold stepW
    rw [kn2_iff.2 ⟨hk, hn⟩, cond_true]
    congr 1
    unfold stepN
    omega
  rw [e3, e4, e5]
  have hstep : (!decide (onx x1 b true = b)) = true → sval x1 (onx x1 b true) = sval x1 b + 1 := fun hh => hup.resolve_left (by simpa using hh)
  refine ⟨imp_f fun h => ?_, imp_t fun _ => by rw [kb_t]⟩
  rw [decide_eq_true_eq] at h
  have hm : m = (m - 1) + 1 := by omega
  refine ⟨hb, kn2_iff.2 ⟨hb, hn⟩, imp_f fun g => ?_, imp_t fun _ => ⟨imp_f fun g => ⟨imp_f fun g2 => ?_, imp_t fun g2 => ⟨kn2_iff.2 ⟨hk, hn⟩, imp_f fun _ => by rw [kb_t], imp_t fun g3 => ?_⟩⟩, imp_t fun g => ⟨kn2_iff.2 ⟨hk, hn⟩, imp_f fun _ => by rw [kb_t], imp_t fun g3 => ⟨imp_f fun g4 => ?_, imp_t fun _ => ?_⟩⟩⟩⟩
  · rw [decide_eq_true_eq] at g; omega
  · rw [decide_eq_true_eq] at g
    have := hstep g2
    omega
  · rw [Bool.not_eq_false'] at g2
    rw [g2] at g3; cases g3
  · rw [decide_eq_false_iff_not] at g3
    rw [e6 g3] at g4
    simp at g4
  · rw [decide_eq_false_iff_not] at g3
    have h7 := hup.resolve_left g3
    exact hX (m - 1) (onx x1 b true, i + 1) hm ⟨hn, by show sval x1 (onx x1 b true) = sval x1 x2 + (i + 1); omega, by show 0 ≤ i + 1; omega, by show i + 1 ≤ 20; omega, by show 21 - (i + 1) ≤ ((m - 1 : Nat) : Int); omega⟩
end Go.LE