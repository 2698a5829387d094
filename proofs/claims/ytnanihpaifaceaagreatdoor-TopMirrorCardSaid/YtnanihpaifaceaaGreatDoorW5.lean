import Derived.Test.YtnanihpaifaceaaGreatDoorW4
set_option linter.unusedVariables false
set_option linter.unusedSimpArgs false
namespace Go.LE
open Go Go.Proofs
theorem p_times : SpecOk Tryz.prog globs 27 (mkSpec real [.str, .int .i64] (s_times rops)) := by
  have hfns : FnsOk Tryz.prog globs [] := fnsNil
  refine specL (fun _ => [0,1,5,6]) hfns (by kernel_rfl) Tryz.func27 (by kernel_rfl) (by kernel_rfl) (by kernel_rfl) 4 _ _ (.str) ?_
  clear hfns
  generalize hEE : envL (fun _ => [0,1,5,6]) [] = EE
  intro l r hl hr
  simp only [Forms, Form] at hl
  obtain ⟨_, _, rfl, ⟨x1, rfl, x1len⟩, _, _, rfl, ⟨x2, rfl, x2lo, x2hi⟩, rfl⟩ := hl
  subst hEE
  generalize hK : kR (.str) r = K
  generalize hO : real = O
  set_option maxRecDepth 100000 in cbv
  obtain ⟨hq, hr⟩ := hr
  have hr : r = _ := hr.symm
  subst hr
  have hq : (x1.size : Int) * x2 < 100000 ∧ x2 < 100000 := hq
  refine loop_rule (α := ByteArray × Int) (fun x => ⟨[.str x1, .int .i64 x2, .undef, .undef, .undef, .str x.1, .int .i64 x.2, .undef, .undef, .undef, .undef, .undef, .undef, .undef, .undef, .undef], ofL [none, none, none], 3⟩)
    (fun m x => 0 ≤ x.2 ∧ (x.2 ≤ x2 ∨ x2 ≤ 0 ∧ x.2 = 0) ∧ x.1 = bTimesN x1 x.2.toNat ∧ x2 - x.2 ≤ m) ?_ x2.toNat (ByteArray.empty, 0) ⟨by decide, by simp; omega, rfl, by simp; omega⟩
  rintro m ⟨out, i⟩ X ⟨h1, h2, h3, h4⟩ hX
  replace h1 : 0 ≤ i := h1
  replace h2 : i ≤ x2 ∨ x2 ≤ 0 ∧ i = 0 := h2
  replace h3 : out = bTimesN x1 i.toNat := h3
  replace h4 : x2 - i ≤ m := h4
  set_option maxRecDepth 100000 in cbv
  subst hO hK 
  dsimp only [real]
  refine ⟨imp_f fun h => ?_, imp_t fun h => ?_⟩
  · rw [c_lss_t] at h
    have hi : arithR .add .i64 i 1 = i + 1 := add_i64 (by omega) (by omega)
    have hn : (i + 1).toNat = i.toNat + 1 := by omega
    refine ⟨?_, ?_⟩
    · subst h3
      rw [bTimesN_size]
      have e1 := Nat.mul_le_mul_right x1.size (show i.toNat + 1 ≤ x2.toNat by omega)
      have e2 : ((x2.toNat * x1.size : Nat) : Int) = (x1.size : Int) * x2 := by
        rw [Int.natCast_mul, Int.mul_comm]; congr 1; omega
      have e3 : ((x2.toNat * x1.size : Nat) : Int) < 100000 := by rw [e2]; exact hq.1
      rw [Nat.succ_mul] at e1
      rw [i64_max]
      omega
    · have h5 : x2 - i ≤ ((m : Nat) : Int) := h4
      clear h4
      have hm : m = (m - 1) + 1 := by omega
      have := hX (m - 1) (out ++ x1, arithR .add .i64 i 1) hm ⟨by rw [hi]; show 0 ≤ i + 1; omega, by rw [hi]; show i + 1 ≤ x2 ∨ _; omega, by rw [hi, hn]; show out ++ x1 = bTimesN x1 (i.toNat) ++ x1; rw [h3], by rw [hi]; show x2 - (i + 1) ≤ (((m - 1 : Nat)) : Int); omega⟩
      exact this
  · rw [c_lss_f] at h
    simp only [kR, canon, strOf, Option.some.injEq, LV.str.injEq]
    show out = bTimesN x1 x2.toNat
    rw [h3]
    congr 1
    show i.toNat = x2.toNat
    omega
end Go.LE
namespace Go.LE
open Go Go.Proofs
def s_sign05 (S : Ops) : List LV → R LV
  | [.bool b] => .ok (.str (S.sign05 b))
  | _ => .fail
def s_bword (S : Ops) : List LV → R LV
  | [.str s] => .ok (.word (S.bword s))
  | _ => .fail
theorem p_sign05 : SpecOk Tryz.prog globs 30 (mkSpec real [.bool] (s_sign05 rops)) := by
  have hfns : FnsOk Tryz.prog globs [] := fnsNil
  refine spec0 hfns (by kernel_rfl) Tryz.func30 (by kernel_rfl) (by kernel_rfl) (by kernel_rfl) 4 _ _ (.str) ?_
  clear hfns
  generalize hEE : env0 [] = EE
  intro l r hl hr
  simp only [Forms, Form] at hl
  obtain ⟨_, _, rfl, ⟨x1, rfl⟩, rfl⟩ := hl
  subst hEE
  generalize hK : kR (.str) r = K
  generalize hO : real = O
  set_option maxRecDepth 100000 in cbv
  subst hO hK 
  simp only [s_sign05, R.Y] at hr
  subst hr
  try dsimp only [real, rops]
  refine ⟨imp_f fun h => ?_, imp_t fun h => ?_⟩
  · subst h; simp only [kR, canon, strOf]; rfl
  · subst h; simp only [kR, canon, strOf]; rfl
theorem p_bword : SpecOk Tryz.prog globs 26 (mkSpec real [.str] (s_bword rops)) := by
  have hfns : FnsOk Tryz.prog globs [] := fnsNil
  refine specL (fun _ => [0,2,3,4]) hfns (by kernel_rfl) Tryz.func26 (by kernel_rfl) (by kernel_rfl) (by kernel_rfl) 4 _ _ (.word) ?_
  clear hfns
  generalize hEE : envL (fun _ => [0,2,3,4]) [] = EE
  intro l r hl hr
  simp only [Forms, Form] at hl
  obtain ⟨_, _, rfl, ⟨x1, rfl, x1len⟩, rfl⟩ := hl
  subst hEE
  generalize hK : kR (.word) r = K
  generalize hO : real = O
  set_option maxRecDepth 100000 in cbv
  have hr : r = _ := hr.symm
  subst hO hK 
  subst hr
  refine loop_rule (α := BitVec 128 × BitVec 128 × Int) (fun x => ⟨[.str x1, .undef, .ptr 0 0, .ptr 1 0, .int .i64 x.2.2, .undef, .undef, .undef, .undef, .undef, .undef, .undef, .undef, .undef, .undef, .undef, .undef, .undef, .undef, .undef, .undef, .undef, .undef, .undef, .undef, .undef, .undef, .undef, .undef, .undef, .undef, .undef], ofL [some (wordT, .word x.1), some (wordT, .word x.2.1), none], 3⟩)
    (fun m x => 0 ≤ x.2.2 ∧ x.2.2 ≤ (x1.size : Int) ∧ x.2.1 = bwAt x1 x.2.2.toNat ∧ (x1.size : Int) - x.2.2 ≤ m) ?_ x1.size (mkWordR 0 0, mkWordR 0 0, 0) ⟨by decide, by simp, by show mkWordR 0 0 = bwAt x1 0; rw [← mk_hi_lo (bwAt x1 0), ← (bwAt_zero x1).1, ← (bwAt_zero x1).2], by simp⟩
  rintro m ⟨z, b, i⟩ X ⟨h1, h2, h3, h4⟩ hX
  replace h1 : 0 ≤ i := h1
  replace h2 : i ≤ (x1.size : Int) := h2
  replace h3 : b = bwAt x1 i.toNat := h3
  (generalize hK : kR _ _ = K; generalize hO : real = O; set_option maxRecDepth 100000 in cbv; subst hO hK ; dsimp only [real, rops])
  refine ⟨imp_f fun h => ?_, imp_t fun h => ?_⟩
  · rw [c_lss_t] at h
    have h5 : ((x1.size : Nat) : Int) - i ≤ ((m : Nat) : Int) := h4
    replace h : i < ((x1.size : Nat) : Int) := h
    replace h2 : i ≤ ((x1.size : Nat) : Int) := h2
    replace x1len : ((x1.size : Nat) : Int) ≤ 9223372036854775807 := x1len
    clear h4
    have hi1 : arithR .add .i64 i 1 = i + 1 := add_i64 (by omega) (by omega)
    have hn : (i + 1).toNat = i.toNat + 1 := by omega
    have hlt : i.toNat < x1.size := by omega
    have hst := bword_take x1 i.toNat hlt
    rw [show ((i.toNat : Nat) : Int) = i by omega, ← h3] at hst
    have hm : m = (m - 1) + 1 := by omega
    have hc : ((x1.size : Nat) : Int) - (i + 1) ≤ ((m - 1 : Nat) : Int) := by omega
    have fin : ∀ b', b' = bwAt x1 (i.toNat + 1) → _ := fun b' e => hX (m - 1) (z, b', i + 1) hm ⟨by show 0 ≤ i + 1; omega, by show i + 1 ≤ ((x1.size : Nat) : Int); omega, by show b' = bwAt x1 (i + 1).toNat; rw [hn]; exact e, hc⟩
    refine ⟨⟨h1, h⟩, imp_f fun hb => ?_, imp_t fun hb => ?_⟩
    · rw [c_eql_t] at hb
      rw [if_pos hb] at hst
      obtain ⟨g1, g2⟩ := word_step b 1 (by decide)
      have hlo := lo_rng b
      have g3 : arithR .add .u64 (arithR .shl .u64 (loR b) 1) 1 = arithR .shl .u64 (loR b) 1 + ((1 : Nat) : Int) := by
        rw [shl1 hlo]
        exact wrap_u64_of (by omega) (by omega)
      have := fin (mkWordR (arithR .or .u64 (arithR .shl .u64 (hiR b) 1) (arithR .shr .u64 (loR b) 63)) (arithR .add .u64 (arithR .shl .u64 (loR b) 1) 1)) (by rw [g3, ← g1, ← g2, mk_hi_lo, hst])
      rw [hi1]
      exact this
    · rw [c_eql_f] at hb
      rw [if_neg hb] at hst
      obtain ⟨g1, g2⟩ := word_step b 0 (by decide)
      rw [Int.natCast_zero, Int.add_zero] at g2
      have := fin (mkWordR (arithR .or .u64 (arithR .shl .u64 (hiR b) 1) (arithR .shr .u64 (loR b) 63)) (arithR .shl .u64 (loR b) 1)) (by rw [← g1, ← g2, mk_hi_lo, hst])
      rw [hi1]
      exact this
  · rw [c_lss_f] at h
    replace h : ((x1.size : Nat) : Int) ≤ i := h
    replace h2 : i ≤ ((x1.size : Nat) : Int) := h2
    simp only [kR, canon, getWord, asInt, r_mkWord, Option.some.injEq, LV.word.injEq]
    show b = bWord x1
    rw [← bword_all, h3, show i.toNat = x1.size by omega]
end Go.LE
namespace Go.LE
open Go Go.Proofs
def s_refInf (S : Ops) : List LV → R LV
  | [.int _ f, .bool b] => .req (S.isF f) (.ok (.word (S.inf f b)))
  | _ => .fail
def s_refNaN (S : Ops) : List LV → R LV
  | [.int _ f] => .req (S.isF f) (.ok (.word (S.nanw f)))
  | _ => .fail
def s_refMax (S : Ops) : List LV → R LV
  | [.int _ f, .bool b] => .req (S.isF f) (.ok (.word (S.maxw f b)))
  | _ => .fail
def s_refOne (S : Ops) : List LV → R LV
  | [.int _ f] => .req (S.isF f) (.ok (.word (S.onew f)))
  | _ => .fail
def s_refNought (S : Ops) : List LV → R LV
  | [.int _ f, .bool b] => .req (S.isF f) (.ok (.word (S.nought f b)))
  | _ => .fail
theorem p_refNaN : SpecOk Tryz.prog globs 13 (mkSpec real [.int .i64] (s_refNaN rops)) := by
  have hfns : FnsOk Tryz.prog globs [(30, .spec (mkSpec real [.bool] (s_sign05 rops))), (28, .spec (mkSpec real [.int .i64] (s_field rops))), (27, .spec (mkSpec real [.str, .int .i64] (s_times rops))), (23, .spec (mkSpec real [.int .i64] (s_prec rops))), (26, .spec (mkSpec real [.str] (s_bword rops)))] := (fnsCons (fnSpec (p_sign05)) (fnsCons (fnSpec (p_field)) (fnsCons (fnSpec (p_times)) (fnsCons (fnSpec (p_prec)) (fnsCons (fnSpec (p_bword)) fnsNil)))))
  refine spec0 hfns (by kernel_rfl) Tryz.func13 (by kernel_rfl) (by kernel_rfl) (by kernel_rfl) 4 _ _ (.word) ?_
  clear hfns
  generalize hEE : env0 [(30, .spec (mkSpec real [.bool] (s_sign05 rops))), (28, .spec (mkSpec real [.int .i64] (s_field rops))), (27, .spec (mkSpec real [.str, .int .i64] (s_times rops))), (23, .spec (mkSpec real [.int .i64] (s_prec rops))), (26, .spec (mkSpec real [.str] (s_bword rops)))] = EE
  intro l r hl hr
  simp only [Forms, Form] at hl
  obtain ⟨_, _, rfl, ⟨x1, rfl, x1lo, x1hi⟩, rfl⟩ := hl
  subst hEE
  generalize hK : kR (.word) r = K
  generalize hO : real = O
  generalize hS0 : rops = S0
  set_option maxRecDepth 100000 in cbv
  subst hO hK hS0
  simp only [s_refNaN, R.Y] at hr
  obtain ⟨hreq, hr⟩ := hr
  try dsimp only [rops] at hreq
  subst hr
  try dsimp only [real, rops]
  rcases f_cases hreq with rfl | rfl | rfl | rfl
  all_goals repeat' (first | apply And.intro | (refine imp_f fun _ => ?_) | (refine imp_t fun _ => ?_))
  all_goals first
    | exact hreq
    | decide +kernel
    | (simp only [kR, canon, getWord, Option.some.injEq, LV.word.injEq]; decide +kernel)
theorem p_refOne : SpecOk Tryz.prog globs 17 (mkSpec real [.int .i64] (s_refOne rops)) := by
  have hfns : FnsOk Tryz.prog globs [(30, .spec (mkSpec real [.bool] (s_sign05 rops))), (28, .spec (mkSpec real [.int .i64] (s_field rops))), (27, .spec (mkSpec real [.str, .int .i64] (s_times rops))), (23, .spec (mkSpec real [.int .i64] (s_prec rops))), (26, .spec (mkSpec real [.str] (s_bword rops)))] := (fnsCons (fnSpec (p_sign05)) (fnsCons (fnSpec (p_field)) (fnsCons (fnSpec (p_times)) (fnsCons (fnSpec (p_prec)) (fnsCons (fnSpec (p_bword)) fnsNil)))))
  refine spec0 hfns (by kernel_rfl) Tryz.func17 (by kernel_rfl) (by kernel_rfl) (by kernel_rfl) 4 _ _ (.word) ?_
  clear hfns
  generalize hEE : env0 [(30, .spec (mkSpec real [.bool] (s_sign05 rops))), (28, .spec (mkSpec real [.int .i64] (s_field rops))), (27, .spec (mkSpec real [.str, .int .i64] (s_times rops))), (23, .spec (mkSpec real [.int .i64] (s_prec rops))), (26, .spec (mkSpec real [.str] (s_bword rops)))] = EE
  intro l r hl hr
  simp only [Forms, Form] at hl
  obtain ⟨_, _, rfl, ⟨x1, rfl, x1lo, x1hi⟩, rfl⟩ := hl
  subst hEE
  generalize hK : kR (.word) r = K
  generalize hO : real = O
  generalize hS0 : rops = S0
  set_option maxRecDepth 100000 in cbv
  subst hO hK hS0
  simp only [s_refOne, R.Y] at hr
  obtain ⟨hreq, hr⟩ := hr
  try dsimp only [rops] at hreq
  subst hr
  try dsimp only [real, rops]
  rcases f_cases hreq with rfl | rfl | rfl | rfl
  all_goals repeat' (first | apply And.intro | (refine imp_f fun _ => ?_) | (refine imp_t fun _ => ?_))
  all_goals first
    | exact hreq
    | decide +kernel
    | (simp only [kR, canon, getWord, Option.some.injEq, LV.word.injEq]; decide +kernel)
end Go.LE