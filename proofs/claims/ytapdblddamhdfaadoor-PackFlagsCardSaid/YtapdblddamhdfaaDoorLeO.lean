import Derived.Test.YtapdblddamhdfaaDoorLeN
import Derived.Test.YtapdblddamhdfaaDoorLeC
set_option linter.unusedVariables false
set_option linter.unusedSimpArgs false
namespace Go.LE
open Go
/-! ## nan -/
def qW (f : Int) (w : BitVec 128) : BitVec 128 := if cls f w = 1 then BitVec.ofNat 128 (w.toNat + 2 ^ (fPrec f - 2).toNat) else w
def payW (f : Int) (w : BitVec 128) : W := bif wNaN f w then BitVec.ofNat 512 (bFrcN f w.toNat % 2 ^ (fPrec f - 2).toNat) else 0
theorem half_up (n p : Nat) (h : n / 2 ^ p % 2 = 0) : (n + 2 ^ p) / 2 ^ (p + 1) = n / 2 ^ (p + 1) ∧ (n + 2 ^ p) % 2 ^ (p + 1) = n % 2 ^ (p + 1) + 2 ^ p ∧ n % 2 ^ (p + 1) < 2 ^ p := by
  have e : 2 ^ (p + 1) = 2 ^ p * 2 := Nat.pow_succ 2 p
  have h1 : n % 2 ^ (p + 1) < 2 ^ p := by
    rw [mod_step, h, Nat.mul_zero, Nat.add_zero]; exact Nat.mod_lt _ (Nat.two_pow_pos _)
  have h2 := Nat.div_add_mod n (2 ^ (p + 1))
  have h3 : n + 2 ^ p = 2 ^ (p + 1) * (n / 2 ^ (p + 1)) + (n % 2 ^ (p + 1) + 2 ^ p) := by omega
  have h4 : n % 2 ^ (p + 1) + 2 ^ p < 2 ^ (p + 1) := by omega
  refine ⟨?_, ?_, h1⟩
  · rw [h3, Nat.mul_add_div (Nat.two_pow_pos _), Nat.div_eq_of_lt h4, Nat.add_zero]
  · rw [h3, Nat.mul_add_mod, Nat.mod_eq_of_lt h4]
theorem cls1 {f : Int} {w : BitVec 128} (h : cls f w = 1) : fFits f w = true ∧ bFld f w = 2 * fEMax f + 1 ∧ bFrc f w ≠ 0 ∧ wdBit w (fPrec f - 2) = false := by
  have hF : fFits f w = true := by
    cases e : fFits f w with
    | true => rfl
    | false => rw [cls_none e] at h; cases h
  rw [cls_fits hF] at h
  refine ⟨hF, ?_⟩
  by_cases h1 : bFld f w = 2 * fEMax f + 1
  · rw [if_pos h1] at h
    by_cases h2 : bFrc f w = 0
    · rw [if_pos h2] at h; cases h
    · rw [if_neg h2] at h
      by_cases h3 : wdBit w (fPrec f - 2) = true
      · rw [if_pos h3] at h; cases h
      · exact ⟨h1, h2, by simpa using h3⟩
  · rw [if_neg h1] at h
    by_cases h2 : bFld f w = 0
    · rw [if_pos h2] at h; split at h <;> cases h
    · rw [if_neg h2] at h; cases h
theorem q_nat {f : Int} {w : BitVec 128} (h : cls f w = 1) : (qW f w).toNat = w.toNat + 2 ^ (fPrec f - 2).toNat ∧ w.toNat + 2 ^ (fPrec f - 2).toNat < 2 ^ (fBits f).toNat ∧ w.toNat / 2 ^ (fPrec f - 2).toNat % 2 = 0 := by
  obtain ⟨hF, _, _, hb⟩ := cls1 h
  obtain ⟨hf, hw⟩ := fits_lt hF
  have hp := p_rng f hf
  have hbl := b_len f hf
  have h0 : w.toNat / 2 ^ (fPrec f - 2).toNat % 2 = 0 := by rw [wd_num (by omega), hb]; rfl
  obtain ⟨h1, h2, h3⟩ := half_up w.toNat (fPrec f - 2).toNat h0
  have hlt : w.toNat + 2 ^ (fPrec f - 2).toNat < 2 ^ (fBits f).toNat := by
    have e : 2 ^ (fBits f).toNat = 2 ^ ((fPrec f - 2).toNat + 1) * 2 ^ ((fBits f).toNat - ((fPrec f - 2).toNat + 1)) := by rw [← Nat.pow_add]; congr 1; omega
    rw [e] at hw ⊢
    rw [Nat.mul_comm] at hw ⊢
    rw [← Nat.div_lt_iff_lt_mul (Nat.two_pow_pos _)] at hw ⊢
    rw [h1]; exact hw
  refine ⟨?_, hlt, h0⟩
  unfold qW
  rw [if_pos h, BitVec.toNat_ofNat, Nat.mod_eq_of_lt]
  exact Nat.lt_of_lt_of_le hlt (Nat.pow_le_pow_right (by decide) (by omega))
theorem q_cls {f : Int} {w : BitVec 128} (h : cls f w = 1) : cls f (qW f w) = 2 ∧ bFrcN f (qW f w).toNat = bFrcN f w.toNat + 2 ^ (fPrec f - 2).toNat ∧ bFrcN f w.toNat < 2 ^ (fPrec f - 2).toNat := by
  obtain ⟨hF, hfl, hfr, hb⟩ := cls1 h
  obtain ⟨hf, hw⟩ := fits_lt hF
  have hp := p_rng f hf
  obtain ⟨e1, e2, e3⟩ := q_nat h
  obtain ⟨h1, h2, h3⟩ := half_up w.toNat (fPrec f - 2).toNat e3
  have ep : (fPrec f - 1).toNat = (fPrec f - 2).toNat + 1 := by omega
  have hqF : fFits f (qW f w) = true := by
    unfold fFits fOk
    rw [decide_eq_true hf, Bool.true_and, decide_eq_true_eq, e1]; exact e2
  have a1 : bFld f (qW f w) = bFld f w := by unfold bFld bFldN; rw [e1, ep, h1]
  have a2 : bFrcN f (qW f w).toNat = bFrcN f w.toNat + 2 ^ (fPrec f - 2).toNat := by unfold bFrcN; rw [e1, ep, h2]
  have a3 : wdBit (qW f w) (fPrec f - 2) = true := by
    have := wd_num (w := qW f w) (i := fPrec f - 2) (by omega)
    rw [e1, Nat.add_div_right _ (Nat.two_pow_pos _)] at this
    by_cases hh : wdBit (qW f w) (fPrec f - 2) = true
    · exact hh
    · rw [if_neg hh] at this; omega
  refine ⟨?_, a2, by unfold bFrcN; rw [ep]; exact h3⟩
  rw [cls_fits hqF, a1, if_pos hfl, if_pos a3, if_neg]
  rw [frc_zero hf, a2]
  have := Nat.two_pow_pos (fPrec f - 2).toNat
  omega
theorem q_other {f : Int} {w : BitVec 128} (h : cls f w ≠ 1) : qW f w = w := if_neg h
theorem q_nan (f : Int) (w : BitVec 128) : wNaN f (qW f w) = wNaN f w := by
  by_cases h : cls f w = 1
  · unfold wNaN; rw [(q_cls h).1, h]; rfl
  · rw [q_other h]
theorem q_pay (f : Int) (w : BitVec 128) : payW f (qW f w) = payW f w := by
  by_cases h : cls f w = 1
  · obtain ⟨_, h2, h3⟩ := q_cls h
    unfold payW
    rw [q_nan, h2, Nat.add_mod_right]
  · rw [q_other h]
set_option exponentiation.threshold 600 in
/-- as the program quiets -/
theorem quiet_leaf {f : Int} {w : BitVec 128} (h : cls f w = 1) : mkWordR (limbR (frW w + wPower (fPrec f - 2)) 1) (limbR (frW w + wPower (fPrec f - 2)) 0) = qW f w := by
  obtain ⟨hF, _, _, _⟩ := cls1 h
  obtain ⟨hf, _⟩ := fits_lt hF
  have hp := p_rng f hf
  have hb := b_len f hf
  obtain ⟨e1, e2, _⟩ := q_nat h
  have e3 := power_toNat (n := fPrec f - 2) ⟨by omega, by omega⟩
  have e4 : 2 ^ (fBits f).toNat ≤ 2 ^ 512 := Nat.pow_le_pow_right (by decide) (by omega)
  rw [low_nat, add_toNat (by rw [frW_toNat, e3]; omega), frW_toNat, e3]
  unfold qW
  rw [if_pos h]
/-- as the reference does -/
theorem hi_add (w : BitVec 128) {j : Int} (hj : 0 ≤ j ∧ j < 64) (h : w.toNat / 2 ^ (64 + j).toNat % 2 = 0) : mkWordR (arithR .add .u64 (hiR w) (arithR .shl .u64 1 j)) (loR w) = BitVec.ofNat 128 (w.toNat + 2 ^ (64 + j).toNat) := by
  have e : 2 ^ (64 + j).toNat = 2 ^ 64 * 2 ^ j.toNat := by rw [← Nat.pow_add]; congr 1; omega
  rw [e] at h ⊢
  rw [← Nat.div_div_eq_div_mul] at h
  have hw := w.isLt
  have h1 : w.toNat / 2 ^ 64 < 2 ^ 64 := by rw [Nat.div_lt_iff_lt_mul (Nat.two_pow_pos _), ← Nat.pow_add]; exact hw
  obtain ⟨_, _, h3⟩ := half_up (w.toNat / 2 ^ 64) j.toNat h
  have h4 : w.toNat / 2 ^ 64 + 2 ^ j.toNat < 2 ^ 64 := by
    obtain ⟨g1, _, _⟩ := half_up (w.toNat / 2 ^ 64) j.toNat h
    have e2 : (2 : Nat) ^ 64 = 2 ^ (j.toNat + 1) * 2 ^ (63 - j.toNat) := by rw [← Nat.pow_add]; congr 1; omega
    rw [show (2 : Nat) ^ 64 = 2 ^ (j.toNat + 1) * 2 ^ (63 - j.toNat) from e2, Nat.mul_comm, ← Nat.div_lt_iff_lt_mul (Nat.two_pow_pos _)]
    rw [show w.toNat / (2 ^ (63 - j.toNat) * 2 ^ (j.toNat + 1)) = w.toNat / 2 ^ 64 by rw [Nat.mul_comm, ← e2], g1, Nat.div_lt_iff_lt_mul (Nat.two_pow_pos _), Nat.mul_comm, ← e2]
    exact h1
  rw [shl_one hj]
  show mkWordR (IntKind.u64.wrap (((w.toNat / 2 ^ 64 : Nat) : Int) + ((2 ^ j.toNat : Nat) : Int))) (((w.toNat % 2 ^ 64 : Nat)) : Int) = _
  rw [wrap_u64_of (by omega) (by simp only [Nat.reducePow] at h4 ⊢; omega)]
  unfold mkWordR
  congr 1
  rw [Int.toNat_natCast, show (((w.toNat / 2 ^ 64 : Nat) : Int) + ((2 ^ j.toNat : Nat) : Int)).toNat = w.toNat / 2 ^ 64 + 2 ^ j.toNat by omega]
  have := Nat.div_add_mod w.toNat (2 ^ 64)
  rw [Nat.add_mul]
  rw [Nat.mul_comm (2 ^ j.toNat)]
  omega
end Go.LE
namespace Go.LE
open Go
theorem no_over (n j k : Nat) (hj : j < k) (hn : n < 2 ^ k) (h : n / 2 ^ j % 2 = 0) : n + 2 ^ j < 2 ^ k := by
  obtain ⟨g1, _, _⟩ := half_up n j h
  have e2 : (2 : Nat) ^ k = 2 ^ (k - 1 - j) * 2 ^ (j + 1) := by rw [← Nat.pow_add]; congr 1; omega
  rw [e2, ← Nat.div_lt_iff_lt_mul (Nat.two_pow_pos _), g1, Nat.div_lt_iff_lt_mul (Nat.two_pow_pos _), ← e2]
  exact hn
theorem lo_add (w : BitVec 128) {j : Int} (hj : 0 ≤ j ∧ j < 64) (h : w.toNat / 2 ^ j.toNat % 2 = 0) : mkWordR (hiR w) (arithR .add .u64 (loR w) (arithR .shl .u64 1 j)) = BitVec.ofNat 128 (w.toNat + 2 ^ j.toNat) := by
  have e : (w.toNat % 2 ^ 64) / 2 ^ j.toNat % 2 = 0 := by
    have e2 : (2 : Nat) ^ 64 = 2 ^ j.toNat * 2 ^ (64 - j.toNat) := by rw [← Nat.pow_add]; congr 1; omega
    rw [e2, Nat.mod_mul_right_div_self]
    rw [show 64 - j.toNat = (63 - j.toNat) + 1 by omega, Nat.pow_succ, Nat.mod_mul_left_mod]
    exact h
  have h4 := no_over (w.toNat % 2 ^ 64) j.toNat 64 (by omega) (Nat.mod_lt _ (Nat.two_pow_pos _)) e
  rw [shl_one hj]
  generalize 2 ^ j.toNat = t at *
  show mkWordR (((w.toNat / 2 ^ 64 : Nat)) : Int) (IntKind.u64.wrap (((w.toNat % 2 ^ 64 : Nat) : Int) + ((t : Nat) : Int))) = _
  rw [wrap_u64_of (by omega) (by simp only [Nat.reducePow] at h4 ⊢; omega)]
  unfold mkWordR
  congr 1
  rw [Int.toNat_natCast, show (((w.toNat % 2 ^ 64 : Nat) : Int) + ((t : Nat) : Int)).toNat = w.toNat % 2 ^ 64 + t by omega]
  have := Nat.div_add_mod w.toNat (2 ^ 64)
  omega
theorem nan_fits {f : Int} {w : BitVec 128} (h : wNaN f w = true) : fFits f w = true := by
  cases e : fFits f w with
  | true => rfl
  | false => unfold wNaN at h; rw [cls_none e] at h; simp at h
set_option exponentiation.threshold 600 in
theorem pay_leaf {f : Int} {w : BitVec 128} (h : wNaN f w = true) : (wBit (bFrc f w) (fPrec f - 2) = true → bFrc f w - wPower (fPrec f - 2) = payW f w) ∧ (wBit (bFrc f w) (fPrec f - 2) = false → bFrc f w = payW f w) := by
  obtain ⟨hf, _⟩ := fits_lt (nan_fits h)
  have hp := p_rng f hf
  have hlt : bFrcN f w.toNat < 2 ^ (fPrec f - 1).toNat := Nat.mod_lt _ (Nat.two_pow_pos _)
  have ep : (fPrec f - 1).toNat = (fPrec f - 2).toNat + 1 := by omega
  have hm := mod_step (bFrcN f w.toNat) (fPrec f - 2).toNat
  rw [← ep, Nat.mod_eq_of_lt hlt] at hm
  have hbit : wBit (bFrc f w) (fPrec f - 2) = decide (bFrcN f w.toNat / 2 ^ (fPrec f - 2).toNat % 2 = 1) := by
    unfold wBit
    rw [frc_toNat hf, decide_eq_true (by omega), Bool.true_and, Nat.testBit_eq_decide_div_mod_eq]
  have e512 : 2 ^ (fPrec f - 1).toNat ≤ 2 ^ 512 := Nat.pow_le_pow_right (by decide) (by omega)
  unfold payW
  rw [h, cond_true]
  refine ⟨fun hb => ?_, fun hb => ?_⟩
  · rw [hbit, decide_eq_true_eq] at hb
    rw [hb, Nat.mul_one] at hm
    apply BitVec.eq_of_toNat_eq
    have e3 := power_toNat (n := fPrec f - 2) ⟨by omega, by omega⟩
    rw [BitVec.toNat_sub, frc_toNat hf, e3, BitVec.toNat_ofNat]
    generalize bFrcN f w.toNat % 2 ^ (fPrec f - 2).toNat = r at *
    generalize 2 ^ (fPrec f - 2).toNat = t at *
    generalize (2 : Nat) ^ 512 = M at *
    rw [hm, show M - t + (r + t) = r + M by omega, Nat.add_mod_right]
  · rw [hbit, decide_eq_false_iff_not] at hb
    have h0 : bFrcN f w.toNat / 2 ^ (fPrec f - 2).toNat % 2 = 0 := by omega
    rw [h0, Nat.mul_zero, Nat.add_zero] at hm
    unfold bFrc
    rw [← hm]
theorem frc_of_nan {f : Int} {w : BitVec 128} (h : wNaN f w = true) : wFrc f w = bFrc f w := by unfold wFrc; rw [nan_fits h]; rfl
end Go.LE
namespace Go.LE
open Go
/-! ## lists of words -/
def idxP (p : BitVec 128 → Bool) (l : List (BitVec 128)) : Int := if l.any p = true then (l.findIdx p : Int) else -1
theorem getD_at {l : List (BitVec 128)} {j : Nat} (h : j < l.length) : l.getD j 0#128 = l[j] := by simp [List.getD, h]
theorem idxP_at {p : BitVec 128 → Bool} {l : List (BitVec 128)} {i : Int} (h0 : 0 ≤ i) (hi : i < (l.length : Int)) (h : ∀ j : Nat, (j : Int) < i → p (l.getD j 0#128) = false) (hp : p (l.getD i.toNat 0#128) = true) : idxP p l = i := by
  have hlt : i.toNat < l.length := by omega
  rw [getD_at hlt] at hp
  have ha : l.any p = true := List.any_eq_true.2 ⟨_, List.getElem_mem hlt, hp⟩
  unfold idxP
  rw [if_pos ha]
  have e : l.findIdx p = i.toNat := by
    rw [List.findIdx_eq hlt]
    exact ⟨hp, fun j hj => by have := h j (by omega); rwa [getD_at (by omega)] at this⟩
  rw [e]; omega
theorem idxP_none {p : BitVec 128 → Bool} {l : List (BitVec 128)} (h : ∀ j : Nat, j < l.length → p (l.getD j 0#128) = false) : l.any p = false ∧ idxP p l = -1 := by
  have ha : l.any p = false := by
    rw [List.any_eq_false]
    intro x hx
    obtain ⟨j, hj, rfl⟩ := List.getElem_of_mem hx
    have := h j hj
    rw [getD_at hj] at this
    simp [this]
  exact ⟨ha, by unfold idxP; rw [ha]; rfl⟩
theorem idxP_rng (p : BitVec 128 → Bool) (l : List (BitVec 128)) : (l.any p = true ∧ 0 ≤ idxP p l ∧ idxP p l < (l.length : Int) ∧ p (l.getD (idxP p l).toNat 0#128) = true) ∨ (l.any p = false ∧ idxP p l = -1) := by
  cases ha : l.any p with
  | true =>
    left
    have hlt : l.findIdx p < l.length := List.findIdx_lt_length.2 (by simpa using ha)
    unfold idxP
    rw [ha, if_pos rfl, Int.toNat_natCast, getD_at hlt]
    exact ⟨rfl, by omega, by omega, List.findIdx_getElem⟩
  | false => right; exact ⟨rfl, by unfold idxP; rw [ha]; rfl⟩
def isSig (f : Int) (w : BitVec 128) : Bool := decide (cls f w = 1)
def nanV (f : Int) (l : List (BitVec 128)) : BitVec 128 := if l.any (wNaN f) = true then qW f (l.getD (idxP (wNaN f) l).toNat 0#128) else 0
def nanX (f : Int) (l : List (BitVec 128)) : Int := if l.any (isSig f) = true then 1 else 0
def nanIs (f : Int) (l : List (BitVec 128)) : Bool := l.any (wNaN f)
end Go.LE
namespace Go.LE
open Go

/-! ## numbers as digits of 32 bits -/
theorem digs_eq : ∀ (f g n : Nat), n ≤ f → n ≤ g → digs f n = digs g n
  | 0, 0, n, _, _ => rfl
  | 0, g + 1, n, h, _ => by
    have : n = 0 := by omega
    subst this; simp [digs]
  | f + 1, 0, n, _, h => by
    have : n = 0 := by omega
    subst this; simp [digs]
  | f + 1, g + 1, n, h1, h2 => by
    unfold digs
    split
    · rfl
    · rename_i hn
      rw [digs_eq f g (n / 2 ^ 32) (by omega) (by omega)]
theorem dig_zero : dig 0 = [] := rfl
theorem dig_rec {n : Nat} (h : n ≠ 0) : dig n = ((n % 2 ^ 32 : Nat) : Int) :: dig (n / 2 ^ 32) := by
  have e : dig n = digs ((n - 1) + 1) n := by unfold dig; rw [show n - 1 + 1 = n by omega]
  rw [e]
  conv => lhs; unfold digs
  rw [if_neg h, digs_eq (n - 1) (n / 2 ^ 32) _ (by omega) (Nat.le_refl _)]
  rfl
theorem dig_ne {n : Nat} (h : n ≠ 0) : dig n ≠ [] := by rw [dig_rec h]; simp
theorem valL_dig (n : Nat) : valL (dig n) = n := by
  induction n using Nat.strongRecOn with
  | _ n ih =>
    by_cases h : n = 0
    · subst h; rfl
    · rw [dig_rec h, valL, ih (n / 2 ^ 32) (by omega)]
      simp only [Int.toNat_natCast]
      omega
theorem dig_inj {a b : Nat} (h : dig a = dig b) : a = b := by rw [← valL_dig a, h, valL_dig]
def rngL (l : List Int) : Prop := ∀ x ∈ l, 0 ≤ x ∧ x < 4294967296
theorem rngL_cons {x : Int} {l : List Int} (h : rngL (x :: l)) : (0 ≤ x ∧ x < 4294967296) ∧ rngL l := ⟨h x (by simp), fun y hy => h y (by simp [hy])⟩
theorem rngL_dig (n : Nat) : rngL (dig n) := fun x hx => by
  have := (inK_iff .u32 x).1 (dig_inK n x hx)
  simp only [IntKind.min, IntKind.max, IntKind.signed, IntKind.bits] at this
  simp at this
  omega
theorem rngL_take {l : List Int} (h : rngL l) (k : Nat) : rngL (l.take k) := fun x hx => h x (List.mem_of_mem_take hx)
theorem rngL_app {l m : List Int} (h : rngL l) (k : rngL m) : rngL (l ++ m) := fun x hx => (List.mem_append.1 hx).elim (h x) (k x)
theorem dig_valL : ∀ (l : List Int), rngL l → (∀ h : l ≠ [], l.getLast h ≠ 0) → dig (valL l) = l
  | [], _, _ => rfl
  | x :: l, hr, hl => by
    obtain ⟨hx, hr⟩ := rngL_cons hr
    have ih := dig_valL l hr fun h => by have := hl (by simp); rwa [List.getLast_cons h] at this
    have hv : valL (x :: l) ≠ 0 := by
      rw [valL]
      by_cases h : l = []
      · subst h
        have := hl (by simp)
        simp at this
        omega
      · have : valL l ≠ 0 := fun h0 => by rw [h0] at ih; exact h ih.symm
        omega
    rw [dig_rec hv, valL]
    have e1 : (x.toNat + 4294967296 * valL l) % 2 ^ 32 = x.toNat := by omega
    have e2 : (x.toNat + 4294967296 * valL l) / 2 ^ 32 = valL l := by omega
    rw [e1, e2, ih, Int.toNat_of_nonneg hx.1]
theorem dig_get (i : Nat) : ∀ (n : Nat), (dig n).getD i 0 = ((n / 2 ^ (32 * i) % 2 ^ 32 : Nat) : Int) := by
  induction i with
  | zero =>
    intro n
    by_cases h : n = 0
    · subst h; simp [dig_zero]
    · rw [dig_rec h]; simp
  | succ i ih =>
    intro n
    by_cases h : n = 0
    · subst h; simp [dig_zero]
    · rw [dig_rec h, List.getD_cons_succ, ih, Nat.div_div_eq_div_mul, ← Nat.pow_add]
      rw [show 32 + 32 * i = 32 * (i + 1) by omega]
theorem dig_len (k : Nat) : ∀ (n : Nat), (dig n).length ≤ k ↔ n < 2 ^ (32 * k) := by
  induction k with
  | zero =>
    intro n
    by_cases h : n = 0
    · subst h; simp [dig_zero]
    · rw [dig_rec h]; simp; omega
  | succ k ih =>
    intro n
    by_cases h : n = 0
    · subst h; simp [dig_zero, Nat.pow_pos]
    · rw [dig_rec h, List.length_cons, Nat.add_le_add_iff_right, ih, Nat.div_lt_iff_lt_mul (Nat.pow_pos (by decide)), ← Nat.pow_add]
      rw [show 32 * k + 32 = 32 * (k + 1) by omega]
theorem dig_lt (n : Nat) : n < 2 ^ (32 * (dig n).length) := (dig_len _ n).1 (Nat.le_refl _)
theorem dig_len_mono {a b : Nat} (h : a ≤ b) : (dig a).length ≤ (dig b).length := (dig_len _ a).2 (Nat.lt_of_le_of_lt h (dig_lt b))
theorem valL_append : ∀ (l m : List Int), valL (l ++ m) = valL l + 2 ^ (32 * l.length) * valL m
  | [], m => by simp [valL]
  | x :: l, m => by
    rw [List.cons_append, valL, valL_append l m, valL, List.length_cons, show 32 * (l.length + 1) = 32 + 32 * l.length by omega, Nat.pow_add, Nat.mul_add, Nat.mul_assoc, Nat.add_assoc]
theorem valL_one (x : Int) : valL [x] = x.toNat := by simp [valL]
theorem valL_lt : ∀ (l : List Int), rngL l → valL l < 2 ^ (32 * l.length)
  | [], _ => by simp [valL]
  | x :: l, h => by
    obtain ⟨hx, hr⟩ := rngL_cons h
    have := valL_lt l hr
    rw [valL, List.length_cons, show 32 * (l.length + 1) = 32 + 32 * l.length by omega, Nat.pow_add]
    omega
theorem valL_zero : ∀ (l : List Int), (∀ i, l.getD i 0 = 0) → valL l = 0
  | [], _ => rfl
  | x :: l, h => by
    have h0 := h 0
    rw [valL, valL_zero l fun i => by have := h (i + 1); simpa using this]
    simp at h0; subst h0; rfl
theorem valL_take (l : List Int) (k : Nat) (h : ∀ i, k ≤ i → l.getD i 0 = 0) : valL (l.take k) = valL l := by
  conv => rhs; rw [← List.take_append_drop k l, valL_append]
  rw [valL_zero (l.drop k) fun i => by
    have := h (k + i) (by omega)
    rw [List.getD_eq_getElem?_getD] at this ⊢
    rwa [List.getElem?_drop]]
  simp
/-- without the noughts at its end -/
theorem trim_dig {l : List Int} (hr : rngL l) {k : Nat} (hk : k ≤ l.length) (h : ∀ i, k ≤ i → l.getD i 0 = 0) (hl : k = 0 ∨ l.getD (k - 1) 0 ≠ 0) : dig (valL l) = l.take k := by
  rw [← valL_take l k h]
  refine dig_valL _ (rngL_take hr k) fun hne => ?_
  have hk0 : k ≠ 0 := fun e => by subst e; simp at hne
  have hl := hl.resolve_left hk0
  rw [List.getD_eq_getElem?_getD] at hl
  rw [List.getLast_eq_getElem]
  simp only [List.length_take, List.getElem_take, Nat.min_eq_left hk]
  rw [List.getElem?_eq_getElem (by omega)] at hl
  simpa using hl

/-- a digit, nought beyond -/
def digA (n : Nat) (i : Int) : Int := if i < 0 then 0 else ((n / 2 ^ (32 * i.toNat) % 4294967296 : Nat) : Int)
theorem digA_rng (n : Nat) (i : Int) : 0 ≤ digA n i ∧ digA n i < 4294967296 := by
  unfold digA
  split
  · omega
  · have := Nat.mod_lt (n / 2 ^ (32 * i.toNat)) (show 0 < 4294967296 by decide)
    omega
theorem digA_neg {n : Nat} {i : Int} (h : i < 0) : digA n i = 0 := if_pos h
theorem digA_nat (n i : Nat) : digA n (i : Int) = ((n / 2 ^ (32 * i) % 4294967296 : Nat) : Int) := by
  unfold digA; rw [if_neg (by omega)]; simp
theorem digA_ge {n : Nat} {i : Int} (h : ((dig n).length : Int) ≤ i) : digA n i = 0 := by
  obtain ⟨m, rfl⟩ := Int.eq_ofNat_of_zero_le (show 0 ≤ i by omega)
  rw [digA_nat]
  have h2 : n < 2 ^ (32 * m) := (dig_len m n).1 (by omega)
  rw [Nat.div_eq_of_lt h2]; rfl
theorem digA_in {n : Nat} {i : Int} (h : 0 ≤ i) : (dig n).getD i.toNat 0 = digA n i := by
  obtain ⟨m, rfl⟩ := Int.eq_ofNat_of_zero_le h
  rw [digA_nat, Int.toNat_natCast, dig_get]
/-- the low digits -/
def lowD (n i : Nat) : Nat := n % 2 ^ (32 * i)
theorem lowD_zero (n : Nat) : lowD n 0 = 0 := by simp [lowD, Nat.mod_one]
theorem lowD_succ (n i : Nat) : lowD n (i + 1) = lowD n i + 2 ^ (32 * i) * (digA n (i : Int)).toNat := by
  unfold lowD
  rw [digA_nat, Int.toNat_natCast, show 32 * (i + 1) = 32 * i + 32 by omega, Nat.pow_add, Nat.mod_mul]
theorem lowD_all {n i : Nat} (h : (dig n).length ≤ i) : lowD n i = n := Nat.mod_eq_of_lt ((dig_len i n).1 h)

/-- how long a number may be, to be reckoned with -/
def small (n : Nat) : Prop := (dig n).length ≤ 1073741824
theorem small_mono {a b : Nat} (h : a ≤ b) (hb : small b) : small a := Nat.le_trans (dig_len_mono h) hb
theorem small_lt {n k : Nat} (hk : k ≤ 1073741824) (h : n < 2 ^ (32 * k)) : small n := Nat.le_trans ((dig_len k n).2 h) hk
theorem small_add {a b k : Nat} (ha : a < 2 ^ k) (hb : b < 2 ^ k) (hk : k < 34359738368) : a + b < 2 ^ (k + 1) := by rw [Nat.pow_succ]; omega

/-! ## limbs -/
def val64 : List Int → Nat
  | [] => 0
  | x :: l => x.toNat + 18446744073709551616 * val64 l
theorem val64_append : ∀ (l m : List Int), val64 (l ++ m) = val64 l + 2 ^ (64 * l.length) * val64 m
  | [], m => by simp [val64]
  | x :: l, m => by
    rw [List.cons_append, val64, val64_append l m, val64, List.length_cons, show 64 * (l.length + 1) = 64 + 64 * l.length by omega, Nat.pow_add, Nat.mul_add, Nat.mul_assoc, Nat.add_assoc]
theorem val64_take_succ (l : List Int) (i : Nat) (h : i < l.length) : val64 (l.take (i + 1)) = val64 (l.take i) + 2 ^ (64 * i) * (l.getD i 0).toNat := by
  rw [List.take_add_one, List.getElem?_eq_getElem h, Option.toList_some, val64_append, List.length_take, Nat.min_eq_left (by omega)]
  simp [val64, List.getD_eq_getElem?_getD, h]

/-! ## which one is below -/
theorem digA_ext {a b : Nat} (h : ∀ j : Nat, digA a (j : Int) = digA b (j : Int)) : a = b := by
  have key : ∀ n, lowD a n = lowD b n := fun n => by
    induction n with
    | zero => rw [lowD_zero, lowD_zero]
    | succ n ih => rw [lowD_succ, lowD_succ, ih, h n]
  have := key (max (dig a).length (dig b).length)
  rwa [lowD_all (Nat.le_max_left _ _), lowD_all (Nat.le_max_right _ _)] at this
theorem digA_div (a k j : Nat) : digA (a / 2 ^ (32 * k)) (j : Int) = digA a ((k + j : Nat) : Int) := by
  rw [digA_nat, digA_nat, Nat.div_div_eq_div_mul, ← Nat.pow_add, Nat.mul_add]
theorem high_eq {a b k : Nat} (h : ∀ j : Nat, k ≤ j → digA a (j : Int) = digA b (j : Int)) : a / 2 ^ (32 * k) = b / 2 ^ (32 * k) :=
  digA_ext fun j => by rw [digA_div, digA_div]; exact h (k + j) (by omega)
theorem digA_step (a i : Nat) : a / 2 ^ (32 * i) = 4294967296 * (a / 2 ^ (32 * (i + 1))) + (digA a (i : Int)).toNat := by
  rw [digA_nat, Int.toNat_natCast, show 32 * (i + 1) = 32 * i + 32 by omega, Nat.pow_add, ← Nat.div_div_eq_div_mul]
  omega
theorem lt_of_digs {a b i : Nat} (h : ∀ j : Nat, i < j → digA a (j : Int) = digA b (j : Int)) (hd : digA a (i : Int) < digA b (i : Int)) : a < b := by
  have e := high_eq (a := a) (b := b) (k := i + 1) fun j hj => h j (by omega)
  have h1 := digA_step a i
  have h2 := digA_step b i
  rw [e] at h1
  have h3 := digA_rng a (i : Int)
  have h4 : a / 2 ^ (32 * i) < b / 2 ^ (32 * i) := by omega
  rcases Nat.lt_or_ge a b with h | h
  · exact h
  · have := Nat.div_le_div_right (c := 2 ^ (32 * i)) h
    omega
def cmpN (a b : Nat) : Int := if a < b then -1 else if b < a then 1 else 0
theorem cmpN_lt {a b : Nat} (h : a < b) : cmpN a b = -1 := if_pos h
theorem cmpN_gt {a b : Nat} (h : b < a) : cmpN a b = 1 := by unfold cmpN; rw [if_neg (by omega), if_pos h]
theorem cmpN_eq (a : Nat) : cmpN a a = 0 := by unfold cmpN; rw [if_neg (by omega), if_neg (by omega)]

/-! ## sums, one digit after the other -/
def addP (a b : Nat) (l : List Int) (c i : Int) : Prop := 0 ≤ i ∧ ((l.length : Nat) : Int) = i ∧ 0 ≤ c ∧ c ≤ 1 ∧ rngL l ∧ valL l + 2 ^ (32 * i.toNat) * c.toNat = lowD a i.toNat + lowD b i.toNat
theorem addP_zero (a b : Nat) : addP a b [] 0 0 := ⟨by omega, rfl, by omega, by omega, fun x hx => by simp at hx, by simp [valL, lowD_zero]⟩
theorem addP_step {a b : Nat} {l : List Int} {c i : Int} (h : addP a b l c i) : addP a b (l ++ [(c + digA a i + digA b i) % 4294967296]) ((c + digA a i + digA b i) / 4294967296) (i + 1) := by
  obtain ⟨h1, h2, h3, h4, h5, h6⟩ := h
  have ha := digA_rng a i
  have hb := digA_rng b i
  obtain ⟨n, rfl⟩ := Int.eq_ofNat_of_zero_le h1
  have e : ((n : Int) + 1).toNat = n + 1 := by omega
  refine ⟨by omega, by rw [List.length_append]; simp; omega, by omega, by omega, rngL_app h5 fun x hx => by simp at hx; omega, ?_⟩
  rw [e, lowD_succ, lowD_succ, valL_append, valL_one, show 32 * (n + 1) = 32 * n + 32 by omega, Nat.pow_add, show (2 : Nat) ^ 32 = 4294967296 by rfl]
  have hl : l.length = n := by omega
  rw [hl]
  simp only [Int.toNat_natCast] at h6 ⊢
  have hsum : ((c + digA a n + digA b n) % 4294967296).toNat + 4294967296 * ((c + digA a n + digA b n) / 4294967296).toNat = c.toNat + (digA a n).toNat + (digA b n).toNat := by omega
  have : valL l + 2 ^ (32 * n) * ((c + digA a n + digA b n) % 4294967296).toNat + 2 ^ (32 * n) * 4294967296 * ((c + digA a n + digA b n) / 4294967296).toNat = valL l + 2 ^ (32 * n) * (((c + digA a n + digA b n) % 4294967296).toNat + 4294967296 * ((c + digA a n + digA b n) / 4294967296).toNat) := by
    rw [Nat.mul_add, Nat.mul_assoc]; omega
  rw [this, hsum, Nat.mul_add, Nat.mul_add]
  omega
theorem addP_end {a b : Nat} {l : List Int} {c i : Int} (h : addP a b l c i) (ha : ((dig a).length : Int) < i) (hb : ((dig b).length : Int) < i) : valL l = a + b := by
  obtain ⟨h1, h2, h3, h4, h5, h6⟩ := h
  obtain ⟨n, rfl⟩ := Int.eq_ofNat_of_zero_le h1
  simp only [Int.toNat_natCast] at h6
  rw [lowD_all (by omega), lowD_all (by omega)] at h6
  have h7 : a < 2 ^ (32 * (n - 1)) := (dig_len _ a).1 (by omega)
  have h8 : b < 2 ^ (32 * (n - 1)) := (dig_len _ b).1 (by omega)
  have h9 : 2 ^ (32 * n) = 2 ^ (32 * (n - 1)) * 4294967296 := by
    rw [show 32 * n = 32 * (n - 1) + 32 by omega, Nat.pow_add]
  have : c.toNat = 0 := by
    rcases Nat.eq_zero_or_pos c.toNat with h | h
    · exact h
    · have := Nat.mul_le_mul_left (2 ^ (32 * n)) h
      omega
  rw [this] at h6
  omega
/-- differences -/
def subP (a b : Nat) (l : List Int) (c i : Int) : Prop := 0 ≤ i ∧ ((l.length : Nat) : Int) = i ∧ 0 ≤ c ∧ c ≤ 1 ∧ rngL l ∧ valL l + lowD b i.toNat = lowD a i.toNat + 2 ^ (32 * i.toNat) * c.toNat
theorem subP_zero (a b : Nat) : subP a b [] 0 0 := ⟨by omega, rfl, by omega, by omega, fun x hx => by simp at hx, by simp [valL, lowD_zero]⟩
theorem subP_step {a b : Nat} {l : List Int} {c i : Int} (h : subP a b l c i) : subP a b (l ++ [(digA a i + 4294967296 - digA b i - c) % 4294967296]) (1 - (digA a i + 4294967296 - digA b i - c) / 4294967296) (i + 1) := by
  obtain ⟨h1, h2, h3, h4, h5, h6⟩ := h
  have ha := digA_rng a i
  have hb := digA_rng b i
  obtain ⟨n, rfl⟩ := Int.eq_ofNat_of_zero_le h1
  have e : ((n : Int) + 1).toNat = n + 1 := by omega
  refine ⟨by omega, by rw [List.length_append]; simp; omega, by omega, by omega, rngL_app h5 fun x hx => by simp at hx; omega, ?_⟩
  rw [e, lowD_succ, lowD_succ, valL_append, valL_one, show 32 * (n + 1) = 32 * n + 32 by omega, Nat.pow_add]
  have hl : l.length = n := by omega
  rw [hl]
  simp only [Int.toNat_natCast] at h6 ⊢
  have hsum : ((digA a n + 4294967296 - digA b n - c) % 4294967296).toNat + (digA b n).toNat + c.toNat = (digA a n).toNat + 4294967296 * (1 - (digA a n + 4294967296 - digA b n - c) / 4294967296).toNat := by omega
  have h7 := congrArg (2 ^ (32 * n) * ·) hsum
  simp only [Nat.mul_add] at h7
  rw [Nat.mul_assoc, show (2 : Nat) ^ 32 = 4294967296 by rfl]
  omega
theorem subP_end {a b : Nat} (hle : b ≤ a) {l : List Int} {c i : Int} (h : subP a b l c i) (ha : ((dig a).length : Int) ≤ i) : valL l = a - b := by
  obtain ⟨h1, h2, h3, h4, h5, h6⟩ := h
  obtain ⟨n, rfl⟩ := Int.eq_ofNat_of_zero_le h1
  simp only [Int.toNat_natCast] at h6
  have hlb := dig_len_mono hle
  rw [lowD_all (by omega), lowD_all (by omega)] at h6
  have h7 := valL_lt l h5
  rw [show l.length = n by omega] at h7
  have : c.toNat = 0 := by
    rcases Nat.eq_zero_or_pos c.toNat with h | h
    · exact h
    · have := Nat.mul_le_mul_left (2 ^ (32 * n)) h
      omega
  rw [this] at h6
  omega
/-! ## how many binary digits -/
def bitN (n : Nat) : Nat := if n = 0 then 0 else n.log2 + 1
theorem bitN_iff {n k : Nat} (hk : 0 < k) : bitN n = k ↔ 2 ^ (k - 1) ≤ n ∧ n < 2 ^ k := by
  unfold bitN
  split
  · rename_i h
    subst h
    have := Nat.pow_pos (n := k - 1) (show 0 < 2 by decide)
    omega
  · rename_i h
    rw [← Nat.le_log2 h, ← Nat.log2_lt h]
    omega
theorem bitN_zero : bitN 0 = 0 := rfl
theorem bitN_half {n : Nat} (h : n ≠ 0) : bitN n = bitN (n / 2) + 1 := by
  unfold bitN
  rw [if_neg h]
  split
  · rename_i h2
    rw [Nat.log2_def, if_neg (by omega)]
  · rename_i h2
    rw [Nat.log2_def, if_pos (by omega)]
theorem bitN_dig {a : Nat} (h : a ≠ 0) : bitN a = 32 * ((dig a).length - 1) + bitN (digA a (((dig a).length - 1 : Nat) : Int)).toNat := by
  have hpos : 0 < (dig a).length := List.length_pos_iff.2 (dig_ne h)
  have hlt := dig_lt a
  have hge : ¬ a < 2 ^ (32 * ((dig a).length - 1)) := fun hh => by have := (dig_len _ a).2 hh; omega
  have e := digA_step a ((dig a).length - 1)
  rw [show (dig a).length - 1 + 1 = (dig a).length by omega, Nat.div_eq_of_lt hlt] at e
  rw [← show a / 2 ^ (32 * ((dig a).length - 1)) = (digA a (((dig a).length - 1 : Nat) : Int)).toNat by omega]
  generalize (dig a).length - 1 = k at *
  have hq : 1 ≤ a / 2 ^ (32 * k) := (Nat.le_div_iff_mul_le (Nat.pow_pos (by decide))).2 (by omega)
  have hb : 0 < bitN (a / 2 ^ (32 * k)) := by unfold bitN; rw [if_neg (by omega)]; omega
  obtain ⟨g1, g2⟩ := (bitN_iff hb).1 rfl
  rw [bitN_iff (by omega)]
  constructor
  · have := (Nat.le_div_iff_mul_le (Nat.pow_pos (show 0 < 2 by decide))).1 g1
    rw [← Nat.pow_add] at this
    rwa [show 32 * k + bitN (a / 2 ^ (32 * k)) - 1 = bitN (a / 2 ^ (32 * k)) - 1 + 32 * k by omega]
  · have := (Nat.div_lt_iff_lt_mul (Nat.pow_pos (show 0 < 2 by decide))).1 g2
    rw [← Nat.pow_add] at this
    rwa [Nat.add_comm]

/-! ## arithmetic -/
theorem wrap_u32 (n : Int) : IntKind.u32.wrap n = n % 4294967296 := by
  unfold IntKind.wrap
  simp only [IntKind.signed, IntKind.bits]
  simp
theorem add_u64' {x y : Int} (h1 : 0 ≤ x + y) (h2 : x + y < 18446744073709551616) : arithR .add .u64 x y = x + y := by
  show IntKind.u64.wrap (x + y) = _
  unfold IntKind.wrap
  simp only [IntKind.signed, IntKind.bits]
  simp
  omega
theorem sub_u64' {x y : Int} (h1 : 0 ≤ x - y) (h2 : x - y < 18446744073709551616) : arithR .sub .u64 x y = x - y := by
  show IntKind.u64.wrap (x - y) = _
  unfold IntKind.wrap
  simp only [IntKind.signed, IntKind.bits]
  simp
  omega
theorem shr_32 {x : Int} : arithR .shr .u64 x 32 = x / 4294967296 := Int.fdiv_eq_ediv_of_nonneg _ (by decide)
theorem quo_32 {n : Int} (h : 0 ≤ n) (h2 : n ≤ 9223372036854775807) : arithR .quo .i64 n 32 = n / 32 := by
  show IntKind.i64.wrap (n.tdiv 32) = n / 32
  rw [Int.tdiv_eq_ediv_of_nonneg h]
  unfold IntKind.wrap
  simp only [IntKind.signed, IntKind.bits]
  simp
  (repeat' split) <;> omega
theorem rem_32 {n : Int} (h : 0 ≤ n) : arithR .rem .i64 n 32 = n % 32 := Int.tmod_eq_emod_of_nonneg h
theorem half_u32 {n : Int} (h : 0 ≤ n) (h2 : n < 4294967296) : arithR .quo .u32 n 2 = n / 2 := by
  show IntKind.u32.wrap (n.tdiv 2) = n / 2
  rw [Int.tdiv_eq_ediv_of_nonneg h, wrap_u32]
  omega
/-- what is carried, with the next digit on it -/
theorem or_shl {c d s : Int} (hs : 0 ≤ s ∧ s < 32) (hc : 0 ≤ c ∧ c < ((2 ^ s.toNat : Nat) : Int)) (hd : 0 ≤ d ∧ d < 4294967296) :
    (∃ k : Nat, (k : Int) = arithR .shl .u64 d s) ∧ arithR .or .u64 c (arithR .shl .u64 d s) = c + d * ((2 ^ s.toNat : Nat) : Int) := by
  obtain ⟨c, rfl⟩ := Int.eq_ofNat_of_zero_le hc.1
  obtain ⟨d, rfl⟩ := Int.eq_ofNat_of_zero_le hd.1
  obtain ⟨s, rfl⟩ := Int.eq_ofNat_of_zero_le hs.1
  simp only [Int.toNat_natCast] at *
  have hcn : c < 2 ^ s := by omega
  have h2s : 2 ^ s ≤ 2 ^ 31 := Nat.pow_le_pow_right (by decide) (by omega)
  have hds : d * 2 ^ s ≤ d * 2 ^ 31 := Nat.mul_le_mul_left d h2s
  have e1 : arithR .shl .u64 (d : Int) (s : Int) = ((d * 2 ^ s : Nat) : Int) := by
    show IntKind.u64.wrap ((d : Int) * 2 ^ (min ((s : Int)).toNat 64)) = _
    have e : min ((s : Int)).toNat 64 = s := by rw [Int.toNat_natCast]; omega
    have e2 : IntKind.u64.bits = 64 := rfl
    rw [e]
    have e3 : ((d : Int) * 2 ^ s) = ((d * 2 ^ s : Nat) : Int) := by simp
    rw [e3]
    unfold IntKind.wrap
    simp only [IntKind.signed, IntKind.bits]
    simp only [Bool.false_and, Bool.false_eq_true, if_false]
    have : d * 2 ^ s < 18446744073709551616 := by omega
    omega
  refine ⟨⟨_, e1.symm⟩, ?_⟩
  rw [e1]
  have hor : c ||| d * 2 ^ s = c + d * 2 ^ s := by
    have := Nat.shiftLeft_add_eq_or_of_lt hcn d
    rw [Nat.shiftLeft_eq] at this
    rw [Nat.or_comm, ← this, Nat.add_comm]
  show IntKind.u64.wrap (((BitVec.ofInt 64 (c : Int) ||| BitVec.ofInt 64 ((d * 2 ^ s : Nat) : Int)).toNat : Nat) : Int) = _
  have hlt : d * 2 ^ s < 2 ^ 64 := by omega
  have hc2 : c < 2 ^ 64 := by omega
  have e5 : (BitVec.ofInt 64 (c : Int) ||| BitVec.ofInt 64 ((d * 2 ^ s : Nat) : Int)).toNat = c + d * 2 ^ s := by
    rw [BitVec.toNat_or, BitVec.ofInt_natCast, BitVec.ofInt_natCast, BitVec.toNat_ofNat, BitVec.toNat_ofNat, Nat.mod_eq_of_lt hc2, Nat.mod_eq_of_lt hlt, hor]
  rw [e5]
  unfold IntKind.wrap
  simp only [IntKind.signed, IntKind.bits]
  simp only [Bool.false_and, Bool.false_eq_true, if_false]
  have : c + d * 2 ^ s < 18446744073709551616 := by omega
  have e6 : ((c + d * 2 ^ s : Nat) : Int) = (c : Int) + (d : Int) * ((2 ^ s : Nat) : Int) := by rw [Int.natCast_add, Int.natCast_mul]
  rw [← e6]
  omega
/-! ## shifts -/
def shlP (a : Nat) (k s : Nat) (l : List Int) (c i : Int) : Prop := 0 ≤ i ∧ ((l.length : Nat) : Int) = (k : Int) + i ∧ 0 ≤ c ∧ c < ((2 ^ s : Nat) : Int) ∧ rngL l ∧ valL l + 2 ^ (32 * (k + i.toNat)) * c.toNat = 2 ^ (32 * k + s) * lowD a i.toNat
theorem shlP_zero (a k s : Nat) {l : List Int} (hl : l = List.replicate k 0) : shlP a k s l 0 0 := by
  have := Nat.pow_pos (n := s) (show 0 < 2 by decide)
  subst hl
  refine ⟨by omega, by simp, by omega, by omega, fun x hx => by rw [(List.mem_replicate.1 hx).2]; omega, ?_⟩
  rw [valL_zero _ fun i => by
    rw [List.getD_eq_getElem?_getD, List.getElem?_replicate]
    split <;> rfl]
  show 0 + _ * 0 = _ * lowD a 0
  rw [lowD_zero]; simp
theorem shlP_step {a k s : Nat} (hs : s < 32) {l : List Int} {c i : Int} (h : shlP a k s l c i) : shlP a k s (l ++ [(c + digA a i * ((2 ^ s : Nat) : Int)) % 4294967296]) ((c + digA a i * ((2 ^ s : Nat) : Int)) / 4294967296) (i + 1) := by
  obtain ⟨h1, h2, h3, h4, h5, h6⟩ := h
  have ha := digA_rng a i
  obtain ⟨n, rfl⟩ := Int.eq_ofNat_of_zero_le h1
  obtain ⟨d, hd⟩ := Int.eq_ofNat_of_zero_le ha.1
  obtain ⟨c, rfl⟩ := Int.eq_ofNat_of_zero_le h3
  rw [hd] at ha ⊢
  have h2s : 2 ^ s ≤ 2 ^ 31 := Nat.pow_le_pow_right (by decide) (by omega)
  have hp := Nat.pow_pos (n := s) (show 0 < 2 by decide)
  have hdm : (d + 1) * 2 ^ s ≤ 4294967296 * 2 ^ s := Nat.mul_le_mul_right _ (by omega)
  rw [Nat.add_mul, Nat.one_mul] at hdm
  have e0 : (c : Int) + (d : Int) * ((2 ^ s : Nat) : Int) = ((c + d * 2 ^ s : Nat) : Int) := by rw [Int.natCast_add, Int.natCast_mul]
  rw [e0]
  simp only [Int.toNat_natCast] at h6
  have e : ((n : Int) + 1).toNat = n + 1 := by omega
  refine ⟨by omega, by rw [List.length_append]; simp; omega, by omega, by omega, rngL_app h5 fun x hx => by simp at hx; omega, ?_⟩
  have hl : l.length = k + n := by omega
  rw [e, lowD_succ, hd, valL_append, valL_one, hl, show 32 * (k + (n + 1)) = 32 * (k + n) + 32 by omega, Nat.pow_add _ _ 32, show (2 : Nat) ^ 32 = 4294967296 by rfl]
  simp only [Int.toNat_natCast]
  have e1 : (((c + d * 2 ^ s : Nat) : Int) % 4294967296).toNat = (c + d * 2 ^ s) % 4294967296 := by omega
  have e2 : (((c + d * 2 ^ s : Nat) : Int) / 4294967296).toNat = (c + d * 2 ^ s) / 4294967296 := by omega
  rw [e1, e2, Nat.mul_assoc, Nat.add_assoc, ← Nat.mul_add, Nat.add_comm ((c + d * 2 ^ s) % 4294967296), Nat.div_add_mod, Nat.mul_add, ← Nat.add_assoc, h6, Nat.mul_add, Nat.pow_add 2 (32 * k) (32 * n), Nat.pow_add 2 (32 * k) s]
  generalize 2 ^ (32 * k) = A
  generalize 2 ^ (32 * n) = B
  generalize 2 ^ s = C
  rw [Nat.mul_add]
  congr 1
  ac_rfl
theorem shlP_end {a k s : Nat} (hs : s < 32) {l : List Int} {c i : Int} (h : shlP a k s l c i) (ha : ((dig a).length : Int) < i) : valL l = a * 2 ^ (32 * k + s) := by
  obtain ⟨h1, h2, h3, h4, h5, h6⟩ := h
  obtain ⟨n, rfl⟩ := Int.eq_ofNat_of_zero_le h1
  simp only [Int.toNat_natCast] at h6
  rw [lowD_all (by omega)] at h6
  have h7 : a < 2 ^ (32 * (n - 1)) := (dig_len _ a).1 (by omega)
  have h8 : 2 ^ (32 * k + s) * a < 2 ^ (32 * (k + n)) := by
    have g1 : 2 ^ (32 * k + s) ≤ 2 ^ (32 * k + 32) := Nat.pow_le_pow_right (by decide) (by omega)
    have g2 : 2 ^ (32 * (k + n)) = 2 ^ (32 * k + 32) * 2 ^ (32 * (n - 1)) := by rw [← Nat.pow_add]; congr 1; omega
    rw [g2]
    exact Nat.lt_of_le_of_lt (Nat.mul_le_mul_right a g1) (Nat.mul_lt_mul_of_pos_left h7 (Nat.pow_pos (by decide)))
  have : c.toNat = 0 := by
    rcases Nat.eq_zero_or_pos c.toNat with h | h
    · exact h
    · have := Nat.mul_le_mul_left (2 ^ (32 * (k + n))) h
      omega
  rw [this, Nat.mul_zero, Nat.add_zero] at h6
  rw [h6, Nat.mul_comm]
/-! ## of limbs -/
def ofP (x l : List Int) (i : Int) : Prop := 0 ≤ i ∧ i ≤ ((x.length : Nat) : Int) ∧ ((l.length : Nat) : Int) = 2 * i ∧ rngL l ∧ valL l = val64 (x.take i.toNat)
theorem ofP_zero (x : List Int) : ofP x [] 0 := ⟨by omega, by omega, rfl, fun x hx => by simp at hx, by simp [valL, val64]⟩
theorem ofP_step {x l : List Int} {i : Int} (h : ofP x l i) (hi : i < ((x.length : Nat) : Int)) (hx : 0 ≤ x.getD i.toNat 0 ∧ x.getD i.toNat 0 < 18446744073709551616) : ofP x (l ++ [x.getD i.toNat 0 % 4294967296, x.getD i.toNat 0 / 4294967296 % 4294967296]) (i + 1) := by
  obtain ⟨h1, h2, h3, h4, h5⟩ := h
  obtain ⟨n, rfl⟩ := Int.eq_ofNat_of_zero_le h1
  have e : ((n : Int) + 1).toNat = n + 1 := by omega
  simp only [Int.toNat_natCast] at h5 hx ⊢
  refine ⟨by omega, by omega, by rw [List.length_append]; simp; omega, rngL_app h4 fun y hy => by
    simp only [List.mem_cons, List.not_mem_nil, or_false] at hy
    rcases hy with rfl | rfl <;> omega, ?_⟩
  rw [e, valL_append, h5, val64_take_succ x n (by omega), show 32 * l.length = 64 * n by omega]
  congr 2
  simp only [valL]
  omega
end Go.LE
namespace Go.LE
open Go
/-! ## lists of words, one ahead of the others -/
theorem drop_at {l : List (BitVec 128)} {i : Nat} (h : i < l.length) : l.drop i = l.getD i 0#128 :: l.drop (i + 1) := by
  rw [List.drop_eq_getElem_cons h, getD_at h]
theorem nanIs_cons (f : Int) (w : BitVec 128) (l : List (BitVec 128)) : nanIs f (w :: l) = (wNaN f w || nanIs f l) := by unfold nanIs; rw [List.any_cons]
theorem nanX_cons (f : Int) (w : BitVec 128) (l : List (BitVec 128)) : nanX f (w :: l) = if isSig f w = true then 1 else nanX f l := by
  unfold nanX
  rw [List.any_cons]
  cases isSig f w <;> simp
theorem nanV_cons (f : Int) (w : BitVec 128) (l : List (BitVec 128)) : nanV f (w :: l) = if wNaN f w = true then qW f w else nanV f l := by
  unfold nanV idxP
  rw [List.any_cons, List.findIdx_cons]
  cases h : wNaN f w with
  | true => simp
  | false =>
    cases h2 : l.any (wNaN f) with
    | true =>
      have e : (((l.findIdx (wNaN f) + 1 : Nat) : Int)).toNat = l.findIdx (wNaN f) + 1 := by omega
      simp only [Bool.false_or, cond_false, if_true, e, List.getD_cons_succ, Bool.false_eq_true, if_false, Int.toNat_natCast]
    | false => simp
theorem nan_nil (f : Int) : nanV f [] = 0 ∧ nanX f [] = 0 ∧ nanIs f [] = false := ⟨rfl, rfl, rfl⟩
theorem eql_dec (x y : Int) : cmpR .eql x y = decide (x = y) := by
  cases h : cmpR .eql x y with
  | true => rw [(by simpa [cmpR] using h : x = y)]; simp
  | false => rw [decide_eq_false (by simpa [cmpR] using h)]
/-- the two ways of quieting are one -/
theorem nan_step {f : Int} {w : BitVec 128} (l : List (BitVec 128)) :
    (cls f w = 1 → nanV f (w :: l) = qW f w ∧ nanX f (w :: l) = 1 ∧ nanIs f (w :: l) = true) ∧
    (cls f w = 2 → nanV f (w :: l) = qW f w ∧ nanX f (w :: l) = nanX f l ∧ nanIs f (w :: l) = true) ∧
    (cls f w ≠ 1 → cls f w ≠ 2 → nanV f (w :: l) = nanV f l ∧ nanX f (w :: l) = nanX f l ∧ nanIs f (w :: l) = nanIs f l) := by
  rw [nanV_cons, nanX_cons, nanIs_cons]
  refine ⟨fun h => ?_, fun h => ?_, fun h1 h2 => ?_⟩
  · have a : wNaN f w = true := by unfold wNaN; exact decide_eq_true (.inl h)
    have b : isSig f w = true := by unfold isSig; exact decide_eq_true h
    rw [a, b]; simp
  · have a : wNaN f w = true := by unfold wNaN; exact decide_eq_true (.inr h)
    have b : isSig f w = false := by unfold isSig; exact decide_eq_false (by omega)
    rw [a, b]; simp
  · have a : wNaN f w = false := by unfold wNaN; exact decide_eq_false (by omega)
    have b : isSig f w = false := by unfold isSig; exact decide_eq_false h1
    rw [a, b]; simp

/-! ## how many are of a class -/
def cntC (f : Int) (l : List (BitVec 128)) (k : Int) : Int := ((l.countP fun w => decide (cls f w = k) : Nat) : Int)
theorem cntC_nil (f k : Int) : cntC f [] k = 0 := rfl
theorem cntC_rng (f : Int) (l : List (BitVec 128)) (k : Int) : 0 ≤ cntC f l k ∧ cntC f l k ≤ (l.length : Int) := by
  unfold cntC
  have := List.countP_le_length (p := fun w => decide (cls f w = k)) (l := l)
  omega
theorem cntC_step (f : Int) (l : List (BitVec 128)) (i : Nat) (h : i < l.length) (k : Int) : cntC f (l.take (i + 1)) k = cntC f (l.take i) k + if cls f (l.getD i 0#128) = k then 1 else 0 := by
  unfold cntC
  rw [List.take_add_one, List.getElem?_eq_getElem h, Option.toList_some, List.countP_append, List.countP_singleton, getD_at h]
  by_cases e : cls f l[i] = k
  · simp [e]
  · simp [e]
theorem cntC_all (f : Int) (l : List (BitVec 128)) (k : Int) {i : Int} (h : (l.length : Int) ≤ i) : cntC f (l.take i.toNat) k = cntC f l k := by rw [List.take_of_length_le (by omega)]
end Go.LE
namespace Go.LE
open Go
/-! ## how many binary digits: of a wide, of a number -/
set_option exponentiation.threshold 600 in
theorem small_wide (a : W) : small a.toNat := small_lt (k := 16) (by decide) (Nat.lt_of_lt_of_le a.isLt (Nat.pow_le_pow_right (by decide) (by decide)))
theorem bitN_le {n k : Nat} : bitN n ≤ k ↔ n < 2 ^ k := by
  by_cases h : n = 0
  · subst h; simp [bitN_zero, Nat.pow_pos]
  · unfold bitN
    rw [if_neg h, ← Nat.log2_lt h]
    omega
theorem bitN_wLen (a : W) : ((bitN a.toNat : Nat) : Int) = wLen a := by
  unfold wLen nLen bitN
  by_cases h : a.toNat = 0
  · rw [h]; simp
  · rw [if_neg h, if_neg (by omega), Int.toNat_natCast]; simp
/-! ## a wide's number, limb by limb -/
def wideLow (a : W) (i : Nat) : Nat := a.toNat % 2 ^ (64 * i)
theorem wideLow_step (a : W) (i : Nat) : wideLow a i + (limbR a i).toNat * 2 ^ (64 * i) = wideLow a (i + 1) := by
  unfold wideLow limbR
  rw [Int.toNat_natCast, show 64 * (i + 1) = 64 * i + 64 by omega, Nat.pow_add, Nat.mod_mul]
  rw [Nat.mul_comm (2 ^ (64 * i))]
set_option exponentiation.threshold 600 in
theorem wideLow_8 (a : W) : wideLow a 8 = a.toNat := Nat.mod_eq_of_lt a.isLt
theorem wideLow_0 (a : W) : wideLow a 0 = 0 := by simp [wideLow, Nat.mod_one]
theorem small_low (a : W) (i : Nat) : small (wideLow a i) := small_mono (Nat.mod_le _ _) (small_wide a)
theorem small_limb (a : W) (i : Nat) : small (limbR a i).toNat := small_lt (k := 2) (by decide) (by have := limbR_lt a i; have := limbR_nonneg a i; omega)
theorem small_limbs (a : W) (i : Nat) : small ((limbR a i).toNat * 2 ^ (64 * i)) := small_mono (Nat.le_trans (Nat.le_add_left _ _) (Nat.le_of_eq (wideLow_step a i))) (small_low a (i + 1))
end Go.LE
namespace Go.LE
open Go
/-! ## the word of parts -/
theorem fmt_sizes {f : Int} (hf : 1 ≤ f ∧ f ≤ 4) : ((2 ^ (fField f).toNat : Nat) : Int) = 2 * fEMax f + 2 ∧ (fBits f - 1).toNat = (fField f).toNat + (fPrec f - 1).toNat ∧ (fBits f - 1).toNat ≤ 127 := by
  rcases f_cases hf with rfl | rfl | rfl | rfl <;> decide
theorem mk_fits {f fld : Int} {frc : W} (h : mkOk f fld frc = true) (neg : Bool) :
    (1 ≤ f ∧ f ≤ 4) ∧ fFits f (mkW f neg fld frc) = true ∧ wNeg f (mkW f neg fld frc) = neg ∧ bFld f (mkW f neg fld frc) = fld ∧ bFrc f (mkW f neg fld frc) = frc := by
  have h0 := h
  unfold mkOk at h
  simp only [Bool.and_eq_true, decide_eq_true_eq] at h
  obtain ⟨hk, ⟨h1, h2⟩, h3⟩ := h
  have hf : 1 ≤ f ∧ f ≤ 4 := by unfold fOk at hk; simpa using hk
  obtain ⟨e1, e2, e3⟩ := fmt_sizes hf
  have hp := p_rng f hf
  have hfr : frc.toNat < 2 ^ (fPrec f - 1).toNat := by
    have := (wLen_lt (a := frc) (k := (fPrec f - 1).toNat) (by omega)).mp (by omega)
    exact this
  have hfl : fld.toNat < 2 ^ (fField f).toNat := by omega
  have hn : fld.toNat * 2 ^ (fPrec f - 1).toNat + frc.toNat < 2 ^ (fBits f - 1).toNat := by
    rw [e2, Nat.pow_add]
    have := Nat.mul_le_mul_right (2 ^ (fPrec f - 1).toNat) (show fld.toNat + 1 ≤ 2 ^ (fField f).toNat by omega)
    rw [Nat.add_mul, Nat.one_mul] at this
    omega
  have hlt : 2 ^ (fBits f - 1).toNat < 2 ^ 128 := Nat.pow_lt_pow_right (by decide) (by omega)
  generalize hN : fld.toNat * 2 ^ (fPrec f - 1).toNat + frc.toNat = n at *
  have hw : (BitVec.ofNat 128 n).toNat = n := by rw [BitVec.toNat_ofNat, Nat.mod_eq_of_lt (by omega)]
  have hmk : mkW f neg fld frc = sgn f (BitVec.ofNat 128 n) neg := by
    unfold mkW sgn
    rw [h0, cond_true, hN, hw, Nat.mod_eq_of_lt hn]
  have hfit := sgn_fits hf (BitVec.ofNat 128 n) neg
  obtain ⟨g1, g2⟩ := sgn_fld hf (BitVec.ofNat 128 n) neg
  rw [hmk]
  refine ⟨hf, hfit, by rw [wneg_fits hfit, sgn_neg hf], ?_, ?_⟩
  · rw [g1]
    unfold bFld bFldN
    rw [hw, ← hN, Nat.mul_comm, Nat.mul_add_div (Nat.two_pow_pos _), Nat.div_eq_of_lt hfr, Nat.add_zero, Nat.mod_eq_of_lt hfl]
    omega
  · rw [g2]
    apply BitVec.eq_of_toNat_eq
    rw [frc_toNat hf]
    unfold bFrcN
    rw [hw, ← hN, Nat.mul_comm, Nat.mul_add_mod, Nat.mod_eq_of_lt hfr]
theorem mkW_no {f fld : Int} {frc : W} (h : mkOk f fld frc = false) (neg : Bool) : mkW f neg fld frc = mkWordR 0 0 := by
  unfold mkW; rw [h]; rfl
theorem mkOk_no {f : Int} (h : fOk f = false) (fld : Int) (frc : W) : mkOk f fld frc = false := by unfold mkOk; rw [h]; rfl
theorem mkOk_iff {f fld : Int} {frc : W} (h : fOk f = true) : mkOk f fld frc = true ↔ (0 ≤ fld ∧ fld ≤ 2 * fEMax f + 1) ∧ wLen frc ≤ fPrec f - 1 := by
  unfold mkOk
  rw [h]
  simp only [Bool.true_and, Bool.and_eq_true, decide_eq_true_eq]
theorem fits_no {f : Int} (h : fOk f = false) (w : BitVec 128) : fFits f w = false := by unfold fFits; rw [h]; rfl
/-- a word of its own parts -/
theorem mk_own {f : Int} {w : BitVec 128} (h : cls f w ≠ 0) : mkOk f (wFld f w) (wFrc f w) = true ∧ mkW f (wNeg f w) (wFld f w) (wFrc f w) = w := by
  have hF : fFits f w = true := by
    cases e : fFits f w with
    | true => rfl
    | false => exact absurd (cls_none e) h
  obtain ⟨hf, e1, e2, _⟩ := parts_some h
  obtain ⟨g1, g2⟩ := mk_parts hF
  rw [e1, e2, wneg_fits hF]
  exact ⟨g1, by rw [g2, sgn_own hF]⟩
end Go.LE
namespace Go.LE
open Go
/-! ## the word that carries something -/
def wthOk (f : Int) (p : W) : Bool := fOk f && decide (wLen p ≤ fPrec f - 2)
def wthW (f : Int) (neg : Bool) (p : W) : BitVec 128 := bif wthOk f p then mkW f neg (2 * fEMax f + 1) (p + wPower (fPrec f - 2)) else 0
set_option exponentiation.threshold 600 in
theorem wth_leaf {f : Int} {p : W} (h : wthOk f p = true) : (1 ≤ f ∧ f ≤ 4) ∧ p.toNat < 2 ^ (fPrec f - 2).toNat ∧ (p + wPower (fPrec f - 2)).toNat = p.toNat + 2 ^ (fPrec f - 2).toNat ∧ mkOk f (2 * fEMax f + 1) (p + wPower (fPrec f - 2)) = true := by
  unfold wthOk at h
  simp only [Bool.and_eq_true, decide_eq_true_eq] at h
  obtain ⟨hk, h3⟩ := h
  have hf : 1 ≤ f ∧ f ≤ 4 := by unfold fOk at hk; simpa using hk
  have hp := p_rng f hf
  have he := e_rng f hf
  have hlt : p.toNat < 2 ^ (fPrec f - 2).toNat := (wLen_lt (a := p) (k := (fPrec f - 2).toNat) (by omega)).mp (by omega)
  have e1 := power_toNat (n := fPrec f - 2) ⟨by omega, by omega⟩
  have hd : 2 ^ (fPrec f - 1).toNat = 2 ^ (fPrec f - 2).toNat + 2 ^ (fPrec f - 2).toNat := by
    rw [show (fPrec f - 1).toNat = (fPrec f - 2).toNat + 1 by omega, Nat.pow_succ]; omega
  have hb : 2 ^ (fPrec f - 1).toNat ≤ 2 ^ 512 := Nat.pow_le_pow_right (by decide) (by omega)
  have e2 : (p + wPower (fPrec f - 2)).toNat = p.toNat + 2 ^ (fPrec f - 2).toNat := by
    rw [add_toNat (by rw [e1]; omega), e1]
  refine ⟨hf, hlt, e2, (mkOk_iff hk).2 ⟨⟨by omega, by omega⟩, ?_⟩⟩
  have := (wLen_lt (a := p + wPower (fPrec f - 2)) (k := (fPrec f - 1).toNat) (by omega)).mpr (by rw [e2]; omega)
  omega
set_option exponentiation.threshold 600 in
theorem wth_nan {f : Int} {p : W} (h : wthOk f p = true) (neg : Bool) : cls f (wthW f neg p) = 2 ∧ wNeg f (wthW f neg p) = neg ∧ wNaN f (wthW f neg p) = true ∧ payW f (wthW f neg p) = p := by
  obtain ⟨hf, hlt, e1, hok⟩ := wth_leaf h
  obtain ⟨_, g1, g2, g3, g4⟩ := mk_fits hok neg
  have hw : wthW f neg p = mkW f neg (2 * fEMax f + 1) (p + wPower (fPrec f - 2)) := by unfold wthW; rw [h]; rfl
  rw [hw]
  have hp := p_rng f hf
  have hbit : wdBit (mkW f neg (2 * fEMax f + 1) (p + wPower (fPrec f - 2))) (fPrec f - 2) = true := by
    rw [← frc_bit hf, g4]
    unfold wBit
    rw [decide_eq_true (by omega), Bool.true_and, e1, Nat.testBit_eq_decide_div_mod_eq, Nat.add_div_right _ (Nat.two_pow_pos _), Nat.div_eq_of_lt hlt]
    decide
  have hne : p + wPower (fPrec f - 2) ≠ 0 := by
    intro h0
    have := congrArg BitVec.toNat h0
    rw [e1] at this
    have hpos := Nat.two_pow_pos (fPrec f - 2).toNat
    simp at this
  have hc : cls f (mkW f neg (2 * fEMax f + 1) (p + wPower (fPrec f - 2))) = 2 := by
    rw [cls_fits g1, g3, g4, if_pos rfl, if_neg hne, if_pos hbit]
  have hn : wNaN f (mkW f neg (2 * fEMax f + 1) (p + wPower (fPrec f - 2))) = true := by unfold wNaN; exact decide_eq_true (.inr hc)
  refine ⟨hc, g2, hn, ?_⟩
  unfold payW
  rw [hn, cond_true, ← frc_toNat hf, g4, e1, Nat.add_mod_right, Nat.mod_eq_of_lt hlt]
  apply BitVec.eq_of_toNat_eq
  rw [BitVec.toNat_ofNat, Nat.mod_eq_of_lt p.isLt]
end Go.LE