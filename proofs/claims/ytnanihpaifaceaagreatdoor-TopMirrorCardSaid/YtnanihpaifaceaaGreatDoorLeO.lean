import Derived.Test.YtnanihpaifaceaaGreatDoorLeN
import Derived.Test.YtnanihpaifaceaaGreatDoorLeC
set_option linter.unusedVariables false
set_option linter.unusedSimpArgs false
namespace Go.LE
open Go
/-! ## nan -/
def qW (f : Int) (w : BitVec 128) : BitVec 128 := if cls f w = 1 then BitVec.ofNat 128 (w.toNat + 2 ^ (fPrec f - 2).toNat) else w
def payW (f : Int) (w : BitVec 128) : W := bif wNaN f w then BitVec.ofNat 512 (bFrcN f w.toNat % 2 ^ (fPrec f - 2).toNat) else 0
theorem half_up (n p : Nat) (h : n / 2 ^ p % 2 = 0) : (n + 2 ^ p) / 2 ^ (p + 1) = n / 2 ^ (p + 1) ∧ (n + 2 ^ p) % 2 ^ (p + 1) = n % 2 ^ (p + 1) + 2 ^ p ∧ n % 2 ^ (p + 1) < 2 ^ p := by
  have e : 2 ^ (p + 1) = 2 ^ p * 2 := Nat.pow_succ 2 p
  have h1 : n % 2 ^ (p + 1) < 2 ^ p := by
    rw [mod_step, h, Nat.mul_zero, Nat.add_zero]; exact Nat.mod_lt _ (Nat.two_pow_pos _)
  have h2 := Nat.div_add_mod n (2 ^ (p + 1))
  have h3 : n + 2 ^ p = 2 ^ (p + 1) * (n / 2 ^ (p + 1)) + (n % 2 ^ (p + 1) + 2 ^ p) := by omega
  have h4 : n % 2 ^ (p + 1) + 2 ^ p < 2 ^ (p + 1) := by omega
  refine ⟨?_, ?_, h1⟩
  · rw [h3, Nat.mul_add_div (Nat.two_pow_pos _), Nat.div_eq_of_lt h4, Nat.add_zero]
  · rw [h3, Nat.mul_add_mod, Nat.mod_eq_of_lt h4]
theorem cls1 {f : Int} {w : BitVec 128} (h : cls f w = 1) : fFits f w = true ∧ bFld f w = 2 * fEMax f + 1 ∧ bFrc f w ≠ 0 ∧ wdBit w (fPrec f - 2) = false := by
  have hF : fFits f w = true := by
    cases e : fFits f w with
    | true => rfl
    | false => rw [cls_none e] at h; cases h
  rw [cls_fits hF] at h
  refine ⟨hF, ?_⟩
  by_cases h1 : bFld f w = 2 * fEMax f + 1
  · rw [if_pos h1] at h
    by_cases h2 : bFrc f w = 0
    · rw [if_pos h2] at h; cases h
    · rw [if_neg h2] at h
      by_cases h3 : wdBit w (fPrec f - 2) = true
      · rw [if_pos h3] at h; cases h
      · exact ⟨h1, h2, by simpa using h3⟩
  · rw [if_neg h1] at h
    by_cases h2 : bFld f w = 0
    · rw [if_pos h2] at h; split at h <;> cases h
    · rw [if_neg h2] at h; cases h
theorem q_nat {f : Int} {w : BitVec 128} (h : cls f w = 1) : (qW f w).toNat = w.toNat + 2 ^ (fPrec f - 2).toNat ∧ w.toNat + 2 ^ (fPrec f - 2).toNat < 2 ^ (fBits f).toNat ∧ w.toNat / 2 ^ (fPrec f - 2).toNat % 2 = 0 := by
  obtain ⟨hF, _, _, hb⟩ := cls1 h
  obtain ⟨hf, hw⟩ := fits_lt hF
  have hp := p_rng f hf
  have hbl := b_len f hf
  have h0 : w.toNat / 2 ^ (fPrec f - 2).toNat % 2 = 0 := by rw [wd_num (by omega), hb]; rfl
  obtain ⟨h1, h2, h3⟩ := half_up w.toNat (fPrec f - 2).toNat h0
  have hlt : w.toNat + 2 ^ (fPrec f - 2).toNat < 2 ^ (fBits f).toNat := by
    have e : 2 ^ (fBits f).toNat = 2 ^ ((fPrec f - 2).toNat + 1) * 2 ^ ((fBits f).toNat - ((fPrec f - 2).toNat + 1)) := by rw [← Nat.pow_add]; congr 1; omega
    rw [e] at hw ⊢
    rw [Nat.mul_comm] at hw ⊢
    rw [← Nat.div_lt_iff_lt_mul (Nat.two_pow_pos _)] at hw ⊢
    rw [h1]; exact hw
  refine ⟨?_, hlt, h0⟩
  unfold qW
  rw [if_pos h, BitVec.toNat_ofNat, Nat.mod_eq_of_lt]
  exact Nat.lt_of_lt_of_le hlt (Nat.pow_le_pow_right (by decide) (by omega))
theorem q_other {f : Int} {w : BitVec 128} (h : cls f w ≠ 1) : qW f w = w := if_neg h
set_option exponentiation.threshold 600 in
/-- as the program quiets -/
theorem quiet_leaf {f : Int} {w : BitVec 128} (h : cls f w = 1) : mkWordR (limbR (frW w + wPower (fPrec f - 2)) 1) (limbR (frW w + wPower (fPrec f - 2)) 0) = qW f w := by
  obtain ⟨hF, _, _, _⟩ := cls1 h
  obtain ⟨hf, _⟩ := fits_lt hF
  have hp := p_rng f hf
  have hb := b_len f hf
  obtain ⟨e1, e2, _⟩ := q_nat h
  have e3 := power_toNat (n := fPrec f - 2) ⟨by omega, by omega⟩
  have e4 : 2 ^ (fBits f).toNat ≤ 2 ^ 512 := Nat.pow_le_pow_right (by decide) (by omega)
  rw [low_nat, add_toNat (by rw [frW_toNat, e3]; omega), frW_toNat, e3]
  unfold qW
  rw [if_pos h]
/-- as the reference does -/
theorem hi_add (w : BitVec 128) {j : Int} (hj : 0 ≤ j ∧ j < 64) (h : w.toNat / 2 ^ (64 + j).toNat % 2 = 0) : mkWordR (arithR .add .u64 (hiR w) (arithR .shl .u64 1 j)) (loR w) = BitVec.ofNat 128 (w.toNat + 2 ^ (64 + j).toNat) := by
  have e : 2 ^ (64 + j).toNat = 2 ^ 64 * 2 ^ j.toNat := by rw [← Nat.pow_add]; congr 1; omega
  rw [e] at h ⊢
  rw [← Nat.div_div_eq_div_mul] at h
  have hw := w.isLt
  have h1 : w.toNat / 2 ^ 64 < 2 ^ 64 := by rw [Nat.div_lt_iff_lt_mul (Nat.two_pow_pos _), ← Nat.pow_add]; exact hw
  obtain ⟨_, _, h3⟩ := half_up (w.toNat / 2 ^ 64) j.toNat h
  have h4 : w.toNat / 2 ^ 64 + 2 ^ j.toNat < 2 ^ 64 := by
    obtain ⟨g1, _, _⟩ := half_up (w.toNat / 2 ^ 64) j.toNat h
    have e2 : (2 : Nat) ^ 64 = 2 ^ (j.toNat + 1) * 2 ^ (63 - j.toNat) := by rw [← Nat.pow_add]; congr 1; omega
    rw [show (2 : Nat) ^ 64 = 2 ^ (j.toNat + 1) * 2 ^ (63 - j.toNat) from e2, Nat.mul_comm, ← Nat.div_lt_iff_lt_mul (Nat.two_pow_pos _)]
    rw [show w.toNat / (2 ^ (63 - j.toNat) * 2 ^ (j.toNat + 1)) = w.toNat / 2 ^ 64 by rw [Nat.mul_comm, ← e2], g1, Nat.div_lt_iff_lt_mul (Nat.two_pow_pos _), Nat.mul_comm, ← e2]
    exact h1
  rw [shl_one hj]
  show mkWordR (IntKind.u64.wrap (((w.toNat / 2 ^ 64 : Nat) : Int) + ((2 ^ j.toNat : Nat) : Int))) (((w.toNat % 2 ^ 64 : Nat)) : Int) = _
  rw [wrap_u64_of (by omega) (by simp only [Nat.reducePow] at h4 ⊢; omega)]
  unfold mkWordR
  congr 1
  rw [Int.toNat_natCast, show (((w.toNat / 2 ^ 64 : Nat) : Int) + ((2 ^ j.toNat : Nat) : Int)).toNat = w.toNat / 2 ^ 64 + 2 ^ j.toNat by omega]
  have := Nat.div_add_mod w.toNat (2 ^ 64)
  rw [Nat.add_mul]
  rw [Nat.mul_comm (2 ^ j.toNat)]
  omega
end Go.LE
namespace Go.LE
open Go
theorem no_over (n j k : Nat) (hj : j < k) (hn : n < 2 ^ k) (h : n / 2 ^ j % 2 = 0) : n + 2 ^ j < 2 ^ k := by
  obtain ⟨g1, _, _⟩ := half_up n j h
  have e2 : (2 : Nat) ^ k = 2 ^ (k - 1 - j) * 2 ^ (j + 1) := by rw [← Nat.pow_add]; congr 1; omega
  rw [e2, ← Nat.div_lt_iff_lt_mul (Nat.two_pow_pos _), g1, Nat.div_lt_iff_lt_mul (Nat.two_pow_pos _), ← e2]
  exact hn
theorem lo_add (w : BitVec 128) {j : Int} (hj : 0 ≤ j ∧ j < 64) (h : w.toNat / 2 ^ j.toNat % 2 = 0) : mkWordR (hiR w) (arithR .add .u64 (loR w) (arithR .shl .u64 1 j)) = BitVec.ofNat 128 (w.toNat + 2 ^ j.toNat) := by
  have e : (w.toNat % 2 ^ 64) / 2 ^ j.toNat % 2 = 0 := by
    have e2 : (2 : Nat) ^ 64 = 2 ^ j.toNat * 2 ^ (64 - j.toNat) := by rw [← Nat.pow_add]; congr 1; omega
    rw [e2, Nat.mod_mul_right_div_self]
    rw [show 64 - j.toNat = (63 - j.toNat) + 1 by omega, Nat.pow_succ, Nat.mod_mul_left_mod]
    exact h
  have h4 := no_over (w.toNat % 2 ^ 64) j.toNat 64 (by omega) (Nat.mod_lt _ (Nat.two_pow_pos _)) e
  rw [shl_one hj]
  generalize 2 ^ j.toNat = t at *
  show mkWordR (((w.toNat / 2 ^ 64 : Nat)) : Int) (IntKind.u64.wrap (((w.toNat % 2 ^ 64 : Nat) : Int) + ((t : Nat) : Int))) = _
  rw [wrap_u64_of (by omega) (by simp only [Nat.reducePow] at h4 ⊢; omega)]
  unfold mkWordR
  congr 1
  rw [Int.toNat_natCast, show (((w.toNat % 2 ^ 64 : Nat) : Int) + ((t : Nat) : Int)).toNat = w.toNat % 2 ^ 64 + t by omega]
  have := Nat.div_add_mod w.toNat (2 ^ 64)
  omega
end Go.LE
namespace Go.LE
open Go
/-! ## lists of words -/
def idxP (p : BitVec 128 → Bool) (l : List (BitVec 128)) : Int := if l.any p = true then (l.findIdx p : Int) else -1
theorem getD_at {l : List (BitVec 128)} {j : Nat} (h : j < l.length) : l.getD j 0#128 = l[j] := by simp [List.getD, h]
theorem idxP_at {p : BitVec 128 → Bool} {l : List (BitVec 128)} {i : Int} (h0 : 0 ≤ i) (hi : i < (l.length : Int)) (h : ∀ j : Nat, (j : Int) < i → p (l.getD j 0#128) = false) (hp : p (l.getD i.toNat 0#128) = true) : idxP p l = i := by
  have hlt : i.toNat < l.length := by omega
  rw [getD_at hlt] at hp
  have ha : l.any p = true := List.any_eq_true.2 ⟨_, List.getElem_mem hlt, hp⟩
  unfold idxP
  rw [if_pos ha]
  have e : l.findIdx p = i.toNat := by
    rw [List.findIdx_eq hlt]
    exact ⟨hp, fun j hj => by have := h j (by omega); rwa [getD_at (by omega)] at this⟩
  rw [e]; omega
theorem idxP_none {p : BitVec 128 → Bool} {l : List (BitVec 128)} (h : ∀ j : Nat, j < l.length → p (l.getD j 0#128) = false) : l.any p = false ∧ idxP p l = -1 := by
  have ha : l.any p = false := by
    rw [List.any_eq_false]
    intro x hx
    obtain ⟨j, hj, rfl⟩ := List.getElem_of_mem hx
    have := h j hj
    rw [getD_at hj] at this
    simp [this]
  exact ⟨ha, by unfold idxP; rw [ha]; rfl⟩
theorem idxP_rng (p : BitVec 128 → Bool) (l : List (BitVec 128)) : (l.any p = true ∧ 0 ≤ idxP p l ∧ idxP p l < (l.length : Int) ∧ p (l.getD (idxP p l).toNat 0#128) = true) ∨ (l.any p = false ∧ idxP p l = -1) := by
  cases ha : l.any p with
  | true =>
    left
    have hlt : l.findIdx p < l.length := List.findIdx_lt_length.2 (by simpa using ha)
    unfold idxP
    rw [ha, if_pos rfl, Int.toNat_natCast, getD_at hlt]
    exact ⟨rfl, by omega, by omega, List.findIdx_getElem⟩
  | false => right; exact ⟨rfl, by unfold idxP; rw [ha]; rfl⟩
def isSig (f : Int) (w : BitVec 128) : Bool := decide (cls f w = 1)
def nanV (f : Int) (l : List (BitVec 128)) : BitVec 128 := if l.any (wNaN f) = true then qW f (l.getD (idxP (wNaN f) l).toNat 0#128) else 0
def nanX (f : Int) (l : List (BitVec 128)) : Int := if l.any (isSig f) = true then 1 else 0
def nanIs (f : Int) (l : List (BitVec 128)) : Bool := l.any (wNaN f)
end Go.LE
namespace Go.LE
open Go

/-! ## numbers as digits of 32 bits -/
theorem digs_eq : ∀ (f g n : Nat), n ≤ f → n ≤ g → digs f n = digs g n
  | 0, 0, n, _, _ => rfl
  | 0, g + 1, n, h, _ => by
    have : n = 0 := by omega
    subst this; simp [digs]
  | f + 1, 0, n, _, h => by
    have : n = 0 := by omega
    subst this; simp [digs]
  | f + 1, g + 1, n, h1, h2 => by
    unfold digs
    split
    · rfl
    · rename_i hn
      rw [digs_eq f g (n / 2 ^ 32) (by omega) (by omega)]
theorem dig_rec {n : Nat} (h : n ≠ 0) : dig n = ((n % 2 ^ 32 : Nat) : Int) :: dig (n / 2 ^ 32) := by
  have e : dig n = digs ((n - 1) + 1) n := by unfold dig; rw [show n - 1 + 1 = n by omega]
  rw [e]
  conv => lhs; unfold digs
  rw [if_neg h, digs_eq (n - 1) (n / 2 ^ 32) _ (by omega) (Nat.le_refl _)]
  rfl
theorem valL_dig (n : Nat) : valL (dig n) = n := by
  induction n using Nat.strongRecOn with
  | _ n ih =>
    by_cases h : n = 0
    · subst h; rfl
    · rw [dig_rec h, valL, ih (n / 2 ^ 32) (by omega)]
      simp only [Int.toNat_natCast]
      omega
def rngL (l : List Int) : Prop := ∀ x ∈ l, 0 ≤ x ∧ x < 4294967296
theorem rngL_cons {x : Int} {l : List Int} (h : rngL (x :: l)) : (0 ≤ x ∧ x < 4294967296) ∧ rngL l := ⟨h x (by simp), fun y hy => h y (by simp [hy])⟩
theorem rngL_take {l : List Int} (h : rngL l) (k : Nat) : rngL (l.take k) := fun x hx => h x (List.mem_of_mem_take hx)
theorem dig_valL : ∀ (l : List Int), rngL l → (∀ h : l ≠ [], l.getLast h ≠ 0) → dig (valL l) = l
  | [], _, _ => rfl
  | x :: l, hr, hl => by
    obtain ⟨hx, hr⟩ := rngL_cons hr
    have ih := dig_valL l hr fun h => by have := hl (by simp); rwa [List.getLast_cons h] at this
    have hv : valL (x :: l) ≠ 0 := by
      rw [valL]
      by_cases h : l = []
      · subst h
        have := hl (by simp)
        simp at this
        omega
      · have : valL l ≠ 0 := fun h0 => by rw [h0] at ih; exact h ih.symm
        omega
    rw [dig_rec hv, valL]
    have e1 : (x.toNat + 4294967296 * valL l) % 2 ^ 32 = x.toNat := by omega
    have e2 : (x.toNat + 4294967296 * valL l) / 2 ^ 32 = valL l := by omega
    rw [e1, e2, ih, Int.toNat_of_nonneg hx.1]
theorem valL_append : ∀ (l m : List Int), valL (l ++ m) = valL l + 2 ^ (32 * l.length) * valL m
  | [], m => by simp [valL]
  | x :: l, m => by
    rw [List.cons_append, valL, valL_append l m, valL, List.length_cons, show 32 * (l.length + 1) = 32 + 32 * l.length by omega, Nat.pow_add, Nat.mul_add, Nat.mul_assoc, Nat.add_assoc]
theorem valL_zero : ∀ (l : List Int), (∀ i, l.getD i 0 = 0) → valL l = 0
  | [], _ => rfl
  | x :: l, h => by
    have h0 := h 0
    rw [valL, valL_zero l fun i => by have := h (i + 1); simpa using this]
    simp at h0; subst h0; rfl
theorem valL_take (l : List Int) (k : Nat) (h : ∀ i, k ≤ i → l.getD i 0 = 0) : valL (l.take k) = valL l := by
  conv => rhs; rw [← List.take_append_drop k l, valL_append]
  rw [valL_zero (l.drop k) fun i => by
    have := h (k + i) (by omega)
    rw [List.getD_eq_getElem?_getD] at this ⊢
    rwa [List.getElem?_drop]]
  simp
/-- without the noughts at its end -/
theorem trim_dig {l : List Int} (hr : rngL l) {k : Nat} (hk : k ≤ l.length) (h : ∀ i, k ≤ i → l.getD i 0 = 0) (hl : k = 0 ∨ l.getD (k - 1) 0 ≠ 0) : dig (valL l) = l.take k := by
  rw [← valL_take l k h]
  refine dig_valL _ (rngL_take hr k) fun hne => ?_
  have hk0 : k ≠ 0 := fun e => by subst e; simp at hne
  have hl := hl.resolve_left hk0
  rw [List.getD_eq_getElem?_getD] at hl
  rw [List.getLast_eq_getElem]
  simp only [List.length_take, List.getElem_take, Nat.min_eq_left hk]
  rw [List.getElem?_eq_getElem (by omega)] at hl
  simpa using hl

/-- a digit, nought beyond -/
def digA (n : Nat) (i : Int) : Int := if i < 0 then 0 else ((n / 2 ^ (32 * i.toNat) % 4294967296 : Nat) : Int)
/-- how long a number may be, to be reckoned with -/
def small (n : Nat) : Prop := (dig n).length ≤ 1073741824
/-! ## limbs -/
def val64 : List Int → Nat
  | [] => 0
  | x :: l => x.toNat + 18446744073709551616 * val64 l
/-! ## which one is below -/
def cmpN (a b : Nat) : Int := if a < b then -1 else if b < a then 1 else 0
/-! ## sums, one digit after the other -/
/-! ## how many binary digits -/
def bitN (n : Nat) : Nat := if n = 0 then 0 else n.log2 + 1
theorem bitN_iff {n k : Nat} (hk : 0 < k) : bitN n = k ↔ 2 ^ (k - 1) ≤ n ∧ n < 2 ^ k := by
  unfold bitN
  split
  · rename_i h
    subst h
    have := Nat.pow_pos (n := k - 1) (show 0 < 2 by decide)
    omega
  · rename_i h
    rw [← Nat.le_log2 h, ← Nat.log2_lt h]
    omega
theorem bitN_zero : bitN 0 = 0 := rfl
theorem bitN_half {n : Nat} (h : n ≠ 0) : bitN n = bitN (n / 2) + 1 := by
  unfold bitN
  rw [if_neg h]
  split
  · rename_i h2
    rw [Nat.log2_def, if_neg (by omega)]
  · rename_i h2
    rw [Nat.log2_def, if_pos (by omega)]
/-! ## arithmetic -/
/-! ## shifts -/
/-! ## of limbs -/
end Go.LE
namespace Go.LE
open Go
/-! ## lists of words, one ahead of the others -/
theorem eql_dec (x y : Int) : cmpR .eql x y = decide (x = y) := by
  cases h : cmpR .eql x y with
  | true => rw [(by simpa [cmpR] using h : x = y)]; simp
  | false => rw [decide_eq_false (by simpa [cmpR] using h)]
/-! ## how many are of a class -/
def cntC (f : Int) (l : List (BitVec 128)) (k : Int) : Int := ((l.countP fun w => decide (cls f w = k) : Nat) : Int)
end Go.LE
namespace Go.LE
open Go
/-! ## how many binary digits: of a wide, of a number -/
theorem bitN_le {n k : Nat} : bitN n ≤ k ↔ n < 2 ^ k := by
  by_cases h : n = 0
  · subst h; simp [bitN_zero, Nat.pow_pos]
  · unfold bitN
    rw [if_neg h, ← Nat.log2_lt h]
    omega
theorem bitN_wLen (a : W) : ((bitN a.toNat : Nat) : Int) = wLen a := by
  unfold wLen nLen bitN
  by_cases h : a.toNat = 0
  · rw [h]; simp
  · rw [if_neg h, if_neg (by omega), Int.toNat_natCast]; simp
/-! ## a wide's number, limb by limb -/
end Go.LE
namespace Go.LE
open Go
/-! ## the word of parts -/
theorem fmt_sizes {f : Int} (hf : 1 ≤ f ∧ f ≤ 4) : ((2 ^ (fField f).toNat : Nat) : Int) = 2 * fEMax f + 2 ∧ (fBits f - 1).toNat = (fField f).toNat + (fPrec f - 1).toNat ∧ (fBits f - 1).toNat ≤ 127 := by
  rcases f_cases hf with rfl | rfl | rfl | rfl <;> decide
theorem mkOk_iff {f fld : Int} {frc : W} (h : fOk f = true) : mkOk f fld frc = true ↔ (0 ≤ fld ∧ fld ≤ 2 * fEMax f + 1) ∧ wLen frc ≤ fPrec f - 1 := by
  unfold mkOk
  rw [h]
  simp only [Bool.true_and, Bool.and_eq_true, decide_eq_true_eq]
end Go.LE
namespace Go.LE
open Go
/-! ## the word that carries something -/
def wthOk (f : Int) (p : W) : Bool := fOk f && decide (wLen p ≤ fPrec f - 2)
def wthW (f : Int) (neg : Bool) (p : W) : BitVec 128 := bif wthOk f p then mkW f neg (2 * fEMax f + 1) (p + wPower (fPrec f - 2)) else 0
end Go.LE