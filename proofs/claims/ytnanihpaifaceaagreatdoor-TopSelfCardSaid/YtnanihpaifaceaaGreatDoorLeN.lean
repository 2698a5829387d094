import Derived.Test.YtnanihpaifaceaaGreatDoorLeM
set_option linter.unusedVariables false
set_option linter.unusedSimpArgs false
namespace Go.LE
open Go
/-! ## parts of words -/
def bFldN (f : Int) (n : Nat) : Nat := n / 2 ^ (fPrec f - 1).toNat % 2 ^ (fField f).toNat
def bFrcN (f : Int) (n : Nat) : Nat := n % 2 ^ (fPrec f - 1).toNat
def bNeg (f : Int) (w : BitVec 128) : Bool := w.toNat.testBit (fBits f - 1).toNat
def bFld (f : Int) (w : BitVec 128) : Int := (bFldN f w.toNat : Nat)
def bFrc (f : Int) (w : BitVec 128) : W := BitVec.ofNat 512 (bFrcN f w.toNat)
def wNeg (f : Int) (w : BitVec 128) : Bool := fFits f w && bNeg f w
def wFld (f : Int) (w : BitVec 128) : Int := bif fFits f w then bFld f w else 0
def wFrc (f : Int) (w : BitVec 128) : W := bif fFits f w then bFrc f w else 0
/-- the class of a field and a fraction -/
def clsN (f : Int) (n : Nat) : Int :=
  if bFldN f n = 2 ^ (fField f).toNat - 1 then (if bFrcN f n = 0 then 3 else if n.testBit (fPrec f - 2).toNat then 2 else 1)
  else if bFldN f n = 0 then (if bFrcN f n = 0 then 6 else 5) else 4
def cls (f : Int) (w : BitVec 128) : Int := bif fFits f w then clsN f w.toNat else 0

theorem fits_lt {f : Int} {w : BitVec 128} (h : fFits f w = true) : (1 ≤ f ∧ f ≤ 4) ∧ w.toNat < 2 ^ (fBits f).toNat := by
  unfold fFits fOk at h
  simpa using h
theorem shr_toNat (a : W) {n : Int} (h : 0 ≤ n ∧ n ≤ 512) : (wShr a n).toNat = a.toNat / 2 ^ n.toNat := by
  unfold wShr wClamp
  rw [show max 0 (min n 512) = n by omega, BitVec.toNat_ushiftRight, Nat.shiftRight_eq_div_pow]
theorem shl_toNat (a : W) {n : Int} (h : 0 ≤ n ∧ n ≤ 512) : (wShl a n).toNat = a.toNat * 2 ^ n.toNat % 2 ^ 512 := by
  unfold wShl wClamp
  rw [show max 0 (min n 512) = n by omega, BitVec.toNat_shiftLeft, Nat.shiftLeft_eq]
def frW (w : BitVec 128) : W := ofLimbsR (loR w) (hiR w) 0 0 0 0 0 0
theorem frW_toNat (w : BitVec 128) : (frW w).toNat = w.toNat := from_toNat w
theorem low_bits (a : W) {n : Int} (h : 0 ≤ n ∧ n ≤ 512) : a - wShl (wShr a n) n = BitVec.ofNat 512 (a.toNat % 2 ^ n.toNat) := by
  apply BitVec.eq_of_toNat_eq
  have h1 := shr_toNat a h
  have h2 := shl_toNat (wShr a n) h
  rw [h1] at h2
  have h3 : a.toNat / 2 ^ n.toNat * 2 ^ n.toNat ≤ a.toNat := Nat.div_mul_le_self _ _
  have h4 : a.toNat < 2 ^ 512 := a.isLt
  rw [Nat.mod_eq_of_lt (Nat.lt_of_le_of_lt h3 h4)] at h2
  rw [BitVec.toNat_sub, h2, BitVec.toNat_ofNat]
  have h5 := Nat.div_add_mod a.toNat (2 ^ n.toNat)
  rw [Nat.mul_comm] at h5
  have h6 : a.toNat % 2 ^ n.toNat ≤ a.toNat := Nat.mod_le _ _
  generalize a.toNat / 2 ^ n.toNat * 2 ^ n.toNat = q at *
  generalize a.toNat % 2 ^ n.toNat = r at *
  generalize a.toNat = m at *
  generalize (2 : Nat) ^ 512 = M at *
  have e : M - q + m = r + M := by omega
  rw [e, Nat.add_mod_right]
theorem and_i64 {x : Nat} (k : Nat) (hx : x < 2 ^ 63) (hk : k ≤ 62) : arithR .and .i64 (x : Int) ((2 ^ k - 1 : Nat) : Int) = ((x % 2 ^ k : Nat) : Int) := by
  have hp : (2 ^ k - 1 : Nat) < 2 ^ 63 := Nat.lt_of_le_of_lt (Nat.sub_le _ _) (Nat.pow_lt_pow_right (by decide) (by omega))
  show IntKind.i64.wrap ((BitVec.ofInt 64 (x : Int) &&& BitVec.ofInt 64 ((2 ^ k - 1 : Nat) : Int)).toNat : Int) = _
  have e1 : (BitVec.ofInt 64 (x : Int)).toNat = x := by
    rw [BitVec.toNat_ofInt]; simp only [Nat.reducePow] at hx ⊢; omega
  have e2 : (BitVec.ofInt 64 ((2 ^ k - 1 : Nat) : Int)).toNat = 2 ^ k - 1 := by
    rw [BitVec.toNat_ofInt]; simp only [Nat.reducePow] at hp ⊢; omega
  rw [BitVec.toNat_and, e1, e2, Nat.and_two_pow_sub_one_eq_mod]
  have : x % 2 ^ k ≤ x := Nat.mod_le _ _
  simp only [Nat.reducePow] at hx
  exact wrap_i64_of (by omega) (by omega)
/-- the field, as the program takes it -/
theorem fld_leaf {f : Int} {w : BitVec 128} (h : fFits f w = true) :
    arithR .and .i64 (IntKind.i64.wrap (limbR (wShr (frW w) (arithR .sub .i64 (fPrec f) 1)) 0)) (arithR .sub .i64 (arithR .shl .i64 1 (fField f)) 1) = bFld f w := by
  obtain ⟨hf, hw⟩ := fits_lt h
  have key : ∀ (p e b : Nat), p ≤ 512 → e ≤ 15 → p + e + 1 = b → w.toNat < 2 ^ b → arithR .and .i64 (IntKind.i64.wrap (limbR (wShr (frW w) (p : Int)) 0)) ((2 ^ e - 1 : Nat) : Int) = ((w.toNat / 2 ^ p % 2 ^ e : Nat) : Int) := by
    intro p e b hp he hb hlt
    have h1 := shr_toNat (frW w) (n := (p : Int)) (by omega)
    rw [frW_toNat, Int.toNat_natCast] at h1
    have h2 : w.toNat / 2 ^ p < 2 ^ (e + 1) := by
      rw [Nat.div_lt_iff_lt_mul (Nat.two_pow_pos p), ← Nat.pow_add]
      exact Nat.lt_of_lt_of_le hlt (Nat.pow_le_pow_right (by decide) (by omega))
    have h3 : 2 ^ (e + 1) ≤ 2 ^ 16 := Nat.pow_le_pow_right (by decide) (by omega)
    have h4 : limbR (wShr (frW w) (p : Int)) 0 = ((w.toNat / 2 ^ p : Nat) : Int) := by
      unfold limbR
      rw [h1, Nat.mul_zero, Nat.pow_zero, Nat.div_one, Nat.mod_eq_of_lt]
      exact Nat.lt_of_lt_of_le h2 (Nat.le_trans h3 (by decide))
    rw [h4, wrap_i64_of (by omega) (by simp only [Nat.reducePow] at h3; omega)]
    exact and_i64 e (Nat.lt_of_lt_of_le h2 (Nat.le_trans h3 (by decide))) (by omega)
  unfold bFld bFldN
  rcases f_cases hf with rfl | rfl | rfl | rfl
  · exact key 10 5 16 (by decide) (by decide) rfl hw
  · exact key 23 8 32 (by decide) (by decide) rfl hw
  · exact key 52 11 64 (by decide) (by decide) rfl hw
  · exact key 112 15 128 (by decide) (by decide) rfl hw
theorem frc_leaf {f : Int} {w : BitVec 128} (h : fFits f w = true) :
    frW w - wShl (wShr (frW w) (arithR .sub .i64 (fPrec f) 1)) (arithR .sub .i64 (fPrec f) 1) = bFrc f w := by
  obtain ⟨hf, hw⟩ := fits_lt h
  have e : 0 ≤ arithR .sub .i64 (fPrec f) 1 ∧ arithR .sub .i64 (fPrec f) 1 ≤ 512 ∧ arithR .sub .i64 (fPrec f) 1 = fPrec f - 1 := by
    rcases f_cases hf with rfl | rfl | rfl | rfl <;> decide
  rw [low_bits _ ⟨e.1, e.2.1⟩, frW_toNat, e.2.2]; rfl
theorem neg_leaf {f : Int} {w : BitVec 128} (h : fFits f w = true) : wBit (frW w) (arithR .sub .i64 (fBits f) 1) = bNeg f w := by
  obtain ⟨hf, hw⟩ := fits_lt h
  have e : 0 ≤ arithR .sub .i64 (fBits f) 1 ∧ arithR .sub .i64 (fBits f) 1 = fBits f - 1 := by
    rcases f_cases hf with rfl | rfl | rfl | rfl <;> decide
  unfold wBit bNeg
  rw [e.2, frW_toNat, decide_eq_true (by omega), Bool.true_and]
end Go.LE
namespace Go.LE
open Go
theorem div_step (a i k : Nat) : a / 2 ^ i % 2 ^ (k + 1) = 2 * (a / 2 ^ (i + 1) % 2 ^ k) + a / 2 ^ i % 2 := by
  rw [Nat.pow_succ 2 k, Nat.mul_comm (2 ^ k) 2, Nat.mod_mul, Nat.div_div_eq_div_mul, ← Nat.pow_succ, Nat.add_comm]
theorem mod_step (a i : Nat) : a % 2 ^ (i + 1) = a % 2 ^ i + 2 ^ i * (a / 2 ^ i % 2) := by
  rw [Nat.pow_succ, Nat.mod_mul]
theorem wd_num {w : BitVec 128} {i : Int} (h : 0 ≤ i) : w.toNat / 2 ^ i.toNat % 2 = if wdBit w i = true then 1 else 0 := by
  unfold wdBit
  rw [decide_eq_true h, Bool.true_and, Nat.testBit_eq_decide_div_mod_eq]
  by_cases hb : w.toNat / 2 ^ i.toNat % 2 = 1
  · rw [decide_eq_true hb, if_pos rfl, hb]
  · rw [decide_eq_false hb, if_neg (by decide)]; omega
/-- the field so far, from the highest bit down to 'i' -/
def fldAt (f : Int) (n : Nat) (i : Int) : Int := ((n / 2 ^ (i + 1).toNat % 2 ^ (fBits f - 2 - i).toNat : Nat) : Int)
theorem fldAt_0 (f : Int) (n : Nat) : fldAt f n (fBits f - 2) = 0 := by
  unfold fldAt
  rw [show fBits f - 2 - (fBits f - 2) = 0 by omega]
  show ((_ % 1 : Nat) : Int) = 0
  rw [Nat.mod_one]; rfl
theorem fldAt_step {f : Int} {w : BitVec 128} {i : Int} (h : 0 ≤ i) (h2 : i ≤ fBits f - 2) : fldAt f w.toNat (i - 1) = 2 * fldAt f w.toNat i + (if wdBit w i = true then 1 else 0) := by
  unfold fldAt
  rw [show i - 1 + 1 = i by omega, show (fBits f - 2 - (i - 1)).toNat = (fBits f - 2 - i).toNat + 1 by omega, div_step, wd_num h, show (i + 1).toNat = i.toNat + 1 by omega]
  split <;> omega
theorem fldAt_last {f : Int} (hf : 1 ≤ f ∧ f ≤ 4) (w : BitVec 128) : fldAt f w.toNat (fPrec f - 2) = bFld f w := by
  unfold fldAt bFld bFldN
  rcases f_cases hf with rfl | rfl | rfl | rfl <;> rfl
theorem fldAt_lt {f : Int} (hf : 1 ≤ f ∧ f ≤ 4) (n : Nat) {i : Int} (h : fPrec f - 2 ≤ i) (h2 : i ≤ fBits f - 2) : 0 ≤ fldAt f n i ∧ fldAt f n i < 32768 := by
  unfold fldAt
  have h1 : n / 2 ^ (i + 1).toNat % 2 ^ (fBits f - 2 - i).toNat < 2 ^ (fBits f - 2 - i).toNat := Nat.mod_lt _ (Nat.two_pow_pos _)
  have h3 : (fBits f - 2 - i).toNat ≤ 15 := by
    have : fBits f - fPrec f ≤ 15 := by rcases f_cases hf with rfl | rfl | rfl | rfl <;> decide
    omega
  have h4 : 2 ^ (fBits f - 2 - i).toNat ≤ 2 ^ 15 := Nat.pow_le_pow_right (by decide) h3
  omega

/-! ## the fraction, bit by bit -/
def frcAt (n : Nat) (i : Nat) : W := BitVec.ofNat 512 (n % 2 ^ i)
set_option exponentiation.threshold 600 in
theorem limb_ofNat {m : Nat} (h : m < 2 ^ 128) (k : Nat) : limbR (BitVec.ofNat 512 m) k = ((m / 2 ^ (64 * k) % 2 ^ 64 : Nat) : Int) := by
  unfold limbR
  rw [BitVec.toNat_ofNat, Nat.mod_eq_of_lt (Nat.lt_of_lt_of_le h (Nat.pow_le_pow_right (by decide) (by decide)))]
theorem frcAt_lt (n : Nat) {i : Nat} (h : i ≤ 112) : n % 2 ^ i < 2 ^ 128 := Nat.lt_of_lt_of_le (Nat.mod_lt _ (Nat.two_pow_pos _)) (Nat.pow_le_pow_right (by decide) (by omega))
theorem frcAt_no {w : BitVec 128} {i : Int} (h0 : 0 ≤ i) (hb : wdBit w i = false) : frcAt w.toNat (i.toNat + 1) = frcAt w.toNat i.toNat := by
  unfold frcAt
  rw [mod_step, wd_num h0, hb, if_neg (by decide), Nat.mul_zero, Nat.add_zero]
theorem frcAt_yes {w : BitVec 128} {i : Int} (h0 : 0 ≤ i) (h1 : i < 112) (hb : wdBit w i = true) (k : Nat) :
    limbR (frcAt w.toNat (i.toNat + 1)) k = if (k : Int) = i / 64 then arithR .add .u64 (limbR (frcAt w.toNat i.toNat) k) (arithR .shl .u64 1 (i % 64)) else limbR (frcAt w.toNat i.toNat) k := by
  unfold frcAt
  rw [limb_ofNat (frcAt_lt _ (by omega)), limb_ofNat (frcAt_lt _ (by omega)), mod_step w.toNat i.toNat, wd_num h0, if_pos hb, Nat.mul_one]
  have hm : w.toNat % 2 ^ i.toNat < 2 ^ i.toNat := Nat.mod_lt _ (Nat.two_pow_pos _)
  generalize w.toNat % 2 ^ i.toNat = m at *
  split
  · rename_i hk
    have hr : (i % 64).toNat < 64 := by omega
    have e : 2 ^ i.toNat = 2 ^ (64 * k) * 2 ^ (i % 64).toNat := by rw [← Nat.pow_add]; congr 1; omega
    rw [e] at hm ⊢
    have h2 : m / 2 ^ (64 * k) < 2 ^ (i % 64).toNat := by rw [Nat.div_lt_iff_lt_mul (Nat.two_pow_pos _), Nat.mul_comm]; exact hm
    have h3 : 2 ^ (i % 64).toNat * 2 ≤ 2 ^ 64 := by rw [← Nat.pow_succ]; exact Nat.pow_le_pow_right (by decide) (by omega)
    rw [Nat.add_mul_div_left _ _ (Nat.two_pow_pos _), shl_one ⟨by omega, by omega⟩]
    generalize m / 2 ^ (64 * k) = q at *
    generalize 2 ^ (i % 64).toNat = t at *
    simp only [Nat.reducePow] at h3 ⊢
    rw [Nat.mod_eq_of_lt (a := q) (by omega), Nat.mod_eq_of_lt (by omega)]
    show _ = IntKind.u64.wrap _
    rw [wrap_u64_of (by omega) (by omega)]
    omega
  · rename_i hk
    congr 1
    by_cases hlt : k < i.toNat / 64
    · have e : 2 ^ i.toNat = 2 ^ (64 * k) * (2 ^ 64 * 2 ^ (i.toNat - 64 * k - 64)) := by rw [← Nat.pow_add, ← Nat.pow_add]; congr 1; omega
      rw [e, Nat.add_mul_div_left _ _ (Nat.two_pow_pos _), Nat.add_mul_mod_self_left]
    · have h2 : 2 ^ i.toNat * 2 ≤ 2 ^ (64 * k) := by rw [← Nat.pow_succ]; exact Nat.pow_le_pow_right (by decide) (by omega)
      rw [Nat.div_eq_of_lt (by omega), Nat.div_eq_of_lt (by omega)]
theorem frcAt_0 (n : Nat) : frcAt n 0 = 0 := by unfold frcAt; rw [Nat.pow_zero, Nat.mod_one]; rfl
theorem frcAt_last {f : Int} (w : BitVec 128) : frcAt w.toNat (fPrec f - 1).toNat = bFrc f w := rfl

/-! ## a word with another sign -/
def sgn (f : Int) (w : BitVec 128) (neg : Bool) : BitVec 128 := fWordOf f neg (w.toNat % 2 ^ (fBits f - 1).toNat)
/-- the text's number so far -/
def sgnAt (f : Int) (n : Nat) (neg : Bool) (i : Int) : Nat := (bif neg then 2 ^ (fBits f - 2 - i).toNat else 0) + n / 2 ^ (i + 1).toNat % 2 ^ (fBits f - 2 - i).toNat
theorem sgnAt_step {f : Int} {w : BitVec 128} {neg : Bool} {i : Int} (h : 0 ≤ i) (h2 : i ≤ fBits f - 2) : sgnAt f w.toNat neg (i - 1) = 2 * sgnAt f w.toNat neg i + (if wdBit w i = true then 1 else 0) := by
  unfold sgnAt
  rw [show i - 1 + 1 = i by omega, show (fBits f - 2 - (i - 1)).toNat = (fBits f - 2 - i).toNat + 1 by omega, div_step, wd_num h, show (i + 1).toNat = i.toNat + 1 by omega, Nat.pow_succ]
  cases neg <;> simp only [cond_true, cond_false] <;> split <;> omega
theorem sgnAt_lt {f : Int} (hf : 1 ≤ f ∧ f ≤ 4) (n : Nat) (neg : Bool) {i : Int} (h : -1 ≤ i) : sgnAt f n neg i < 2 ^ 128 := by
  unfold sgnAt
  have hb := b_len f hf
  have h1 : n / 2 ^ (i + 1).toNat % 2 ^ (fBits f - 2 - i).toNat < 2 ^ (fBits f - 2 - i).toNat := Nat.mod_lt _ (Nat.two_pow_pos _)
  have h4 : 2 ^ (fBits f - 2 - i).toNat ≤ 2 ^ 127 := Nat.pow_le_pow_right (by decide) (by omega)
  cases neg <;> simp only [cond_true, cond_false] <;> omega
theorem sgnAt_last {f : Int} (hf : 1 ≤ f ∧ f ≤ 4) (w : BitVec 128) (neg : Bool) : BitVec.ofNat 128 (sgnAt f w.toNat neg (-1)) = sgn f w neg := by
  unfold sgn fWordOf sgnAt
  rw [if_pos hf, show (-1 + 1 : Int).toNat = 0 by decide, Nat.pow_zero, Nat.div_one, show (fBits f - 2 - -1) = fBits f - 1 by omega, Nat.add_comm]
theorem bWord_app (s : ByteArray) (b : Bool) : (bWord (s ++ (bif b then bytesOf [49] else bytesOf [48]))).toNat = (2 * (bWord s).toNat + (if b = true then 1 else 0)) % 2 ^ 128 := by
  have e : (s ++ (bif b then bytesOf [49] else bytesOf [48])).data.toList = s.data.toList ++ [bif b then 49 else 48] := by
    rw [ByteArray.data_append, Array.toList_append]
    cases b <;> rfl
  unfold bWord
  rw [e, bWordL_snoc]
  cases b
  · show (bWordL s.data.toList 0 <<< 1 + 0).toNat = _
    rw [BitVec.toNat_add, BitVec.toNat_shiftLeft, Nat.shiftLeft_eq]
    simp only [Bool.false_eq_true, if_false, Nat.pow_one]
    rw [show (0 : BitVec 128).toNat = 0 from rfl]
    omega
  · show (bWordL s.data.toList 0 <<< 1 + 1).toNat = _
    rw [BitVec.toNat_add, BitVec.toNat_shiftLeft, Nat.shiftLeft_eq]
    simp only [if_true, Nat.pow_one]
    rw [show (1 : BitVec 128).toNat = 1 from rfl]
    omega
theorem sign_size (b : Bool) : (bif b then bytesOf [49] else bytesOf [48]).size = 1 := by cases b <;> rfl
theorem bWord_sign (b : Bool) : (bWord (bif b then bytesOf [49] else bytesOf [48])).toNat = bif b then 1 else 0 := by cases b <;> decide +kernel
theorem size_app (s t : ByteArray) : (s ++ t).size = s.size + t.size := by simp
end Go.LE
namespace Go.LE
open Go
theorem p_rng (f : Int) (hf : 1 ≤ f ∧ f ≤ 4) : 11 ≤ fPrec f ∧ fPrec f ≤ 113 ∧ fPrec f < fBits f ∧ fBits f - fPrec f ≤ 15 ∧ 5 ≤ fBits f - fPrec f := by rcases f_cases hf with rfl | rfl | rfl | rfl <;> decide
theorem e_rng (f : Int) (hf : 1 ≤ f ∧ f ≤ 4) : 15 ≤ fEMax f ∧ fEMax f ≤ 16383 := by rcases f_cases hf with rfl | rfl | rfl | rfl <;> decide
end Go.LE
namespace Go.LE
open Go
end Go.LE
namespace Go.LE
open Go
theorem frcN_lt {f : Int} (hf : 1 ≤ f ∧ f ≤ 4) (n : Nat) : bFrcN f n < 2 ^ 112 := by
  unfold bFrcN
  have hp := p_rng f hf
  exact Nat.lt_of_lt_of_le (Nat.mod_lt _ (Nat.two_pow_pos _)) (Nat.pow_le_pow_right (by decide) (by omega))
set_option exponentiation.threshold 600 in
theorem frc_toNat {f : Int} (hf : 1 ≤ f ∧ f ≤ 4) (w : BitVec 128) : (bFrc f w).toNat = bFrcN f w.toNat := by
  unfold bFrc
  rw [BitVec.toNat_ofNat, Nat.mod_eq_of_lt]
  exact Nat.lt_of_lt_of_le (frcN_lt hf _) (Nat.pow_le_pow_right (by decide) (by decide))
set_option exponentiation.threshold 600 in
theorem w_zero {a : W} : (a = 0) = (a.toNat = 0) := by
  rw [eq_iff_iff]
  constructor
  · intro h; rw [h]; simp
  · intro h; apply BitVec.eq_of_toNat_eq; rw [h]; simp
theorem frc_zero {f : Int} (hf : 1 ≤ f ∧ f ≤ 4) (w : BitVec 128) : (bFrc f w = 0) = (bFrcN f w.toNat = 0) := by rw [w_zero, frc_toNat hf]
theorem cls_fits {f : Int} {w : BitVec 128} (h : fFits f w = true) : cls f w = if bFld f w = 2 * fEMax f + 1 then (if bFrc f w = 0 then 3 else if wdBit w (fPrec f - 2) = true then 2 else 1) else if bFld f w = 0 then (if bFrc f w = 0 then 6 else 5) else 4 := by
  obtain ⟨hf, _⟩ := fits_lt h
  have hp := p_rng f hf
  unfold cls
  rw [h, cond_true]
  unfold clsN
  have e1 : (bFldN f w.toNat = 2 ^ (fField f).toNat - 1) = (bFld f w = 2 * fEMax f + 1) := by
    unfold bFld
    rcases f_cases hf with rfl | rfl | rfl | rfl
    · show (_ = 31) = (_ = (31 : Int)); rw [eq_iff_iff]; omega
    · show (_ = 255) = (_ = (255 : Int)); rw [eq_iff_iff]; omega
    · show (_ = 2047) = (_ = (2047 : Int)); rw [eq_iff_iff]; omega
    · show (_ = 32767) = (_ = (32767 : Int)); rw [eq_iff_iff]; omega
  have e2 : (bFldN f w.toNat = 0) = (bFld f w = 0) := by unfold bFld; rw [eq_iff_iff]; omega
  have e3 : w.toNat.testBit (fPrec f - 2).toNat = wdBit w (fPrec f - 2) := by unfold wdBit; rw [decide_eq_true (by omega), Bool.true_and]
  simp only [e1, e2, e3, frc_zero hf]
theorem cls_none {f : Int} {w : BitVec 128} (h : fFits f w = false) : cls f w = 0 := by unfold cls; rw [h]; rfl
theorem frc_bit {f : Int} (hf : 1 ≤ f ∧ f ≤ 4) (w : BitVec 128) : wBit (bFrc f w) (fPrec f - 2) = wdBit w (fPrec f - 2) := by
  have hp := p_rng f hf
  unfold wBit wdBit
  rw [frc_toNat hf]
  unfold bFrcN
  rw [Nat.testBit_mod_two_pow, decide_eq_true (by omega : (fPrec f - 2).toNat < (fPrec f - 1).toNat), Bool.true_and]
theorem mul_emax {f : Int} (hf : 1 ≤ f ∧ f ≤ 4) : arithR .add .i64 (arithR .mul .i64 2 (fEMax f)) 1 = 2 * fEMax f + 1 := by
  rcases f_cases hf with rfl | rfl | rfl | rfl <;> rfl
theorem sub_prec {f : Int} (hf : 1 ≤ f ∧ f ≤ 4) : arithR .sub .i64 (fPrec f) 1 = fPrec f - 1 ∧ arithR .sub .i64 (fPrec f) 2 = fPrec f - 2 ∧ arithR .sub .i64 (fBits f) 1 = fBits f - 1 ∧ arithR .sub .i64 (fBits f) 2 = fBits f - 2 := by
  rcases f_cases hf with rfl | rfl | rfl | rfl <;> exact ⟨rfl, rfl, rfl, rfl⟩

/-! ## words made of parts -/
def mkOk (f fld : Int) (frc : W) : Bool := fOk f && (decide (0 ≤ fld ∧ fld ≤ 2 * fEMax f + 1) && decide (wLen frc ≤ fPrec f - 1))
def mkW (f : Int) (neg : Bool) (fld : Int) (frc : W) : BitVec 128 := bif mkOk f fld frc then fWordOf f neg (fld.toNat * 2 ^ (fPrec f - 1).toNat + frc.toNat) else 0
theorem low_nat (a : W) : mkWordR (limbR a 1) (limbR a 0) = BitVec.ofNat 128 a.toNat := by
  apply BitVec.eq_of_toNat_eq
  unfold mkWordR limbR
  rw [BitVec.toNat_ofNat, BitVec.toNat_ofNat, Int.toNat_natCast, Int.toNat_natCast]
  simp only [Nat.mul_zero, Nat.pow_zero, Nat.div_one, Nat.mul_one, Nat.reducePow]
  omega
theorem wLen_lt {a : W} {k : Nat} (hk : 0 < k) : (wLen a ≤ (k : Int)) = (a.toNat < 2 ^ k) := nLen_le hk
theorem add_toNat {a b : W} (h : a.toNat + b.toNat < 2 ^ 512) : (a + b).toNat = a.toNat + b.toNat := by rw [BitVec.toNat_add, Nat.mod_eq_of_lt h]
set_option exponentiation.threshold 600 in
theorem of1_toNat {x : Int} (h : 0 ≤ x ∧ x < 18446744073709551616) : (ofLimbsR x 0 0 0 0 0 0 0).toNat = x.toNat := by
  have e := ofLimbs_toNat h (b := 0) (c := 0) (d := 0) (e := 0) (f := 0) (g := 0) (h := 0) (by decide) (by decide) (by decide) (by decide) (by decide) (by decide) (by decide)
  omega
theorem shl_small {a : W} {n : Int} (h : 0 ≤ n ∧ n ≤ 512) (hb : a.toNat * 2 ^ n.toNat < 2 ^ 512) : (wShl a n).toNat = a.toNat * 2 ^ n.toNat := by rw [shl_toNat a h, Nat.mod_eq_of_lt hb]
set_option exponentiation.threshold 600 in
theorem power_toNat {n : Int} (h : 0 ≤ n ∧ n < 512) : (wPower n).toNat = 2 ^ n.toNat := by
  unfold wPower
  rw [if_pos h, BitVec.toNat_ofNat, Nat.mod_eq_of_lt]
  exact Nat.pow_lt_pow_right (by decide) (by omega)
set_option exponentiation.threshold 600 in
theorem make_leaf {f fld : Int} {frc : W} (h : mkOk f fld frc = true) :
    mkWordR (limbR (frc + wShl (ofLimbsR (IntKind.u64.wrap fld) 0 0 0 0 0 0 0) (fPrec f - 1)) 1) (limbR (frc + wShl (ofLimbsR (IntKind.u64.wrap fld) 0 0 0 0 0 0 0) (fPrec f - 1)) 0) = fWordOf f false (fld.toNat * 2 ^ (fPrec f - 1).toNat + frc.toNat) ∧
    mkWordR (limbR (frc + wShl (ofLimbsR (IntKind.u64.wrap fld) 0 0 0 0 0 0 0) (fPrec f - 1) + wPower (fBits f - 1)) 1) (limbR (frc + wShl (ofLimbsR (IntKind.u64.wrap fld) 0 0 0 0 0 0 0) (fPrec f - 1) + wPower (fBits f - 1)) 0) = fWordOf f true (fld.toNat * 2 ^ (fPrec f - 1).toNat + frc.toNat) := by
  unfold mkOk fOk at h
  simp only [Bool.and_eq_true, decide_eq_true_eq] at h
  obtain ⟨hf, ⟨h1, h2⟩, h3⟩ := h
  have key : ∀ (p b e : Nat), 0 < p → p ≤ 113 → p + e = b → b ≤ 127 → e ≤ 15 → 2 * fEMax f + 1 = ((2 ^ e - 1 : Nat) : Int) → fPrec f - 1 = (p : Int) → fBits f - 1 = (b : Int) →
      (frc + wShl (ofLimbsR (IntKind.u64.wrap fld) 0 0 0 0 0 0 0) (p : Int)).toNat = fld.toNat * 2 ^ p + frc.toNat ∧ fld.toNat * 2 ^ p + frc.toNat < 2 ^ b ∧
      (frc + wShl (ofLimbsR (IntKind.u64.wrap fld) 0 0 0 0 0 0 0) (p : Int) + wPower (b : Int)).toNat = fld.toNat * 2 ^ p + frc.toNat + 2 ^ b := by
    intro p b e hp hp2 hb hb2 he hE hP hB
    rw [hP] at h3
    rw [wLen_lt hp] at h3
    have hfl : fld.toNat < 2 ^ e := by have := Nat.two_pow_pos e; omega
    have he2 : 2 ^ e ≤ 2 ^ 15 := Nat.pow_le_pow_right (by decide) he
    have ew : IntKind.u64.wrap fld = fld := wrap_u64_of h1 (by omega)
    have e1 : (ofLimbsR (IntKind.u64.wrap fld) 0 0 0 0 0 0 0).toNat = fld.toNat := by rw [ew]; exact of1_toNat ⟨h1, by omega⟩
    have hm : (fld.toNat + 1) * 2 ^ p ≤ 2 ^ e * 2 ^ p := Nat.mul_le_mul_right _ hfl
    rw [← Nat.pow_add, Nat.add_mul, Nat.one_mul, show e + p = b by omega] at hm
    have hb3 : 2 ^ b ≤ 2 ^ 127 := Nat.pow_le_pow_right (by decide) hb2
    have hb4 : (2 : Nat) ^ 128 ≤ 2 ^ 512 := Nat.pow_le_pow_right (by decide) (by decide)
    have hb5 : (2 : Nat) ^ 128 = 2 * 2 ^ 127 := by decide
    have s1 : (wShl (ofLimbsR (IntKind.u64.wrap fld) 0 0 0 0 0 0 0) (p : Int)).toNat = fld.toNat * 2 ^ p := by
      rw [shl_small ⟨by omega, by omega⟩ (by rw [e1, Int.toNat_natCast]; omega), e1, Int.toNat_natCast]
    have s2 : (frc + wShl (ofLimbsR (IntKind.u64.wrap fld) 0 0 0 0 0 0 0) (p : Int)).toNat = fld.toNat * 2 ^ p + frc.toNat := by
      rw [add_toNat (by rw [s1]; omega), s1, Nat.add_comm]
    refine ⟨s2, by omega, ?_⟩
    have s3 := power_toNat (n := (b : Int)) ⟨by omega, by omega⟩
    rw [Int.toNat_natCast] at s3
    rw [add_toNat (by rw [s2, s3]; omega), s2, s3]
  have fin : ∀ (p b e : Nat), 0 < p → p ≤ 113 → p + e = b → b ≤ 127 → e ≤ 15 → 2 * fEMax f + 1 = ((2 ^ e - 1 : Nat) : Int) → fPrec f - 1 = (p : Int) → fBits f - 1 = (b : Int) → _ := fun p b e a1 a2 a3 a4 a5 a6 a7 a8 => by
    have := key p b e a1 a2 a3 a4 a5 a6 a7 a8
    rw [← a7, ← a8] at this
    have t1 : (p : Int).toNat = p := Int.toNat_natCast p
    have t2 : (b : Int).toNat = b := Int.toNat_natCast b
    exact (show (frc + wShl (ofLimbsR (IntKind.u64.wrap fld) 0 0 0 0 0 0 0) (fPrec f - 1)).toNat = fld.toNat * 2 ^ (fPrec f - 1).toNat + frc.toNat ∧ (frc + wShl (ofLimbsR (IntKind.u64.wrap fld) 0 0 0 0 0 0 0) (fPrec f - 1) + wPower (fBits f - 1)).toNat = fld.toNat * 2 ^ (fPrec f - 1).toNat + frc.toNat + 2 ^ (fBits f - 1).toNat by
      rw [show (fPrec f - 1).toNat = p by omega, show (fBits f - 1).toNat = b by omega]; exact ⟨this.1, this.2.2⟩)
  have fin2 : (frc + wShl (ofLimbsR (IntKind.u64.wrap fld) 0 0 0 0 0 0 0) (fPrec f - 1)).toNat = fld.toNat * 2 ^ (fPrec f - 1).toNat + frc.toNat ∧ (frc + wShl (ofLimbsR (IntKind.u64.wrap fld) 0 0 0 0 0 0 0) (fPrec f - 1) + wPower (fBits f - 1)).toNat = fld.toNat * 2 ^ (fPrec f - 1).toNat + frc.toNat + 2 ^ (fBits f - 1).toNat := by
    rcases f_cases hf with e | e | e | e
    · exact fin 10 15 5 (by decide) (by decide) rfl (by decide) (by decide) (by rw [e]; rfl) (by rw [e]; rfl) (by rw [e]; rfl)
    · exact fin 23 31 8 (by decide) (by decide) rfl (by decide) (by decide) (by rw [e]; rfl) (by rw [e]; rfl) (by rw [e]; rfl)
    · exact fin 52 63 11 (by decide) (by decide) rfl (by decide) (by decide) (by rw [e]; rfl) (by rw [e]; rfl) (by rw [e]; rfl)
    · exact fin 112 127 15 (by decide) (by decide) rfl (by decide) (by decide) (by rw [e]; rfl) (by rw [e]; rfl) (by rw [e]; rfl)
  rw [low_nat, low_nat, fin2.1, fin2.2]
  unfold fWordOf
  rw [if_pos hf, if_pos hf]
  exact ⟨by simp, by simp⟩
end Go.LE
namespace Go.LE
open Go
def wAbs (f : Int) (w : BitVec 128) : BitVec 128 := bif fFits f w then sgn f w false else 0
def wFlip (f : Int) (w : BitVec 128) : BitVec 128 := bif fFits f w then sgn f w (!bNeg f w) else 0
theorem wneg_fits {f : Int} {w : BitVec 128} (h : fFits f w = true) : wNeg f w = bNeg f w := by unfold wNeg; rw [h, Bool.true_and]
theorem wneg_none {f : Int} {w : BitVec 128} (h : fFits f w = false) : wNeg f w = false := by unfold wNeg; rw [h, Bool.false_and]
def kindOf (p e fld : Int) (frc : W) : Int := if fld = arithR .add .i64 (arithR .mul .i64 2 e) 1 then (if frc = 0 then 3 else if wBit frc (arithR .sub .i64 p 2) = true then 2 else 1) else if fld = 0 then (if frc = 0 then 6 else 5) else 4
theorem kind_cls {f : Int} {w : BitVec 128} (h : fFits f w = true) : kindOf (fPrec f) (fEMax f) (bFld f w) (bFrc f w) = cls f w := by
  obtain ⟨hf, _⟩ := fits_lt h
  unfold kindOf
  rw [cls_fits h, mul_emax hf, (sub_prec hf).2.1, frc_bit hf]
end Go.LE
namespace Go.LE
open Go
theorem sgnAt_0 (f : Int) (n : Nat) (neg : Bool) : sgnAt f n neg (fBits f - 2) = bif neg then 1 else 0 := by
  unfold sgnAt
  rw [show fBits f - 2 - (fBits f - 2) = 0 by omega]
  show _ + _ % 2 ^ 0 = _
  rw [Nat.pow_zero, Nat.mod_one]
  cases neg <;> rfl
end Go.LE
namespace Go.LE
open Go
theorem sgn_toNat {f : Int} (hf : 1 ≤ f ∧ f ≤ 4) (w : BitVec 128) (b : Bool) : (sgn f w b).toNat = w.toNat % 2 ^ (fBits f - 1).toNat + (bif b then 2 ^ (fBits f - 1).toNat else 0) := by
  have hb := b_len f hf
  unfold sgn fWordOf
  rw [if_pos hf, BitVec.toNat_ofNat, Nat.mod_eq_of_lt]
  have h1 : w.toNat % 2 ^ (fBits f - 1).toNat < 2 ^ (fBits f - 1).toNat := Nat.mod_lt _ (Nat.two_pow_pos _)
  have h2 : 2 ^ (fBits f - 1).toNat ≤ 2 ^ 127 := Nat.pow_le_pow_right (by decide) (by omega)
  cases b <;> simp only [cond_true, cond_false] <;> omega
theorem two_bits {f : Int} (hf : 1 ≤ f ∧ f ≤ 4) : 2 ^ (fBits f).toNat = 2 ^ (fBits f - 1).toNat + 2 ^ (fBits f - 1).toNat := by
  have hb := b_len f hf
  rw [show (fBits f).toNat = (fBits f - 1).toNat + 1 by omega, Nat.pow_succ]; omega
theorem sgn_fits {f : Int} (hf : 1 ≤ f ∧ f ≤ 4) (w : BitVec 128) (b : Bool) : fFits f (sgn f w b) = true := by
  unfold fFits fOk
  rw [decide_eq_true hf, Bool.true_and, decide_eq_true_eq, sgn_toNat hf, two_bits hf]
  have h1 : w.toNat % 2 ^ (fBits f - 1).toNat < 2 ^ (fBits f - 1).toNat := Nat.mod_lt _ (Nat.two_pow_pos _)
  cases b <;> simp only [cond_true, cond_false] <;> omega
theorem sgn_low {f : Int} (hf : 1 ≤ f ∧ f ≤ 4) (w : BitVec 128) (b : Bool) : (sgn f w b).toNat % 2 ^ (fBits f - 1).toNat = w.toNat % 2 ^ (fBits f - 1).toNat := by
  rw [sgn_toNat hf]
  cases b
  · simp only [cond_false, Nat.add_zero]; rw [Nat.mod_mod]
  · simp only [cond_true, Nat.add_mod_right]; rw [Nat.mod_mod]
theorem neg_div {f : Int} (w : BitVec 128) : bNeg f w = decide (w.toNat / 2 ^ (fBits f - 1).toNat % 2 = 1) := Nat.testBit_eq_decide_div_mod_eq
theorem sgn_neg {f : Int} (hf : 1 ≤ f ∧ f ≤ 4) (w : BitVec 128) (b : Bool) : bNeg f (sgn f w b) = b := by
  rw [neg_div, sgn_toNat hf]
  have h1 : w.toNat % 2 ^ (fBits f - 1).toNat < 2 ^ (fBits f - 1).toNat := Nat.mod_lt _ (Nat.two_pow_pos _)
  cases b
  · rw [decide_eq_false_iff_not]; simp only [cond_false, Nat.add_zero]; rw [Nat.div_eq_of_lt h1]; decide
  · rw [decide_eq_true_eq]; simp only [cond_true]; rw [Nat.add_div_right _ (Nat.two_pow_pos _), Nat.div_eq_of_lt h1]
theorem own_sum {f : Int} {w : BitVec 128} (h : fFits f w = true) : w.toNat = w.toNat % 2 ^ (fBits f - 1).toNat + (bif bNeg f w then 2 ^ (fBits f - 1).toNat else 0) := by
  obtain ⟨hf, hw⟩ := fits_lt h
  rw [two_bits hf] at hw
  rw [neg_div]
  have h2 : w.toNat / 2 ^ (fBits f - 1).toNat < 2 := by rw [Nat.div_lt_iff_lt_mul (Nat.two_pow_pos _)]; omega
  have h1 := Nat.div_add_mod w.toNat (2 ^ (fBits f - 1).toNat)
  generalize w.toNat / 2 ^ (fBits f - 1).toNat = q at *
  have hq : q = 0 ∨ q = 1 := by omega
  rcases hq with rfl | rfl
  · simp only [Nat.mul_zero, Nat.zero_add] at h1
    simp only [Nat.zero_mod, show decide (0 = 1) = false from rfl, cond_false, Nat.add_zero]
    exact h1.symm
  · simp only [Nat.mul_one] at h1
    rw [show decide (1 % 2 = 1) = true from rfl, cond_true]
    omega
theorem sgn_own {f : Int} {w : BitVec 128} (h : fFits f w = true) : sgn f w (bNeg f w) = w := by
  apply BitVec.eq_of_toNat_eq
  rw [sgn_toNat (fits_lt h).1, ← own_sum h]
theorem fld_low {f : Int} (hf : 1 ≤ f ∧ f ≤ 4) (n : Nat) : bFldN f n = n % 2 ^ (fBits f - 1).toNat / 2 ^ (fPrec f - 1).toNat := by
  have e : 2 ^ (fBits f - 1).toNat = 2 ^ (fPrec f - 1).toNat * 2 ^ (fField f).toNat := by
    rw [← Nat.pow_add]
    rcases f_cases hf with rfl | rfl | rfl | rfl <;> rfl
  unfold bFldN
  rw [e, Nat.mod_mul_right_div_self]
theorem frc_low {f : Int} (hf : 1 ≤ f ∧ f ≤ 4) (n : Nat) : bFrcN f n = n % 2 ^ (fBits f - 1).toNat % 2 ^ (fPrec f - 1).toNat := by
  have e : 2 ^ (fBits f - 1).toNat = 2 ^ (fPrec f - 1).toNat * 2 ^ (fField f).toNat := by
    rw [← Nat.pow_add]
    rcases f_cases hf with rfl | rfl | rfl | rfl <;> rfl
  unfold bFrcN
  rw [e, Nat.mod_mul_right_mod]
theorem cls_low {f : Int} (hf : 1 ≤ f ∧ f ≤ 4) {a b : Nat} (h : a % 2 ^ (fBits f - 1).toNat = b % 2 ^ (fBits f - 1).toNat) : clsN f a = clsN f b := by
  have hp := p_rng f hf
  unfold clsN
  rw [fld_low hf, fld_low hf, frc_low hf, frc_low hf, h]
  have e : ∀ n : Nat, n.testBit (fPrec f - 2).toNat = (n % 2 ^ (fBits f - 1).toNat).testBit (fPrec f - 2).toNat := fun n => by
    rw [Nat.testBit_mod_two_pow, decide_eq_true (by omega), Bool.true_and]
  rw [e a, e b, h]
theorem sgn_cls {f : Int} {w : BitVec 128} (h : fFits f w = true) (b : Bool) : cls f (sgn f w b) = cls f w := by
  obtain ⟨hf, _⟩ := fits_lt h
  unfold cls
  rw [h, sgn_fits hf, cond_true, cond_true]
  exact cls_low hf (sgn_low hf w b)
theorem sgn_fld {f : Int} (hf : 1 ≤ f ∧ f ≤ 4) (w : BitVec 128) (b : Bool) : bFld f (sgn f w b) = bFld f w ∧ bFrc f (sgn f w b) = bFrc f w := by
  unfold bFld bFrc
  rw [fld_low hf, fld_low hf, frc_low hf, frc_low hf, sgn_low hf]
  exact ⟨rfl, rfl⟩
theorem cls_rng (f : Int) (w : BitVec 128) : 0 ≤ cls f w ∧ cls f w ≤ 6 := by
  cases h : fFits f w
  · rw [cls_none h]; decide
  · rw [cls_fits h]
    repeat' split
    all_goals decide
end Go.LE
namespace Go.LE
open Go
def wFin (f : Int) (w : BitVec 128) : Bool := cmpR .geq (cls f w) 4
def wNaN (f : Int) (w : BitVec 128) : Bool := decide (cls f w = 1 ∨ cls f w = 2)
end Go.LE
namespace Go.LE
open Go
end Go.LE