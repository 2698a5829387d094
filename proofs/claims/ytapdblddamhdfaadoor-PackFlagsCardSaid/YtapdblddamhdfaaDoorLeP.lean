import Derived.Test.YtapdblddamhdfaaDoorLeO
set_option linter.unusedVariables false
set_option linter.unusedSimpArgs false
namespace Go.LE
open Go
/-! ## a word's number -/
def vSig (f : Int) (w : BitVec 128) : W := bif wFin f w then (if bFld f w > 0 then bFrc f w + wPower (fPrec f - 1) else bFrc f w) else 0
def vExp (f : Int) (w : BitVec 128) : Int := bif wFin f w then (if bFld f w > 0 then bFld f w - 1 else bFld f w) + (1 - fEMax f) - fPrec f + 1 else 0
def vNeg (f : Int) (w : BitVec 128) : Bool := wFin f w && wNeg f w
theorem fin_iff (f : Int) (w : BitVec 128) : wFin f w = true ↔ 4 ≤ cls f w := by
  unfold wFin; rw [c_geq_t]
theorem fin_fits {f : Int} {w : BitVec 128} (h : wFin f w = true) : fFits f w = true ∧ (1 ≤ f ∧ f ≤ 4) := by
  have h1 := (fin_iff f w).1 h
  have h2 : fFits f w = true := by
    cases e : fFits f w with
    | true => rfl
    | false => rw [cls_none e] at h1; omega
  exact ⟨h2, (fits_lt h2).1⟩
theorem fin_fld {f : Int} {w : BitVec 128} (h : wFin f w = true) : 0 ≤ bFld f w ∧ bFld f w ≤ 2 * fEMax f ∧ (cls f w = 6 ↔ bFld f w = 0 ∧ bFrc f w = 0) := by
  obtain ⟨hF, hf⟩ := fin_fits h
  have h1 := (fin_iff f w).1 h
  have hc := cls_fits hF
  obtain ⟨e1, _, _⟩ := fmt_sizes hf
  have h0 : 0 ≤ bFld f w := Int.natCast_nonneg _
  have hlt : bFld f w < ((2 ^ (fField f).toNat : Nat) : Int) := by
    unfold bFld bFldN
    have := Nat.mod_lt (w.toNat / 2 ^ (fPrec f - 1).toNat) (Nat.two_pow_pos (fField f).toNat)
    omega
  have hne : bFld f w ≠ 2 * fEMax f + 1 := by
    intro e
    rw [hc, if_pos e] at h1
    split at h1
    · omega
    · split at h1 <;> omega
  refine ⟨h0, by omega, ?_⟩
  rw [hc, if_neg hne]
  constructor
  · intro h6
    split at h6
    · rename_i hz
      split at h6
      · rename_i hz2; exact ⟨hz, hz2⟩
      · omega
    · omega
  · rintro ⟨a, b⟩
    rw [if_pos a, if_pos b]
set_option exponentiation.threshold 600 in
theorem vSig_nat {f : Int} {w : BitVec 128} (h : wFin f w = true) : (vSig f w).toNat = (if bFld f w > 0 then 2 ^ (fPrec f - 1).toNat else 0) + (bFrc f w).toNat ∧ (bFrc f w).toNat < 2 ^ (fPrec f - 1).toNat := by
  obtain ⟨hF, hf⟩ := fin_fits h
  have hp := p_rng f hf
  have hlt : (bFrc f w).toNat < 2 ^ (fPrec f - 1).toNat := by
    rw [frc_toNat hf]; exact Nat.mod_lt _ (Nat.two_pow_pos _)
  have e1 := power_toNat (n := fPrec f - 1) ⟨by omega, by omega⟩
  have hb : 2 ^ (fPrec f - 1).toNat ≤ 2 ^ 511 := Nat.pow_le_pow_right (by decide) (by omega)
  refine ⟨?_, hlt⟩
  unfold vSig
  rw [h, cond_true]
  split
  · rw [add_toNat (by rw [e1]; omega), e1, Nat.add_comm]
  · rw [Nat.zero_add]
theorem vSig_lt {f : Int} {w : BitVec 128} (h : wFin f w = true) : (vSig f w).toNat < 2 ^ (fPrec f).toNat := by
  obtain ⟨e, hlt⟩ := vSig_nat h
  obtain ⟨_, hf⟩ := fin_fits h
  have hp := p_rng f hf
  have hd : 2 ^ (fPrec f).toNat = 2 ^ (fPrec f - 1).toNat + 2 ^ (fPrec f - 1).toNat := by
    rw [show (fPrec f).toNat = (fPrec f - 1).toNat + 1 by omega, Nat.pow_succ]; omega
  rw [e]
  split <;> omega
theorem vSig_zero {f : Int} {w : BitVec 128} (h : wFin f w = true) : vSig f w = 0 ↔ cls f w = 6 := by
  obtain ⟨e, hlt⟩ := vSig_nat h
  obtain ⟨h0, _, h6⟩ := fin_fld h
  rw [h6, w_zero, w_zero, e]
  have := Nat.two_pow_pos (fPrec f - 1).toNat
  split
  · constructor
    · intro hh; omega
    · intro hh; omega
  · constructor
    · intro hh; omega
    · intro hh; omega
/-! ## a number with an odd Sig -/
def tz : Nat → Nat → Nat
  | 0, _ => 0
  | f + 1, n => if n % 2 = 1 then 0 else tz f (n / 2) + 1
/-- how many noughts at its end -/
def tzN (n : Nat) : Nat := tz n n
theorem tz_eq : ∀ (f g n : Nat), 0 < n → n ≤ f → n ≤ g → tz f n = tz g n
  | 0, _, n, h, h1, _ => by omega
  | _, 0, n, h, _, h1 => by omega
  | f + 1, g + 1, n, h, h1, h2 => by
    unfold tz
    split
    · rfl
    · rw [tz_eq f g (n / 2) (by omega) (by omega) (by omega)]
theorem tzN_odd {n : Nat} (h : n % 2 = 1) : tzN n = 0 := by
  unfold tzN
  obtain ⟨m, rfl⟩ : ∃ m, n = m + 1 := ⟨n - 1, by omega⟩
  unfold tz; rw [if_pos h]
theorem tzN_even {n : Nat} (h0 : 0 < n) (h : n % 2 = 0) : tzN n = tzN (n / 2) + 1 := by
  unfold tzN
  obtain ⟨m, rfl⟩ : ∃ m, n = m + 1 := ⟨n - 1, by omega⟩
  conv => lhs; unfold tz
  rw [if_neg (by omega), tz_eq m ((m + 1) / 2) ((m + 1) / 2) (by omega) (by omega) (Nat.le_refl _)]
theorem tzN_spec (n : Nat) (h0 : 0 < n) : n = n / 2 ^ tzN n * 2 ^ tzN n ∧ n / 2 ^ tzN n % 2 = 1 := by
  induction n using Nat.strongRecOn with
  | _ n ih =>
    by_cases h : n % 2 = 1
    · rw [tzN_odd h]; simp [h]
    · rw [tzN_even h0 (by omega)]
      obtain ⟨g1, g2⟩ := ih (n / 2) (by omega) (by omega)
      rw [Nat.pow_succ, Nat.mul_comm _ 2, ← Nat.div_div_eq_div_mul]
      refine ⟨?_, g2⟩
      rw [Nat.mul_comm 2, ← Nat.mul_assoc, ← g1]
      omega
theorem tzN_lt (n : Nat) (h0 : 0 < n) : 2 ^ tzN n ≤ n := by
  obtain ⟨g1, g2⟩ := tzN_spec n h0
  have : 1 ≤ n / 2 ^ tzN n := by generalize n / 2 ^ tzN n = q at g2; omega
  exact Nat.le_trans (Nat.le_mul_of_pos_left _ this) (Nat.le_of_eq g1.symm)
end Go.LE
namespace Go.LE
open Go
def rgtE (e : Int) : Bool := decide (-1048576 ≤ e ∧ e ≤ 1048576)
def topOk (e : Int) (s : W) : Bool := rgtE e && !decide (s = 0)
def topE (e : Int) (s : W) : Int := bif topOk e s then e + wLen s - 1 else 0
def shNeg (b : Bool) (e : Int) (_ : W) : Bool := rgtE e && b
def shExp (e : Int) (s : W) : Int := bif topOk e s then e + (tzN s.toNat : Int) else 0
def shSig (e : Int) (s : W) : W := bif topOk e s then BitVec.ofNat 512 (s.toNat / 2 ^ tzN s.toNat) else 0
def uOk (f : Int) (w : BitVec 128) : Bool := wFin f w && !decide (vSig f w = 0)
def uNeg (f : Int) (w : BitVec 128) : Bool := uOk f w && vNeg f w
def uExp (f : Int) (w : BitVec 128) : Int := bif uOk f w then vExp f w - (fPrec f - wLen (vSig f w)) else 0
def uSig (f : Int) (w : BitVec 128) : W := bif uOk f w then wShl (vSig f w) (fPrec f - wLen (vSig f w)) else 0
def upOk (s : W) : Bool := !decide (s = 0)
def upNeg (b : Bool) (s : W) : Bool := upOk s && b
def upExp (p e : Int) (s : W) : Int := bif upOk s then arithR .sub .i64 e (arithR .sub .i64 p (wLen s)) else 0
def upSig (p : Int) (s : W) : W := bif upOk s then wShl s (arithR .sub .i64 p (wLen s)) else 0
def sizeN (a : Nat) (e : Int) (b : Nat) (g : Int) : Int :=
  if a = 0 ∨ b = 0 then (if a = 0 then 0 else 1) - (if b = 0 then 0 else 1)
  else if e + (bitN a : Int) ≠ g + (bitN b : Int) then e + (bitN a : Int) - g - (bitN b : Int)
  else cmpN (a * 2 ^ (e - min e g).toNat) (b * 2 ^ (g - min e g).toNat)
def okN (a : Nat) (e : Int) : Prop := bitN a ≤ 8589934592 ∧ -1099511627776 ≤ e ∧ e ≤ 1099511627776
theorem small_bits {a k : Nat} (h : bitN a ≤ 32 * k) (hk : k ≤ 1073741824) : small a := small_lt hk (bitN_le.1 h)
theorem okN_small {a : Nat} {e : Int} (h : okN a e) : small a := small_bits (k := 268435456) (by have := h.1; omega) (by decide)
theorem bitN_pos {a : Nat} (h : a ≠ 0) : 1 ≤ bitN a := by unfold bitN; rw [if_neg h]; omega
theorem bitN_eq0 {a : Nat} : bitN a = 0 ↔ a = 0 := by
  constructor
  · intro h
    by_cases h0 : a = 0
    · exact h0
    · have := bitN_pos h0; omega
  · intro h; subst h; rfl
theorem bitN_wide (s : W) : bitN s.toNat ≤ 512 := bitN_le.2 s.isLt
theorem bitN_mul (a k : Nat) (h : a ≠ 0) : bitN (a * 2 ^ k) = bitN a + k := by
  have hp := bitN_pos h
  obtain ⟨g1, g2⟩ := (bitN_iff hp).1 rfl
  rw [bitN_iff (by omega)]
  refine ⟨?_, ?_⟩
  · rw [show bitN a + k - 1 = bitN a - 1 + k by omega, Nat.pow_add]
    exact Nat.mul_le_mul_right _ g1
  · rw [Nat.pow_add]
    exact Nat.mul_lt_mul_of_pos_right g2 (Nat.two_pow_pos k)
/-- of two that are brought to one exponent -/
theorem sizeN_at {a b : Nat} {e g k : Int} (he : k ≤ e) (hg : k ≤ g) :
    (sizeN a e b g = 0 ↔ a * 2 ^ (e - k).toNat = b * 2 ^ (g - k).toNat) ∧ (sizeN a e b g < 0 ↔ a * 2 ^ (e - k).toNat < b * 2 ^ (g - k).toNat) := by
  have pw : ∀ n : Nat, 0 < 2 ^ n := Nat.two_pow_pos
  unfold sizeN
  by_cases ha : a = 0
  · subst ha
    by_cases hb : b = 0
    · subst hb; simp
    · have := Nat.mul_pos (Nat.pos_of_ne_zero hb) (pw (g - k).toNat)
      simp only [true_or, if_true, hb, if_false, Nat.zero_mul]
      constructor <;> constructor <;> intro h <;> omega
  · by_cases hb : b = 0
    · subst hb
      have := Nat.mul_pos (Nat.pos_of_ne_zero ha) (pw (e - k).toNat)
      simp only [or_true, if_true, ha, if_false, Nat.zero_mul]
      constructor <;> constructor <;> intro h <;> omega
    · rw [if_neg (by omega)]
      have b1 := bitN_mul a (e - k).toNat ha
      have b2 := bitN_mul b (g - k).toNat hb
      split
      · rename_i hne
        rcases Int.lt_or_gt_of_ne hne with hlt | hgt
        · have hl : a * 2 ^ (e - k).toNat < b * 2 ^ (g - k).toNat := by
            have h1 : a * 2 ^ (e - k).toNat < 2 ^ (bitN a + (e - k).toNat) := bitN_le.1 (by omega)
            have h2 := ((bitN_iff (n := b * 2 ^ (g - k).toNat) (k := bitN b + (g - k).toNat) (by have := bitN_pos hb; omega)).1 b2).1
            have h3 : 2 ^ (bitN a + (e - k).toNat) ≤ 2 ^ (bitN b + (g - k).toNat - 1) := Nat.pow_le_pow_right (by decide) (by omega)
            omega
          constructor <;> constructor <;> intro h <;> omega
        · have hl : b * 2 ^ (g - k).toNat < a * 2 ^ (e - k).toNat := by
            have h1 : b * 2 ^ (g - k).toNat < 2 ^ (bitN b + (g - k).toNat) := bitN_le.1 (by omega)
            have h2 := ((bitN_iff (n := a * 2 ^ (e - k).toNat) (k := bitN a + (e - k).toNat) (by have := bitN_pos ha; omega)).1 b1).1
            have h3 : 2 ^ (bitN b + (g - k).toNat) ≤ 2 ^ (bitN a + (e - k).toNat - 1) := Nat.pow_le_pow_right (by decide) (by omega)
            omega
          constructor <;> constructor <;> intro h <;> omega
      · have e1 : (e - k).toNat = (e - min e g).toNat + (min e g - k).toNat := by omega
        have e2 : (g - k).toNat = (g - min e g).toNat + (min e g - k).toNat := by omega
        rw [e1, e2, Nat.pow_add, Nat.pow_add, ← Nat.mul_assoc, ← Nat.mul_assoc]
        generalize a * 2 ^ (e - min e g).toNat = x
        generalize b * 2 ^ (g - min e g).toNat = y
        have hpos := pw (min e g - k).toNat
        generalize 2 ^ (min e g - k).toNat = t at hpos
        have m1 : x * t = y * t ↔ x = y := Nat.mul_left_inj (by omega)
        have m2 : x * t < y * t ↔ x < y := Nat.mul_lt_mul_right hpos
        rw [m1, m2]
        unfold cmpN
        constructor
        · constructor
          · intro h; split at h
            · omega
            · split at h <;> omega
          · intro h; subst h; simp
        · constructor
          · intro h; split at h
            · omega
            · split at h <;> omega
          · intro h; rw [if_pos h]; omega

theorem fin_parts {f : Int} {w : BitVec 128} (h : wFin f w = true) : wFld f w = bFld f w ∧ wFrc f w = bFrc f w ∧ fOk f = true := by
  obtain ⟨hF, hf⟩ := fin_fits h
  refine ⟨by unfold wFld; rw [hF]; rfl, by unfold wFrc; rw [hF]; rfl, by unfold fOk; exact decide_eq_true hf⟩
theorem val_exp {f : Int} {w : BitVec 128} (h : wFin f w = true) :
    (0 < bFld f w → arithR .add .i64 (arithR .sub .i64 (arithR .add .i64 (arithR .sub .i64 (bFld f w) 1) (1 - fEMax f)) (fPrec f)) 1 = vExp f w ∧ bFrc f w + wPower (fPrec f - 1) = vSig f w) ∧
    (bFld f w ≤ 0 → arithR .add .i64 (arithR .sub .i64 (arithR .add .i64 (bFld f w) (1 - fEMax f)) (fPrec f)) 1 = vExp f w ∧ bFrc f w = vSig f w) := by
  obtain ⟨_, hf⟩ := fin_fits h
  obtain ⟨h0, h1, _⟩ := fin_fld h
  have hp := p_rng f hf
  have he := e_rng f hf
  unfold vExp vSig
  rw [h, cond_true, cond_true]
  refine ⟨fun g => ⟨?_, ?_⟩, fun g => ⟨?_, ?_⟩⟩
  · rw [if_pos g, sub_i64 (x := bFld f w) (by omega) (by omega), add_i64 (x := bFld f w - 1) (by omega) (by omega), sub_i64 (by omega) (by omega), add_i64 (by omega) (by omega)]
  · rw [if_pos g]
  · rw [if_neg (by omega), add_i64 (x := bFld f w) (by omega) (by omega), sub_i64 (by omega) (by omega), add_i64 (by omega) (by omega)]
  · rw [if_neg (by omega)]
theorem vExp_rng {f : Int} {w : BitVec 128} (h : wFin f w = true) : -16495 ≤ vExp f w ∧ vExp f w ≤ 16384 := by
  obtain ⟨_, hf⟩ := fin_fits h
  obtain ⟨h0, h1, _⟩ := fin_fld h
  have hp := p_rng f hf
  have he := e_rng f hf
  unfold vExp
  rw [h, cond_true]
  split <;> omega
theorem up_exp {f : Int} {w : BitVec 128} (h : wFin f w = true) (b : Bool) : upNeg (wNeg f w) (vSig f w) = uNeg f w ∧ upExp (fPrec f) (vExp f w) (vSig f w) = uExp f w ∧ upSig (fPrec f) (vSig f w) = uSig f w ∧ upOk (vSig f w) = uOk f w := by
  obtain ⟨_, hf⟩ := fin_fits h
  have hp := p_rng f hf
  have he := vExp_rng h
  have hl := wLen_le (vSig f w)
  have e : arithR .sub .i64 (fPrec f) (wLen (vSig f w)) = fPrec f - wLen (vSig f w) := sub_i64 (by omega) (by omega)
  have e2 : arithR .sub .i64 (vExp f w) (fPrec f - wLen (vSig f w)) = vExp f w - (fPrec f - wLen (vSig f w)) := sub_i64 (by omega) (by omega)
  have ho : upOk (vSig f w) = uOk f w := by unfold upOk uOk; rw [h]; rfl
  unfold upNeg upExp upSig uNeg uExp uSig vNeg
  rw [ho, e, e2, h, Bool.true_and]
  exact ⟨rfl, rfl, rfl, rfl⟩
theorem u_no {f : Int} {w : BitVec 128} (h : wFin f w = false) : uOk f w = false ∧ uNeg f w = false ∧ uExp f w = 0 ∧ uSig f w = 0 := by
  have ho : uOk f w = false := by unfold uOk; rw [h]; rfl
  unfold uNeg uExp uSig
  rw [ho]
  exact ⟨rfl, rfl, rfl, rfl⟩
theorem v_no {f : Int} {w : BitVec 128} (h : wFin f w = false) : vNeg f w = false ∧ vExp f w = 0 ∧ vSig f w = 0 := by
  unfold vNeg vExp vSig
  rw [h]
  exact ⟨rfl, rfl, rfl⟩
theorem min1 (a : Nat) : (if (1 : Int) < ((bitN a : Nat) : Int) then (1 : Int) else ((bitN a : Nat) : Int)) = if a = 0 then 0 else 1 := by
  by_cases h : a = 0
  · subst h; simp [bitN_zero]
  · have := bitN_pos h
    rw [if_neg h]
    split <;> omega
/-- one nought less -/
theorem wBit_odd (s : W) : wBit s 0 = decide (s.toNat % 2 = 1) := by
  unfold wBit
  rw [decide_eq_true (by omega), Bool.true_and, Nat.testBit_eq_decide_div_mod_eq]
  simp
theorem shr_half (s : W) : (wShr s 1).toNat = s.toNat / 2 := by
  rw [shr_toNat s (by omega)]; rfl
def shP (e0 : Int) (s0 : W) (e : Int) (s : W) : Prop := 0 < s.toNat ∧ e + (tzN s.toNat : Int) = e0 + (tzN s0.toNat : Int) ∧ s.toNat / 2 ^ tzN s.toNat = s0.toNat / 2 ^ tzN s0.toNat
set_option exponentiation.threshold 600 in
theorem tzN_512 (s : W) (h : 0 < s.toNat) : tzN s.toNat < 512 := by
  have h1 := tzN_lt s.toNat h
  have h2 := s.isLt
  exact (Nat.pow_lt_pow_iff_right (by decide)).1 (Nat.lt_of_le_of_lt h1 h2)
theorem shP_step {e0 e : Int} {s0 s : W} (h : shP e0 s0 e s) (hb : wBit s 0 = false) : shP e0 s0 (e + 1) (wShr s 1) ∧ tzN s.toNat = tzN (wShr s 1).toNat + 1 := by
  obtain ⟨h1, h2, h3⟩ := h
  rw [wBit_odd, decide_eq_false_iff_not] at hb
  have ht := tzN_even h1 (by omega)
  unfold shP
  rw [shr_half]
  refine ⟨⟨by omega, by omega, ?_⟩, ht⟩
  rw [← h3, ht, Nat.pow_succ, Nat.mul_comm _ 2, Nat.div_div_eq_div_mul]
set_option exponentiation.threshold 600 in
theorem shP_end {e0 e : Int} {s0 s : W} (h : shP e0 s0 e s) (hb : wBit s 0 = true) (ht : topOk e0 s0 = true) : e = shExp e0 s0 ∧ s = shSig e0 s0 := by
  obtain ⟨h1, h2, h3⟩ := h
  rw [wBit_odd, decide_eq_true_eq] at hb
  rw [tzN_odd hb] at h2 h3
  unfold shExp shSig
  rw [ht]
  refine ⟨by rw [cond_true]; omega, ?_⟩
  apply BitVec.eq_of_toNat_eq
  rw [cond_true, BitVec.toNat_ofNat, ← h3, Nat.pow_zero, Nat.div_one, Nat.mod_eq_of_lt s.isLt]
theorem topOk_iff (e : Int) (s : W) : topOk e s = true ↔ (-1048576 ≤ e ∧ e ≤ 1048576) ∧ s ≠ 0 := by
  unfold topOk rgtE
  rw [Bool.and_eq_true, decide_eq_true_eq, Bool.not_eq_true', decide_eq_false_iff_not]
set_option exponentiation.threshold 600 in
theorem sh_parts {e : Int} {s : W} (h : topOk e s = true) : 0 < s.toNat ∧ (shSig e s).toNat = s.toNat / 2 ^ tzN s.toNat ∧ (shSig e s).toNat % 2 = 1 ∧ shExp e s = e + (tzN s.toNat : Int) ∧ tzN s.toNat < 512 := by
  have hs := ((topOk_iff e s).1 h).2
  have hpos : 0 < s.toNat := by
    rcases Nat.eq_zero_or_pos s.toNat with h0 | h0
    · exact absurd (w_zero ▸ h0 : s = 0) hs
    · exact h0
  obtain ⟨_, g2⟩ := tzN_spec s.toNat hpos
  have e1 : (shSig e s).toNat = s.toNat / 2 ^ tzN s.toNat := by
    unfold shSig
    rw [h, cond_true, BitVec.toNat_ofNat, Nat.mod_eq_of_lt (Nat.lt_of_le_of_lt (Nat.div_le_self _ _) s.isLt)]
  refine ⟨hpos, e1, by rw [e1]; exact g2, by unfold shExp; rw [h]; rfl, tzN_512 s hpos⟩
theorem sh_size {e : Int} {s : W} (h : topOk e s = true) : sizeN (shSig e s).toNat (shExp e s) s.toNat e = 0 := by
  obtain ⟨hpos, e1, _, e2, _⟩ := sh_parts h
  have := (sizeN_at (a := (shSig e s).toNat) (b := s.toNat) (e := shExp e s) (g := e) (k := e) (by omega) (Int.le_refl _)).1
  rw [this, e1, e2, show (e + (tzN s.toNat : Int) - e).toNat = tzN s.toNat by omega, show (e - e).toNat = 0 by omega, Nat.pow_zero, Nat.mul_one]
  exact ((tzN_spec s.toNat hpos).1).symm
theorem okN_wide (s : W) {e : Int} (h : -1099511627776 ≤ e ∧ e ≤ 1099511627776) : okN s.toNat e := ⟨Nat.le_trans (bitN_wide s) (by decide), h⟩
theorem limb_odd (s : W) : arithR .rem .u64 (limbR s 0) 2 = ((s.toNat % 2 : Nat) : Int) := by
  unfold limbR
  rw [rem2_nat]
  simp
end Go.LE
namespace Go.LE
open Go
set_option exponentiation.threshold 600 in
theorem add_bit0 {a : W} {k : Nat} {c : Int} (hk : k < 64) (hc : c = ((2 ^ k : Nat) : Int)) (h : a.toNat < 2 ^ k) : ofLimbsR (arithR .add .u64 (limbR a 0) c) (limbR a 1) (limbR a 2) (limbR a 3) (limbR a 4) (limbR a 5) (limbR a 6) (limbR a 7) = a + wPower (k : Int) := by
  have hs := limb_sum a
  have hk2 : 2 ^ k ≤ 2 ^ 63 := Nat.pow_le_pow_right (by decide) (by omega)
  have n0 := lr a 0; have n1 := lr a 1; have n2 := lr a 2; have n3 := lr a 3; have n4 := lr a 4; have n5 := lr a 5; have n6 := lr a 6; have n7 := lr a 7
  have e1 := power_toNat (n := (k : Int)) ⟨by omega, by omega⟩
  rw [Int.toNat_natCast] at e1
  have ha : arithR .add .u64 (limbR a 0) c = limbR a 0 + c := add_u64' (by omega) (by omega)
  rw [ha]
  apply BitVec.eq_of_toNat_eq
  have ht := ofLimbs_toNat (a := limbR a 0 + c) (b := limbR a 1) (c := limbR a 2) (d := limbR a 3) (e := limbR a 4) (f := limbR a 5) (g := limbR a 6) (h := limbR a 7) ⟨by omega, by omega⟩ n1 n2 n3 n4 n5 n6 n7
  rw [add_toNat (by rw [e1]; omega), e1]
  omega
set_option exponentiation.threshold 600 in
theorem add_bit1 {a : W} {k : Nat} {c : Int} (hk : k < 64) (hc : c = ((2 ^ k : Nat) : Int)) (h : a.toNat < 2 ^ (64 + k)) : ofLimbsR (limbR a 0) (arithR .add .u64 (limbR a 1) c) (limbR a 2) (limbR a 3) (limbR a 4) (limbR a 5) (limbR a 6) (limbR a 7) = a + wPower ((64 + k : Nat) : Int) := by
  have hs := limb_sum a
  have hk2 : 2 ^ k ≤ 2 ^ 63 := Nat.pow_le_pow_right (by decide) (by omega)
  rw [Nat.pow_add] at h
  have n0 := lr a 0; have n1 := lr a 1; have n2 := lr a 2; have n3 := lr a 3; have n4 := lr a 4; have n5 := lr a 5; have n6 := lr a 6; have n7 := lr a 7
  have e1 := power_toNat (n := ((64 + k : Nat) : Int)) ⟨by omega, by omega⟩
  rw [Int.toNat_natCast, Nat.pow_add] at e1
  have ha : arithR .add .u64 (limbR a 1) c = limbR a 1 + c := add_u64' (by omega) (by omega)
  rw [ha]
  apply BitVec.eq_of_toNat_eq
  have ht := ofLimbs_toNat (a := limbR a 0) (b := limbR a 1 + c) (c := limbR a 2) (d := limbR a 3) (e := limbR a 4) (f := limbR a 5) (g := limbR a 6) (h := limbR a 7) n0 ⟨by omega, by omega⟩ n2 n3 n4 n5 n6 n7
  rw [add_toNat (by rw [e1]; omega), e1]
  omega
def sgN (b : Bool) (a : Nat) : Int := if a = 0 then 0 else bif b then -1 else 1
def cmp7 (b : Bool) (a : Nat) (e : Int) (c : Bool) (d : Nat) (g : Int) : Int :=
  if sgN b a ≠ sgN c d then (if sgN b a < sgN c d then -1 else 1) else max (-1) (min 1 (sgN b a * sizeN a e d g))
theorem sgN_rng (b : Bool) (a : Nat) : -1 ≤ sgN b a ∧ sgN b a ≤ 1 := by unfold sgN; split <;> cases b <;> simp
theorem sizeN_rng {a b : Nat} {e g : Int} (h1 : okN a e) (h2 : okN b g) : -4398046511104 ≤ sizeN a e b g ∧ sizeN a e b g ≤ 4398046511104 := by
  obtain ⟨a1, a2⟩ := h1
  obtain ⟨b1, b2⟩ := h2
  unfold sizeN cmpN
  split
  · split <;> split <;> omega
  · split
    · omega
    · split
      · omega
      · split <;> omega

theorem sg_mul (s x : Int) (hs : -1 ≤ s ∧ s ≤ 1) (hx : -4398046511104 ≤ x ∧ x ≤ 4398046511104) : arithR .mul .i64 s x = s * x := by
  have : s = -1 ∨ s = 0 ∨ s = 1 := by omega
  rcases this with rfl | rfl | rfl <;> exact mul_i64 (by omega) (by omega)
theorem clamp1 (x : Int) : (if (if x < 1 then x else 1) > -1 then (if x < 1 then x else 1) else -1) = max (-1) (min 1 x) := by
  split <;> split at * <;> omega
end Go.LE
namespace Go.LE
open Go
/-! ## a word by its sign and what is left of it -/
def halfN (f : Int) : Nat := 2 ^ (fBits f - 1).toNat
def magN (f : Int) (w : BitVec 128) : Nat := w.toNat % halfN f
def infN (f : Int) : Nat := (2 ^ (fField f).toNat - 1) * 2 ^ (fPrec f - 1).toNat
theorem halfN_pos (f : Int) : 0 < halfN f := Nat.two_pow_pos _
theorem mag_lt (f : Int) (w : BitVec 128) : magN f w < halfN f := Nat.mod_lt _ (halfN_pos f)
theorem half_split {f : Int} (hf : 1 ≤ f ∧ f ≤ 4) : halfN f = 2 ^ (fField f).toNat * 2 ^ (fPrec f - 1).toNat := by
  unfold halfN
  rw [(fmt_sizes hf).2.1, Nat.pow_add]
theorem inf_lt {f : Int} (hf : 1 ≤ f ∧ f ≤ 4) : infN f + 2 ^ (fPrec f - 1).toNat = halfN f := by
  rw [half_split hf]
  unfold infN
  have := Nat.two_pow_pos (fField f).toNat
  rw [Nat.sub_mul, Nat.one_mul]
  have := Nat.mul_le_mul_right (2 ^ (fPrec f - 1).toNat) this
  omega
theorem half_le {f : Int} (hf : 1 ≤ f ∧ f ≤ 4) : halfN f ≤ 2 ^ 127 := Nat.pow_le_pow_right (by decide) (fmt_sizes hf).2.2
theorem two_half {f : Int} (hf : 1 ≤ f ∧ f ≤ 4) : 2 ^ (fBits f).toNat = halfN f + halfN f := two_bits hf
/-- the word of a sign and the rest -/
theorem wOf_nat {f : Int} (hf : 1 ≤ f ∧ f ≤ 4) {n : Nat} (hn : n < halfN f) (s : Bool) : (fWordOf f s n).toNat = n + (bif s then halfN f else 0) := by
  have hl := half_le hf
  unfold fWordOf
  rw [if_pos hf, BitVec.toNat_ofNat]
  cases s
  · simp only [cond_false]; rw [Nat.mod_eq_of_lt (by omega)]
  · simp only [cond_true]; unfold halfN at *; rw [Nat.mod_eq_of_lt (by omega)]
theorem wOf_fits {f : Int} (hf : 1 ≤ f ∧ f ≤ 4) {n : Nat} (hn : n < halfN f) (s : Bool) : fFits f (fWordOf f s n) = true := by
  have hb := two_half hf
  unfold fFits fOk
  rw [decide_eq_true hf, Bool.true_and, decide_eq_true_eq, wOf_nat hf hn]
  cases s <;> simp only [cond_false, cond_true] <;> omega
theorem wOf_mag {f : Int} (hf : 1 ≤ f ∧ f ≤ 4) {n : Nat} (hn : n < halfN f) (s : Bool) : magN f (fWordOf f s n) = n := by
  unfold magN
  rw [wOf_nat hf hn]
  cases s
  · simp only [cond_false, Nat.add_zero]; exact Nat.mod_eq_of_lt hn
  · simp only [cond_true, Nat.add_mod_right]; exact Nat.mod_eq_of_lt hn
theorem wOf_sgn {f : Int} (hf : 1 ≤ f ∧ f ≤ 4) {n : Nat} (hn : n < halfN f) (s : Bool) : fWordOf f s n = sgn f (fWordOf f s n) s := by
  unfold sgn
  have := wOf_mag hf hn s
  unfold magN halfN at this
  rw [this]
theorem wOf_neg {f : Int} (hf : 1 ≤ f ∧ f ≤ 4) {n : Nat} (hn : n < halfN f) (s : Bool) : wNeg f (fWordOf f s n) = s := by
  rw [wneg_fits (wOf_fits hf hn s), wOf_sgn hf hn s, sgn_neg hf]
theorem wOf_flip {f : Int} (hf : 1 ≤ f ∧ f ≤ 4) {n : Nat} (hn : n < halfN f) (s : Bool) : wFlip f (fWordOf f s n) = fWordOf f (!s) n := by
  have h1 := wOf_neg hf hn s
  rw [wneg_fits (wOf_fits hf hn s)] at h1
  unfold wFlip
  rw [wOf_fits hf hn s, cond_true, h1]
  unfold sgn
  have := wOf_mag hf hn s
  unfold magN halfN at this
  rw [this]
theorem w_own {f : Int} {w : BitVec 128} (h : fFits f w = true) : w = fWordOf f (wNeg f w) (magN f w) := by
  have := sgn_own h
  rw [wneg_fits h]
  conv => lhs; rw [← this]
  rfl
theorem wAbs_mag {f : Int} {w : BitVec 128} (h : fFits f w = true) : wAbs f w = fWordOf f false (magN f w) := by
  unfold wAbs
  rw [h, cond_true]
  rfl
/-! ## classes by what is left -/
theorem fld_mag {f : Int} (hf : 1 ≤ f ∧ f ≤ 4) (w : BitVec 128) : bFld f w = ((magN f w / 2 ^ (fPrec f - 1).toNat : Nat) : Int) ∧ bFrcN f w.toNat = magN f w % 2 ^ (fPrec f - 1).toNat := by
  refine ⟨by unfold bFld; rw [fld_low hf]; rfl, frc_low hf w.toNat⟩
theorem cls_mag {f : Int} {w : BitVec 128} (h : fFits f w = true) : (cls f w < 3 ↔ infN f < magN f w) ∧ (cls f w = 3 ↔ magN f w = infN f) ∧ (4 ≤ cls f w ↔ magN f w < infN f) ∧ (cls f w = 6 ↔ magN f w = 0) := by
  obtain ⟨hf, _⟩ := fits_lt h
  have hc := cls_fits h
  obtain ⟨e1, e2⟩ := fld_mag hf w
  obtain ⟨s1, _, _⟩ := fmt_sizes hf
  have hm := mag_lt f w
  rw [half_split hf] at hm
  have hz : (bFrc f w = 0) = (magN f w % 2 ^ (fPrec f - 1).toNat = 0) := by rw [frc_zero hf, e2]
  rw [e1] at hc
  have hF1 : 1 < 2 ^ (fField f).toNat := by rcases f_cases hf with rfl | rfl | rfl | rfl <;> decide
  unfold infN
  have hp := Nat.two_pow_pos (fPrec f - 1).toNat
  generalize 2 ^ (fPrec f - 1).toNat = P at *
  generalize magN f w = n at *
  generalize 2 ^ (fField f).toNat = F at *
  have hq : n / P < F := Nat.div_lt_of_lt_mul (by rw [Nat.mul_comm]; exact hm)
  have hdm := Nat.div_add_mod n P
  have hr := Nat.mod_lt n hp
  have hI : (F - 1) * P = F * P - P := by rw [Nat.sub_mul, Nat.one_mul]
  by_cases hinf : n / P = F - 1
  · have : ((n / P : Nat) : Int) = 2 * fEMax f + 1 := by omega
    rw [if_pos this] at hc
    rw [hinf, Nat.mul_comm] at hdm
    by_cases hfr : n % P = 0
    · rw [if_pos (by rw [hz]; exact hfr)] at hc
      have h0 : 0 < (F - 1) * P := Nat.mul_pos (by omega) hp
      rw [hc]
      refine ⟨⟨fun h => by omega, fun h => by omega⟩, ⟨fun _ => by omega, fun _ => rfl⟩, ⟨fun h => by omega, fun h => by omega⟩, ⟨fun h => by omega, fun h => by omega⟩⟩
    · rw [if_neg (by rw [hz]; exact hfr)] at hc
      have hlt : cls f w < 3 := by rw [hc]; split <;> omega
      have h0 : 0 < (F - 1) * P := Nat.mul_pos (by omega) hp
      refine ⟨⟨fun _ => by omega, fun _ => hlt⟩, ⟨fun h => by omega, fun h => by omega⟩, ⟨fun h => by omega, fun h => by omega⟩, ⟨fun h => by omega, fun h => by omega⟩⟩
  · have hne : ¬ ((n / P : Nat) : Int) = 2 * fEMax f + 1 := by omega
    rw [if_neg hne] at hc
    have hlt : n < (F - 1) * P := by
      have := Nat.mul_le_mul_right P (show n / P + 1 ≤ F - 1 by omega)
      rw [Nat.add_mul, Nat.one_mul, Nat.mul_comm (n / P)] at this
      omega
    have h4 : 4 ≤ cls f w := by
      rw [hc]
      split
      · split <;> omega
      · omega
    refine ⟨⟨fun h => by omega, fun h => by omega⟩, ⟨fun h => by omega, fun h => by omega⟩, ⟨fun _ => hlt, fun _ => h4⟩, ?_⟩
    rw [hc]
    constructor
    · intro h
      split at h
      · rename_i h1
        split at h
        · rename_i h2
          rw [hz] at h2
          have : n / P = 0 := by omega
          rw [this, h2] at hdm
          omega
        · omega
      · omega
    · intro h
      subst h
      rw [if_pos (by simp), if_pos (by rw [hz]; simp)]
end Go.LE
namespace Go.LE
open Go
/-! ## numbers rise as words without their signs do -/
def magV (f : Int) (m : Nat) : Nat := if m / 2 ^ (fPrec f - 1).toNat = 0 then m else (2 ^ (fPrec f - 1).toNat + m % 2 ^ (fPrec f - 1).toNat) * 2 ^ (m / 2 ^ (fPrec f - 1).toNat - 1)
theorem magV_mono (f : Int) {m n : Nat} (h : m < n) : magV f m < magV f n := by
  unfold magV
  have hp := Nat.two_pow_pos (fPrec f - 1).toNat
  generalize 2 ^ (fPrec f - 1).toNat = P at *
  have d1 := Nat.div_add_mod m P
  have d2 := Nat.div_add_mod n P
  have r1 := Nat.mod_lt m hp
  have r2 := Nat.mod_lt n hp
  have hq : m / P ≤ n / P := Nat.div_le_div_right (Nat.le_of_lt h)
  generalize hM : m / P = M at *
  generalize hN : n / P = N at *
  generalize m % P = x at *
  generalize n % P = y at *
  by_cases hz : M = 0
  · rw [if_pos hz]
    by_cases hz2 : N = 0
    · rw [if_pos hz2]; exact h
    · rw [if_neg hz2]
      subst hz
      have h1 : 1 ≤ 2 ^ (N - 1) := Nat.two_pow_pos _
      have h2 : (P + y) * 1 ≤ (P + y) * 2 ^ (N - 1) := Nat.mul_le_mul_left _ h1
      omega
  · have hz2 : N ≠ 0 := by omega
    rw [if_neg hz, if_neg hz2]
    by_cases he : M = N
    · subst he
      exact Nat.mul_lt_mul_of_pos_right (by omega) (Nat.two_pow_pos _)
    · obtain ⟨k, rfl⟩ : ∃ k, N = M + 1 + k := ⟨N - M - 1, by omega⟩
      have e1 : 2 ^ (M + 1 + k - 1) = 2 ^ (M - 1) * 2 * 2 ^ k := by
        rw [show M + 1 + k - 1 = (M - 1) + 1 + k by omega, Nat.pow_add, Nat.pow_succ]
      have h3 : (P + x) * 2 ^ (M - 1) < (P + P) * 2 ^ (M - 1) := Nat.mul_lt_mul_of_pos_right (by omega) (Nat.two_pow_pos _)
      have h4 : (P + y) * (2 ^ (M - 1) * 2 * 1) ≤ (P + y) * (2 ^ (M - 1) * 2 * 2 ^ k) := Nat.mul_le_mul_left _ (Nat.mul_le_mul_left _ (Nat.two_pow_pos _))
      have h5 : P * (2 ^ (M - 1) * 2) ≤ (P + y) * (2 ^ (M - 1) * 2) := Nat.mul_le_mul_right _ (by omega)
      rw [e1]
      rw [Nat.mul_one] at h4
      have h6 : (P + P) * 2 ^ (M - 1) = P * (2 ^ (M - 1) * 2) := by
        rw [← Nat.two_mul, Nat.mul_comm 2 P, Nat.mul_assoc, Nat.mul_comm 2]
      omega
theorem magV_le (f : Int) {m n : Nat} : magV f m ≤ magV f n ↔ m ≤ n := by
  constructor
  · intro h
    by_cases hh : m ≤ n
    · exact hh
    · have := magV_mono f (show n < m by omega); omega
  · intro h
    by_cases hh : m = n
    · subst hh; exact Nat.le_refl _
    · exact Nat.le_of_lt (magV_mono f (by omega))
theorem magV_lt (f : Int) {m n : Nat} : magV f m < magV f n ↔ m < n := by
  have := magV_le f (m := n) (n := m); omega
theorem magV_eq (f : Int) {m n : Nat} : magV f m = magV f n ↔ m = n := by
  have := magV_le f (m := n) (n := m)
  have := magV_le f (m := m) (n := n)
  omega
theorem magV_zero (f : Int) : magV f 0 = 0 := by unfold magV; simp
/-- least exponent of a format's words -/
def expO (f : Int) : Int := 2 - fEMax f - fPrec f
theorem vMag {f : Int} {w : BitVec 128} (h : wFin f w = true) : expO f ≤ vExp f w ∧ (vSig f w).toNat * 2 ^ (vExp f w - expO f).toNat = magV f (magN f w) := by
  obtain ⟨hF, hf⟩ := fin_fits h
  obtain ⟨h0, h1, _⟩ := fin_fld h
  obtain ⟨s1, s2⟩ := vSig_nat h
  obtain ⟨e1, e2⟩ := fld_mag hf w
  have hfr := frc_toNat hf w
  rw [hfr] at s1 s2
  have hp := Nat.two_pow_pos (fPrec f - 1).toNat
  have hdm := Nat.div_add_mod (magN f w) (2 ^ (fPrec f - 1).toNat)
  unfold magV
  rw [s1]
  unfold vExp expO
  rw [h, cond_true]
  by_cases hz : bFld f w > 0
  · rw [if_pos hz, if_pos hz, if_neg (by omega), e2]
    refine ⟨by omega, ?_⟩
    rw [show (bFld f w - 1 + (1 - fEMax f) - fPrec f + 1 - (2 - fEMax f - fPrec f)).toNat = magN f w / 2 ^ (fPrec f - 1).toNat - 1 by omega]
  · rw [if_neg hz, if_neg hz, if_pos (by omega), e2]
    refine ⟨by omega, ?_⟩
    rw [show (bFld f w + (1 - fEMax f) - fPrec f + 1 - (2 - fEMax f - fPrec f)).toNat = 0 by omega, Nat.pow_zero, Nat.mul_one, Nat.zero_add]
    have : magN f w / 2 ^ (fPrec f - 1).toNat = 0 := by omega
    rw [this, Nat.mul_zero] at hdm
    omega
/-- of words by what they stand for -/
theorem size_words {f : Int} {a b : BitVec 128} (ha : wFin f a = true) (hb : wFin f b = true) :
    (sizeN (vSig f a).toNat (vExp f a) (vSig f b).toNat (vExp f b) = 0 ↔ magN f a = magN f b) ∧ (sizeN (vSig f a).toNat (vExp f a) (vSig f b).toNat (vExp f b) < 0 ↔ magN f a < magN f b) := by
  obtain ⟨g1, g2⟩ := vMag ha
  obtain ⟨g3, g4⟩ := vMag hb
  obtain ⟨s1, s2⟩ := sizeN_at (a := (vSig f a).toNat) (b := (vSig f b).toNat) g1 g3
  rw [g2, g4] at s1 s2
  rw [magV_eq] at s1
  rw [magV_lt] at s2
  exact ⟨s1, s2⟩
theorem sig_zero {f : Int} {w : BitVec 128} (h : wFin f w = true) : (vSig f w).toNat = 0 ↔ magN f w = 0 := by
  rw [← w_zero, vSig_zero h]
  exact (cls_mag (fin_fits h).1).2.2.2
/-- a word's place among the others -/
def sval (f : Int) (w : BitVec 128) : Int := bif wNeg f w then -((magN f w : Nat) : Int) else ((magN f w : Nat) : Int)
def sgI (x : Int) : Int := if x < 0 then -1 else if 0 < x then 1 else 0
theorem cmp_words {f : Int} {a b : BitVec 128} (ha : wFin f a = true) (hb : wFin f b = true) :
    cmp7 (vNeg f a) (vSig f a).toNat (vExp f a) (vNeg f b) (vSig f b).toNat (vExp f b) = sgI (sval f a - sval f b) := by
  obtain ⟨s1, s2⟩ := size_words ha hb
  have z1 := sig_zero ha
  have z2 := sig_zero hb
  have n1 : vNeg f a = wNeg f a := by unfold vNeg; rw [ha]; rfl
  have n2 : vNeg f b = wNeg f b := by unfold vNeg; rw [hb]; rfl
  rw [n1, n2]
  unfold cmp7 sgN sval sgI
  generalize sizeN (vSig f a).toNat (vExp f a) (vSig f b).toNat (vExp f b) = s at *
  generalize (vSig f a).toNat = A at *
  generalize (vSig f b).toNat = B at *
  generalize magN f a = m at *
  generalize magN f b = n at *
  clear n1 n2 ha hb
  cases wNeg f a <;> cases wNeg f b <;> simp only [cond_true, cond_false]
  all_goals (by_cases hA : A = 0 <;> by_cases hB : B = 0 <;> simp only [hA, hB, if_true, if_false] <;> (try split) <;> (try split) <;> (try split) <;> omega)
end Go.LE
namespace Go.LE
open Go
/-! ## places, and the word that follows -/
theorem known_iff {f : Int} {w : BitVec 128} : 3 ≤ cls f w ↔ fFits f w = true ∧ magN f w ≤ infN f := by
  cases h : fFits f w with
  | false => rw [cls_none h]; simp
  | true =>
    obtain ⟨g1, _⟩ := cls_mag h
    constructor
    · intro h3; exact ⟨rfl, by omega⟩
    · rintro ⟨_, h3⟩; omega
theorem known_fits {f : Int} {w : BitVec 128} (h : 3 ≤ cls f w) : fFits f w = true := (known_iff.1 h).1
theorem inf_pos {f : Int} (hf : 1 ≤ f ∧ f ≤ 4) : 1 < infN f ∧ infN f + 1 < halfN f := by
  rcases f_cases hf with rfl | rfl | rfl | rfl <;> decide +kernel
def wgt (f : Int) (w : BitVec 128) (x : Bool) : Int := bif x then (bif wNeg f w then -1 else 1) else 0
def c28 (f : Int) (a b : BitVec 128) : Int := sgI (sval f a - sval f b)
theorem sval_le {f : Int} {w : BitVec 128} (h : 3 ≤ cls f w) : -(infN f : Int) ≤ sval f w ∧ sval f w ≤ infN f := by
  have := (known_iff.1 h).2
  unfold sval
  cases wNeg f w <;> simp only [cond_true, cond_false] <;> omega
theorem sval_fin {f : Int} {w : BitVec 128} (h : 3 ≤ cls f w) (h2 : cls f w ≠ 3) : wFin f w = true ∧ -(infN f : Int) < sval f w ∧ sval f w < infN f := by
  have h4 : 4 ≤ cls f w := by omega
  obtain ⟨_, _, g, _⟩ := cls_mag (known_fits h)
  have := g.1 h4
  refine ⟨(fin_iff f w).2 h4, ?_⟩
  unfold sval
  cases wNeg f w <;> simp only [cond_true, cond_false] <;> omega
theorem sval_inf {f : Int} {w : BitVec 128} (h2 : cls f w = 3) : sval f w = wgt f w true * infN f := by
  obtain ⟨_, g, _⟩ := cls_mag (known_fits (show 3 ≤ cls f w by omega))
  have := g.1 h2
  unfold sval wgt
  cases wNeg f w <;> simp only [cond_true, cond_false] <;> omega
theorem c28_inf {f : Int} {a b : BitVec 128} (ha : 3 ≤ cls f a) (hb : 3 ≤ cls f b) (h : cls f a = 3 ∨ cls f b = 3) : max (-1) (min 1 (wgt f a (decide (cls f a = 3)) - wgt f b (decide (cls f b = 3)))) = c28 f a b := by
  have hi : 0 < infN f := by have := (inf_pos (fits_lt (known_fits ha)).1).1; omega
  unfold c28 sgI
  have w1 : wgt f a true = -1 ∨ wgt f a true = 1 := by unfold wgt; cases wNeg f a <;> simp
  have w2 : wgt f b true = -1 ∨ wgt f b true = 1 := by unfold wgt; cases wNeg f b <;> simp
  have w0 : ∀ w, wgt f w false = 0 := fun w => rfl
  by_cases h1 : cls f a = 3
  · have e1 := sval_inf h1
    rw [decide_eq_true h1]
    by_cases h2 : cls f b = 3
    · have e2 := sval_inf h2
      rw [decide_eq_true h2, e1, e2]
      rcases w1 with w1 | w1 <;> rcases w2 with w2 | w2 <;> rw [w1, w2] <;> split <;> (try split) <;> omega
    · obtain ⟨_, e2, e3⟩ := sval_fin hb h2
      rw [decide_eq_false h2, w0, e1]
      rcases w1 with w1 | w1 <;> rw [w1] <;> split <;> (try split) <;> omega
  · obtain ⟨_, e2, e3⟩ := sval_fin ha h1
    have h2 : cls f b = 3 := by omega
    have e1 := sval_inf h2
    rw [decide_eq_true h2, decide_eq_false h1, w0, e1]
    rcases w2 with w2 | w2 <;> rw [w2] <;> split <;> (try split) <;> omega
def plN (f : Int) (w : BitVec 128) : Nat := bif wNeg f w then halfN f - 1 - (w.toNat - halfN f) else halfN f + w.toNat
def wdN (f : Int) (p : Nat) : BitVec 128 := BitVec.ofNat 128 (if halfN f ≤ p then p - halfN f else halfN f + (halfN f - 1 - p))
theorem wOf_bits {f : Int} (hf : 1 ≤ f ∧ f ≤ 4) {n : Nat} (hn : n < halfN f) (s : Bool) : fWordOf f s n = BitVec.ofNat 128 (n + bif s then halfN f else 0) := by
  apply BitVec.eq_of_toNat_eq
  have hl := half_le hf
  rw [wOf_nat hf hn, BitVec.toNat_ofNat]
  cases s <;> simp only [cond_true, cond_false] <;> rw [Nat.mod_eq_of_lt (by omega)]
theorem wd_pos {f : Int} (hf : 1 ≤ f ∧ f ≤ 4) {m : Nat} (hm : m < halfN f) : wdN f (halfN f + m) = fWordOf f false m := by
  unfold wdN
  rw [if_pos (by omega), wOf_bits hf hm, Nat.add_sub_cancel_left]
  rfl
theorem wd_neg {f : Int} (hf : 1 ≤ f ∧ f ≤ 4) {m : Nat} (hm : m < halfN f) : wdN f (halfN f - 1 - m) = fWordOf f true m := by
  unfold wdN
  rw [if_neg (by omega), wOf_bits hf hm]
  congr 1
  simp only [cond_true]
  omega
theorem pl_of {f : Int} (hf : 1 ≤ f ∧ f ≤ 4) {m : Nat} (hm : m < halfN f) (s : Bool) : plN f (fWordOf f s m) = bif s then halfN f - 1 - m else halfN f + m := by
  unfold plN
  rw [wOf_neg hf hm, wOf_nat hf hm]
  cases s <;> simp only [cond_true, cond_false] <;> omega
theorem pl_lt {f : Int} {w : BitVec 128} (h : fFits f w = true) : plN f w < 2 * halfN f := by
  obtain ⟨hf, _⟩ := fits_lt h
  have hm := mag_lt f w
  rw [w_own h, pl_of hf hm]
  have := halfN_pos f
  cases wNeg f w <;> simp only [cond_true, cond_false] <;> omega
theorem pl_known {f : Int} {w : BitVec 128} (h : 3 ≤ cls f w) : 1 ≤ plN f w ∧ plN f w + 1 < 2 * halfN f := by
  obtain ⟨hF, hm⟩ := known_iff.1 h
  obtain ⟨hf, _⟩ := fits_lt hF
  have hi := inf_pos hf
  rw [w_own hF, pl_of hf (by omega)]
  cases wNeg f w <;> simp only [cond_true, cond_false] <;> omega
def nxStep (f : Int) (w : BitVec 128) (up : Bool) : BitVec 128 := wdN f (bif up then plN f w + 1 else plN f w - 1)
def nxR (f : Int) (up : Bool) : Nat → BitVec 128 → BitVec 128
  | 0, w => w
  | n + 1, w => if cls f (nxStep f w up) < 3 then w else if c28 f (nxStep f w up) w ≠ 0 then nxStep f w up else nxR f up n (nxStep f w up)
def onx (f : Int) (w : BitVec 128) (up : Bool) : BitVec 128 :=
  if 3 ≤ cls f w then
    if magN f w = 0 then fWordOf f (!up) 1
    else if wNeg f w = up then fWordOf f up (magN f w - 1)
    else if magN f w = infN f then w
    else fWordOf f (!up) (magN f w + 1)
  else w
theorem step_of {f : Int} (hf : 1 ≤ f ∧ f ≤ 4) {m : Nat} (hm : m + 1 < halfN f) (s up : Bool) : nxStep f (fWordOf f s m) up = if s = up then (if m = 0 then fWordOf f (!s) 0 else fWordOf f s (m - 1)) else fWordOf f s (m + 1) := by
  unfold nxStep
  rw [pl_of hf (by omega)]
  have hp := halfN_pos f
  cases s <;> cases up <;> simp only [cond_true, cond_false, if_true, if_false, Bool.not_true, Bool.not_false, Bool.false_eq_true, Bool.true_eq_false]
  · by_cases h0 : m = 0
    · subst h0; rw [if_pos rfl, show halfN f + 0 - 1 = halfN f - 1 - 0 by omega, wd_neg hf hp]
    · rw [if_neg h0, show halfN f + m - 1 = halfN f + (m - 1) by omega, wd_pos hf (by omega)]
  · rw [Nat.add_assoc, wd_pos hf hm]
  · rw [show halfN f - 1 - m - 1 = halfN f - 1 - (m + 1) by omega, wd_neg hf hm]
  · by_cases h0 : m = 0
    · subst h0; rw [if_pos rfl, show halfN f - 1 - 0 + 1 = halfN f + 0 by omega, wd_pos hf hp]
    · rw [if_neg h0, show halfN f - 1 - m + 1 = halfN f - 1 - (m - 1) by omega, wd_neg hf (by omega)]
theorem sval_of {f : Int} (hf : 1 ≤ f ∧ f ≤ 4) {m : Nat} (hm : m < halfN f) (s : Bool) : sval f (fWordOf f s m) = bif s then -(m : Int) else (m : Int) := by
  unfold sval; rw [wOf_neg hf hm, wOf_mag hf hm]
theorem known_of {f : Int} (hf : 1 ≤ f ∧ f ≤ 4) {m : Nat} (hm : m < halfN f) (s : Bool) : 3 ≤ cls f (fWordOf f s m) ↔ m ≤ infN f := by
  rw [known_iff, wOf_mag hf hm, wOf_fits hf hm]; simp
theorem nxR_of {f : Int} (hf : 1 ≤ f ∧ f ≤ 4) {m : Nat} (hm : m ≤ infN f) (s up : Bool) (k : Nat) (h0 : m ≠ 0 ∨ s ≠ up) : nxR f up (k + 1) (fWordOf f s m) = if s = up then fWordOf f s (m - 1) else if m = infN f then fWordOf f s m else fWordOf f s (m + 1) := by
  have hi := inf_pos hf
  unfold nxR
  rw [step_of hf (by omega)]
  by_cases hs : s = up
  · have hz : m ≠ 0 := h0.resolve_right (fun hh => hh hs)
    rw [if_pos hs, if_pos hs, if_neg hz]
    have hk := (known_of hf (show m - 1 < halfN f by omega) s).2 (by omega)
    rw [if_neg (by omega)]
    have hc : c28 f (fWordOf f s (m - 1)) (fWordOf f s m) ≠ 0 := by
      unfold c28 sgI
      rw [sval_of hf (by omega), sval_of hf (by omega)]
      cases s <;> simp only [cond_true, cond_false] <;> split <;> (try split) <;> omega
    rw [if_pos hc]
  · rw [if_neg hs, if_neg hs]
    have hk := known_of hf (show m + 1 < halfN f by omega) s
    by_cases hm2 : m = infN f
    · rw [if_pos (by omega), if_pos hm2]
    · rw [if_neg (by omega), if_neg hm2]
      have hc : c28 f (fWordOf f s (m + 1)) (fWordOf f s m) ≠ 0 := by
        unfold c28 sgI
        rw [sval_of hf (by omega), sval_of hf (by omega)]
        cases s <;> simp only [cond_true, cond_false] <;> split <;> (try split) <;> omega
      rw [if_pos hc]
theorem nxR_onx {f : Int} {w : BitVec 128} (h : 3 ≤ cls f w) (up : Bool) : nxR f up 3 w = onx f w up := by
  obtain ⟨hF, hm⟩ := known_iff.1 h
  obtain ⟨hf, _⟩ := fits_lt hF
  have hi := inf_pos hf
  unfold onx
  rw [if_pos h]
  have hw := w_own hF
  generalize hM : magN f w = m at *
  generalize hS : wNeg f w = s at *
  by_cases h0 : m = 0
  · rw [if_pos h0]
    subst h0
    by_cases hs : s = up
    · subst hs
      rw [hw]
      unfold nxR
      rw [step_of hf (by omega), if_pos rfl, if_pos rfl]
      have hk := (known_of hf (show 0 < halfN f by omega) (!s)).2 (by omega)
      have hc : c28 f (fWordOf f (!s) 0) (fWordOf f s 0) = 0 := by
        unfold c28 sgI
        rw [sval_of hf (by omega), sval_of hf (by omega)]
        cases s <;> simp
      rw [if_neg (by omega), if_neg (by rw [hc]; simp), nxR_of hf hm _ _ _ (.inr (by cases s <;> simp)), if_neg (by cases s <;> simp), if_neg (by omega)]
    · have : s = !up := by cases s <;> cases up <;> simp at hs ⊢
      rw [hw, nxR_of hf hm _ _ _ (.inr hs), if_neg hs, if_neg (by omega), this]
  · rw [if_neg h0]
    rw [hw, nxR_of hf hm _ _ _ (.inl h0)]
    by_cases hs : s = up
    · rw [if_pos hs, if_pos hs, hs]
    · have : s = !up := by cases s <;> cases up <;> simp at hs ⊢
      rw [if_neg hs, if_neg hs, this]
/-- what follows is known, and back it is the word -/
theorem onx_known {f : Int} {w : BitVec 128} (h : 3 ≤ cls f w) (up : Bool) : 3 ≤ cls f (onx f w up) := by
  obtain ⟨hF, hm⟩ := known_iff.1 h
  obtain ⟨hf, _⟩ := fits_lt hF
  have hi := inf_pos hf
  unfold onx
  rw [if_pos h]
  split
  · exact (known_of hf (by omega) _).2 (by omega)
  · split
    · exact (known_of hf (by omega) _).2 (by omega)
    · split
      · exact h
      · exact (known_of hf (by omega) _).2 (by omega)
theorem onx_back {f : Int} {w : BitVec 128} (h : 3 ≤ cls f w) (up : Bool) : cls f w = 6 ∨ onx f w up = w ∨ cls f (onx f w up) = 6 ∨ onx f (onx f w up) (!up) = w := by
  obtain ⟨hF, hm⟩ := known_iff.1 h
  obtain ⟨hf, _⟩ := fits_lt hF
  have hi := inf_pos hf
  have hk := onx_known h up
  obtain ⟨_, _, _, z6⟩ := cls_mag hF
  obtain ⟨_, _, _, z7⟩ := cls_mag (known_fits hk)
  have hw := w_own hF
  by_cases h0 : magN f w = 0
  · exact .inl (z6.2 h0)
  · refine .inr ?_
    unfold onx at z7 hk ⊢
    rw [if_pos h, if_neg h0] at z7 hk ⊢
    by_cases hs : wNeg f w = up
    · rw [if_pos hs] at z7 hk ⊢
      by_cases h1 : magN f w - 1 = 0
      · refine .inr (.inl (z7.2 ?_))
        rw [h1, wOf_mag hf (by omega)]
      · refine .inr (.inr ?_)
        have hmag := wOf_mag hf (show magN f w - 1 < halfN f by omega) up
        have hneg := wOf_neg hf (show magN f w - 1 < halfN f by omega) up
        rw [if_pos hk, hmag, hneg, if_neg h1, if_neg (by cases up <;> simp), if_neg (by omega), Bool.not_not, show magN f w - 1 + 1 = magN f w by omega]
        rw [← hs]; exact hw.symm
    · rw [if_neg hs] at z7 hk ⊢
      by_cases h1 : magN f w = infN f
      · rw [if_pos h1]; exact .inl rfl
      · rw [if_neg h1] at z7 hk ⊢
        refine .inr (.inr ?_)
        have hn : (!up) = wNeg f w := by clear z7 hk hw z6; revert hs; cases wNeg f w <;> cases up <;> simp
        have hmag := wOf_mag hf (show magN f w + 1 < halfN f by omega) (!up)
        have hneg := wOf_neg hf (show magN f w + 1 < halfN f by omega) (!up)
        rw [if_pos hk, hmag, hneg, if_neg (by omega), if_pos rfl, Nat.add_sub_cancel, hn]
        exact hw.symm
end Go.LE
namespace Go.LE
open Go
/-! ## 512 bits out of digits -/
theorem val64_word (w : BitVec 128) : val64 [loR w, hiR w] = w.toNat := by
  have h := from_toNat w
  have h2 := ofLimbs_toNat (a := loR w) (b := hiR w) (c := 0) (d := 0) (e := 0) (f := 0) (g := 0) (h := 0)
  unfold val64 val64 val64
  have e1 : loR w = ((w.toNat % 2 ^ 64 : Nat) : Int) := by
    rfl
  have e2 : hiR w = ((w.toNat / 2 ^ 64 : Nat) : Int) := by
    rfl
  rw [e1, e2]
  have := Nat.div_add_mod w.toNat (2 ^ 64)
  omega
def w512 (b : Nat) : W := BitVec.ofNat 512 b
def two32 (x y : Int) : Int := x + 4294967296 * y
theorem digA_nat' (b k : Nat) (i : Int) (h : i = (k : Int)) : digA b i = ((b / 2 ^ (32 * k) % 4294967296 : Nat) : Int) := by subst h; exact digA_nat b k
set_option exponentiation.threshold 600 in
theorem w512_digs (b : Nat) : ofLimbsR (two32 (digA b 0) (digA b 1)) (two32 (digA b 2) (digA b 3)) (two32 (digA b 4) (digA b 5)) (two32 (digA b 6) (digA b 7)) (two32 (digA b 8) (digA b 9)) (two32 (digA b 10) (digA b 11)) (two32 (digA b 12) (digA b 13)) (two32 (digA b 14) (digA b 15)) = w512 b := by
  have two : ∀ (k : Nat) (i j : Int), i = ((2 * k : Nat) : Int) → j = ((2 * k + 1 : Nat) : Int) → two32 (digA b i) (digA b j) = ((b / 2 ^ (64 * k) % 2 ^ 64 : Nat) : Int) := by
    intro k i j hi hj
    rw [digA_nat' b _ i hi, digA_nat' b _ j hj]
    unfold two32
    rw [show 32 * (2 * k + 1) = 32 * (2 * k) + 32 by omega, Nat.pow_add, ← Nat.div_div_eq_div_mul, show 32 * (2 * k) = 64 * k by omega]
    generalize b / 2 ^ (64 * k) = x
    omega
  rw [two 0 0 1 rfl rfl, two 1 2 3 rfl rfl, two 2 4 5 rfl rfl, two 3 6 7 rfl rfl, two 4 8 9 rfl rfl, two 5 10 11 rfl rfl, two 6 12 13 rfl rfl, two 7 14 15 rfl rfl]
  apply BitVec.eq_of_toNat_eq
  have rng : ∀ k : Nat, (0 : Int) ≤ ((b / 2 ^ (64 * k) % 2 ^ 64 : Nat) : Int) ∧ ((b / 2 ^ (64 * k) % 2 ^ 64 : Nat) : Int) < 18446744073709551616 := by
    intro k
    have := Nat.mod_lt (b / 2 ^ (64 * k)) (show 0 < 2 ^ 64 by decide)
    omega
  have ht := ofLimbs_toNat (rng 0) (rng 1) (rng 2) (rng 3) (rng 4) (rng 5) (rng 6) (rng 7)
  unfold w512
  rw [BitVec.toNat_ofNat]
  have step : ∀ k : Nat, b / 2 ^ (64 * k) = b / 2 ^ (64 * k) % 2 ^ 64 + 18446744073709551616 * (b / 2 ^ (64 * (k + 1))) := by
    intro k
    rw [show 64 * (k + 1) = 64 * k + 64 by omega, Nat.pow_add, ← Nat.div_div_eq_div_mul]
    generalize b / 2 ^ (64 * k) = x
    omega
  have s0 := step 0; have s1 := step 1; have s2 := step 2; have s3 := step 3; have s4 := step 4; have s5 := step 5; have s6 := step 6; have s7 := step 7
  have e : b % 2 ^ 512 = b - 2 ^ 512 * (b / 2 ^ 512) := by
    have := Nat.div_add_mod b (2 ^ 512); omega
  simp only [Nat.mul_zero, Nat.pow_zero, Nat.div_one] at s0 ht ⊢
  have e8 : b / 2 ^ (64 * (7 + 1)) = b / 2 ^ 512 := rfl
  rw [e8] at s7
  omega
theorem lo32 (b : Nat) {i : Int} (hi : 0 ≤ i) : arithR .add .u64 0 (arithR .shl .u64 (IntKind.u64.wrap ((dig b).getD (Int.toNat i) 0)) 0) = two32 (digA b i) 0 := by
  rw [digA_in hi]
  obtain ⟨h1, h2⟩ := digA_rng b i
  have e1 : IntKind.u64.wrap (digA b i) = digA b i := wrap_u64_of (by omega) (by omega)
  have e2 : arithR .shl .u64 (digA b i) 0 = digA b i := by
    show IntKind.u64.wrap (digA b i * 2 ^ (0 : Int).toNat) = _
    rw [show digA b i * 2 ^ (0 : Int).toNat = digA b i by simp, e1]
  rw [e1, e2, add_u64' (by omega) (by omega)]
  unfold two32; omega
theorem hi32 (b : Nat) {i j : Int} (hj : 0 ≤ j) : arithR .add .u64 (two32 (digA b i) 0) (arithR .shl .u64 (IntKind.u64.wrap ((dig b).getD (Int.toNat j) 0)) 32) = two32 (digA b i) (digA b j) := by
  rw [digA_in hj]
  obtain ⟨h1, h2⟩ := digA_rng b i
  obtain ⟨h3, h4⟩ := digA_rng b j
  have e1 : IntKind.u64.wrap (digA b j) = digA b j := wrap_u64_of (by omega) (by omega)
  have e2 : arithR .shl .u64 (digA b j) 32 = digA b j * 4294967296 := by
    show IntKind.u64.wrap (digA b j * 2 ^ (32 : Int).toNat) = _
    rw [show (2 : Int) ^ (32 : Int).toNat = 4294967296 by rfl]
    exact wrap_u64_of (by omega) (by omega)
  unfold two32
  rw [e1, e2, add_u64' (by omega) (by omega)]
  omega
theorem half_small {f : Int} (hf : 1 ≤ f ∧ f ≤ 4) {n : Nat} (h : n ≤ 2 * halfN f) : small n := by
  have := half_le hf
  refine small_lt (k := 5) (by decide) (show n < 2 ^ 160 from ?_)
  have e : (2 : Nat) ^ 160 = 2 ^ 127 * 2 ^ 33 := rfl
  omega
theorem pow_half {f : Int} (hf : 1 ≤ f ∧ f ≤ 4) : 2 ^ (arithR .sub .i64 (fBits f) 1).toNat = halfN f := by
  rw [(sub_prec hf).2.2.1]; rfl
theorem ok_half {f : Int} (hf : 1 ≤ f ∧ f ≤ 4) : 0 ≤ arithR .sub .i64 (fBits f) 1 ∧ arithR .sub .i64 (fBits f) 1 ≤ 17179869184 := by
  have := b_len f hf
  rw [(sub_prec hf).2.2.1]; omega
theorem fits_half {f : Int} {w : BitVec 128} (h : fFits f w = true) : w.toNat < 2 * halfN f := by
  have h1 := (fits_lt h).2
  rw [two_half (fits_lt h).1] at h1
  omega
theorem neg_half {f : Int} {w : BitVec 128} (h : fFits f w = true) (hn : wNeg f w = true) : halfN f ≤ w.toNat := by
  obtain ⟨hf, _⟩ := fits_lt h
  have hm := mag_lt f w
  rw [w_own h, wOf_nat hf hm, hn]
  simp only [cond_true]; omega
theorem geq_dec (x y : Int) : cmpR .geq x y = decide (y ≤ x) := by
  cases h : cmpR .geq x y with
  | true => rw [c_geq_t] at h; exact (decide_eq_true h).symm
  | false => rw [c_geq_f] at h; exact (decide_eq_false (by omega)).symm
set_option exponentiation.threshold 600 in
theorem w512_low (n : Nat) : mkWordR (limbR (w512 n) 1) (limbR (w512 n) 0) = BitVec.ofNat 128 n := by
  rw [low_nat]
  unfold w512
  apply BitVec.eq_of_toNat_eq
  rw [BitVec.toNat_ofNat, BitVec.toNat_ofNat, BitVec.toNat_ofNat]
  exact Nat.mod_mod_of_dvd _ ⟨2 ^ 384, by rw [← Nat.pow_add]⟩
theorem wgt_rng (f : Int) (w : BitVec 128) (x : Bool) : -1 ≤ wgt f w x ∧ wgt f w x ≤ 1 := by
  unfold wgt; cases x <;> cases wNeg f w <;> simp
theorem amt_frW {f : Int} {w : BitVec 128} (h : fFits f w = true) : ofLimbsR (loR (wAbs f w)) (hiR (wAbs f w)) 0 0 0 0 0 0 = BitVec.ofNat 512 (magN f w) := by
  obtain ⟨hf, _⟩ := fits_lt h
  have e := frW_eq (wAbs f w)
  unfold frW at e
  rw [e, wAbs_mag h, wOf_nat hf (mag_lt f w)]
  rfl
set_option exponentiation.threshold 600 in
theorem amt_zero {f : Int} (hf : 1 ≤ f ∧ f ≤ 4) {m : Nat} (hm : m < halfN f) : decide (BitVec.ofNat 512 m = ofLimbsR 0 0 0 0 0 0 0 0) = decide (m = 0) := by
  have hl := half_le hf
  rw [ofLimbs_0]
  have : (BitVec.ofNat 512 m = (0 : W)) = (m = 0) := by
    rw [w_zero, BitVec.toNat_ofNat, Nat.mod_eq_of_lt (Nat.lt_of_lt_of_le hm (Nat.le_trans hl (by rw [show (512 : Nat) = 127 + 385 from rfl, Nat.pow_add]; exact Nat.le_mul_of_pos_right _ (Nat.two_pow_pos _))))]
  simp only [this]
set_option exponentiation.threshold 600 in
theorem amt_sub {f : Int} (hf : 1 ≤ f ∧ f ≤ 4) {m : Nat} (hm : m < halfN f) (h0 : m ≠ 0) : mkWordR (limbR (BitVec.ofNat 512 m - ofLimbsR 1 0 0 0 0 0 0 0) 1) (limbR (BitVec.ofNat 512 m - ofLimbsR 1 0 0 0 0 0 0 0) 0) = fWordOf f false (m - 1) := by
  have hl := half_le hf
  have e1 := of1_toNat (x := 1) ⟨by decide, by decide⟩
  have e2 : (BitVec.ofNat 512 m).toNat = m := by rw [BitVec.toNat_ofNat, Nat.mod_eq_of_lt (by omega)]
  rw [low_nat, BitVec.toNat_sub_of_le (by rw [BitVec.le_def, e1, e2]; show 1 ≤ m; omega), e1, e2, wOf_bits hf (by omega)]
  rfl
set_option exponentiation.threshold 600 in
theorem amt_add {f : Int} (hf : 1 ≤ f ∧ f ≤ 4) {m : Nat} (hm : m + 1 < halfN f) : mkWordR (limbR (BitVec.ofNat 512 m + ofLimbsR 1 0 0 0 0 0 0 0) 1) (limbR (BitVec.ofNat 512 m + ofLimbsR 1 0 0 0 0 0 0 0) 0) = fWordOf f false (m + 1) := by
  have hl := half_le hf
  have e1 := of1_toNat (x := 1) ⟨by decide, by decide⟩
  have e2 : (BitVec.ofNat 512 m).toNat = m := by rw [BitVec.toNat_ofNat, Nat.mod_eq_of_lt (by omega)]
  rw [low_nat, add_toNat (by rw [e1, e2]; show m + 1 < _; omega), e1, e2, wOf_bits hf hm]
  rfl
theorem two32_0 : two32 0 0 = 0 := rfl
end Go.LE