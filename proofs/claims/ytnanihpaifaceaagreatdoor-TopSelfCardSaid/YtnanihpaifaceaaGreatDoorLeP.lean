import Derived.Test.YtnanihpaifaceaaGreatDoorLeO
set_option linter.unusedVariables false
set_option linter.unusedSimpArgs false
namespace Go.LE
open Go
/-! ## a word's number -/
def vSig (f : Int) (w : BitVec 128) : W := bif wFin f w then (if bFld f w > 0 then bFrc f w + wPower (fPrec f - 1) else bFrc f w) else 0
def vExp (f : Int) (w : BitVec 128) : Int := bif wFin f w then (if bFld f w > 0 then bFld f w - 1 else bFld f w) + (1 - fEMax f) - fPrec f + 1 else 0
def vNeg (f : Int) (w : BitVec 128) : Bool := wFin f w && wNeg f w
theorem fin_iff (f : Int) (w : BitVec 128) : wFin f w = true ↔ 4 ≤ cls f w := by
  unfold wFin; rw [c_geq_t]
theorem fin_fits {f : Int} {w : BitVec 128} (h : wFin f w = true) : fFits f w = true ∧ (1 ≤ f ∧ f ≤ 4) := by
  have h1 := (fin_iff f w).1 h
  have h2 : fFits f w = true := by
    cases e : fFits f w with
    | true => rfl
    | false => rw [cls_none e] at h1; omega
  exact ⟨h2, (fits_lt h2).1⟩
theorem fin_fld {f : Int} {w : BitVec 128} (h : wFin f w = true) : 0 ≤ bFld f w ∧ bFld f w ≤ 2 * fEMax f ∧ (cls f w = 6 ↔ bFld f w = 0 ∧ bFrc f w = 0) := by
  obtain ⟨hF, hf⟩ := fin_fits h
  have h1 := (fin_iff f w).1 h
  have hc := cls_fits hF
  obtain ⟨e1, _, _⟩ := fmt_sizes hf
  have h0 : 0 ≤ bFld f w := Int.natCast_nonneg _
  have hlt : bFld f w < ((2 ^ (fField f).toNat : Nat) : Int) := by
    unfold bFld bFldN
    have := Nat.mod_lt (w.toNat / 2 ^ (fPrec f - 1).toNat) (Nat.two_pow_pos (fField f).toNat)
    omega
  have hne : bFld f w ≠ 2 * fEMax f + 1 := by
    intro e
    rw [hc, if_pos e] at h1
    split at h1
    · omega
    · split at h1 <;> omega
  refine ⟨h0, by omega, ?_⟩
  rw [hc, if_neg hne]
  constructor
  · intro h6
    split at h6
    · rename_i hz
      split at h6
      · rename_i hz2; exact ⟨hz, hz2⟩
      · omega
    · omega
  · rintro ⟨a, b⟩
    rw [if_pos a, if_pos b]
set_option exponentiation.threshold 600 in
theorem vSig_nat {f : Int} {w : BitVec 128} (h : wFin f w = true) : (vSig f w).toNat = (if bFld f w > 0 then 2 ^ (fPrec f - 1).toNat else 0) + (bFrc f w).toNat ∧ (bFrc f w).toNat < 2 ^ (fPrec f - 1).toNat := by
  obtain ⟨hF, hf⟩ := fin_fits h
  have hp := p_rng f hf
  have hlt : (bFrc f w).toNat < 2 ^ (fPrec f - 1).toNat := by
    rw [frc_toNat hf]; exact Nat.mod_lt _ (Nat.two_pow_pos _)
  have e1 := power_toNat (n := fPrec f - 1) ⟨by omega, by omega⟩
  have hb : 2 ^ (fPrec f - 1).toNat ≤ 2 ^ 511 := Nat.pow_le_pow_right (by decide) (by omega)
  refine ⟨?_, hlt⟩
  unfold vSig
  rw [h, cond_true]
  split
  · rw [add_toNat (by rw [e1]; omega), e1, Nat.add_comm]
  · rw [Nat.zero_add]
theorem vSig_lt {f : Int} {w : BitVec 128} (h : wFin f w = true) : (vSig f w).toNat < 2 ^ (fPrec f).toNat := by
  obtain ⟨e, hlt⟩ := vSig_nat h
  obtain ⟨_, hf⟩ := fin_fits h
  have hp := p_rng f hf
  have hd : 2 ^ (fPrec f).toNat = 2 ^ (fPrec f - 1).toNat + 2 ^ (fPrec f - 1).toNat := by
    rw [show (fPrec f).toNat = (fPrec f - 1).toNat + 1 by omega, Nat.pow_succ]; omega
  rw [e]
  split <;> omega
theorem vSig_zero {f : Int} {w : BitVec 128} (h : wFin f w = true) : vSig f w = 0 ↔ cls f w = 6 := by
  obtain ⟨e, hlt⟩ := vSig_nat h
  obtain ⟨h0, _, h6⟩ := fin_fld h
  rw [h6, w_zero, w_zero, e]
  have := Nat.two_pow_pos (fPrec f - 1).toNat
  split
  · constructor
    · intro hh; omega
    · intro hh; omega
  · constructor
    · intro hh; omega
    · intro hh; omega
/-! ## a number with an odd Sig -/
def tz : Nat → Nat → Nat
  | 0, _ => 0
  | f + 1, n => if n % 2 = 1 then 0 else tz f (n / 2) + 1
/-- how many noughts at its end -/
def tzN (n : Nat) : Nat := tz n n
end Go.LE
namespace Go.LE
open Go
def rgtE (e : Int) : Bool := decide (-1048576 ≤ e ∧ e ≤ 1048576)
def topOk (e : Int) (s : W) : Bool := rgtE e && !decide (s = 0)
def topE (e : Int) (s : W) : Int := bif topOk e s then e + wLen s - 1 else 0
def shNeg (b : Bool) (e : Int) (_ : W) : Bool := rgtE e && b
def shExp (e : Int) (s : W) : Int := bif topOk e s then e + (tzN s.toNat : Int) else 0
def shSig (e : Int) (s : W) : W := bif topOk e s then BitVec.ofNat 512 (s.toNat / 2 ^ tzN s.toNat) else 0
def uOk (f : Int) (w : BitVec 128) : Bool := wFin f w && !decide (vSig f w = 0)
def uNeg (f : Int) (w : BitVec 128) : Bool := uOk f w && vNeg f w
def uExp (f : Int) (w : BitVec 128) : Int := bif uOk f w then vExp f w - (fPrec f - wLen (vSig f w)) else 0
def uSig (f : Int) (w : BitVec 128) : W := bif uOk f w then wShl (vSig f w) (fPrec f - wLen (vSig f w)) else 0
def upOk (s : W) : Bool := !decide (s = 0)
def upNeg (b : Bool) (s : W) : Bool := upOk s && b
def upExp (p e : Int) (s : W) : Int := bif upOk s then arithR .sub .i64 e (arithR .sub .i64 p (wLen s)) else 0
def upSig (p : Int) (s : W) : W := bif upOk s then wShl s (arithR .sub .i64 p (wLen s)) else 0
def sizeN (a : Nat) (e : Int) (b : Nat) (g : Int) : Int :=
  if a = 0 ∨ b = 0 then (if a = 0 then 0 else 1) - (if b = 0 then 0 else 1)
  else if e + (bitN a : Int) ≠ g + (bitN b : Int) then e + (bitN a : Int) - g - (bitN b : Int)
  else cmpN (a * 2 ^ (e - min e g).toNat) (b * 2 ^ (g - min e g).toNat)
def okN (a : Nat) (e : Int) : Prop := bitN a ≤ 8589934592 ∧ -1099511627776 ≤ e ∧ e ≤ 1099511627776
theorem bitN_pos {a : Nat} (h : a ≠ 0) : 1 ≤ bitN a := by unfold bitN; rw [if_neg h]; omega
theorem bitN_mul (a k : Nat) (h : a ≠ 0) : bitN (a * 2 ^ k) = bitN a + k := by
  have hp := bitN_pos h
  obtain ⟨g1, g2⟩ := (bitN_iff hp).1 rfl
  rw [bitN_iff (by omega)]
  refine ⟨?_, ?_⟩
  · rw [show bitN a + k - 1 = bitN a - 1 + k by omega, Nat.pow_add]
    exact Nat.mul_le_mul_right _ g1
  · rw [Nat.pow_add]
    exact Nat.mul_lt_mul_of_pos_right g2 (Nat.two_pow_pos k)
/-- of two that are brought to one exponent -/
theorem sizeN_at {a b : Nat} {e g k : Int} (he : k ≤ e) (hg : k ≤ g) :
    (sizeN a e b g = 0 ↔ a * 2 ^ (e - k).toNat = b * 2 ^ (g - k).toNat) ∧ (sizeN a e b g < 0 ↔ a * 2 ^ (e - k).toNat < b * 2 ^ (g - k).toNat) := by
  have pw : ∀ n : Nat, 0 < 2 ^ n := Nat.two_pow_pos
  unfold sizeN
  by_cases ha : a = 0
  · subst ha
    by_cases hb : b = 0
    · subst hb; simp
    · have := Nat.mul_pos (Nat.pos_of_ne_zero hb) (pw (g - k).toNat)
      simp only [true_or, if_true, hb, if_false, Nat.zero_mul]
      constructor <;> constructor <;> intro h <;> omega
  · by_cases hb : b = 0
    · subst hb
      have := Nat.mul_pos (Nat.pos_of_ne_zero ha) (pw (e - k).toNat)
      simp only [or_true, if_true, ha, if_false, Nat.zero_mul]
      constructor <;> constructor <;> intro h <;> omega
    · rw [if_neg (by omega)]
      have b1 := bitN_mul a (e - k).toNat ha
      have b2 := bitN_mul b (g - k).toNat hb
      split
      · rename_i hne
        rcases Int.lt_or_gt_of_ne hne with hlt | hgt
        · have hl : a * 2 ^ (e - k).toNat < b * 2 ^ (g - k).toNat := by
            have h1 : a * 2 ^ (e - k).toNat < 2 ^ (bitN a + (e - k).toNat) := bitN_le.1 (by omega)
            have h2 := ((bitN_iff (n := b * 2 ^ (g - k).toNat) (k := bitN b + (g - k).toNat) (by have := bitN_pos hb; omega)).1 b2).1
            have h3 : 2 ^ (bitN a + (e - k).toNat) ≤ 2 ^ (bitN b + (g - k).toNat - 1) := Nat.pow_le_pow_right (by decide) (by omega)
            omega
          constructor <;> constructor <;> intro h <;> omega
        · have hl : b * 2 ^ (g - k).toNat < a * 2 ^ (e - k).toNat := by
            have h1 : b * 2 ^ (g - k).toNat < 2 ^ (bitN b + (g - k).toNat) := bitN_le.1 (by omega)
            have h2 := ((bitN_iff (n := a * 2 ^ (e - k).toNat) (k := bitN a + (e - k).toNat) (by have := bitN_pos ha; omega)).1 b1).1
            have h3 : 2 ^ (bitN b + (g - k).toNat) ≤ 2 ^ (bitN a + (e - k).toNat - 1) := Nat.pow_le_pow_right (by decide) (by omega)
            omega
          constructor <;> constructor <;> intro h <;> omega
      · have e1 : (e - k).toNat = (e - min e g).toNat + (min e g - k).toNat := by omega
        have e2 : (g - k).toNat = (g - min e g).toNat + (min e g - k).toNat := by omega
        rw [e1, e2, Nat.pow_add, Nat.pow_add, ← Nat.mul_assoc, ← Nat.mul_assoc]
        generalize a * 2 ^ (e - min e g).toNat = x
        generalize b * 2 ^ (g - min e g).toNat = y
        have hpos := pw (min e g - k).toNat
        generalize 2 ^ (min e g - k).toNat = t at hpos
        have m1 : x * t = y * t ↔ x = y := Nat.mul_left_inj (by omega)
        have m2 : x * t < y * t ↔ x < y := Nat.mul_lt_mul_right hpos
        rw [m1, m2]
        unfold cmpN
        constructor
        · constructor
          · intro h; split at h
            · omega
            · split at h <;> omega
          · intro h; subst h; simp
        · constructor
          · intro h; split at h
            · omega
            · split at h <;> omega
          · intro h; rw [if_pos h]; omega

theorem fin_parts {f : Int} {w : BitVec 128} (h : wFin f w = true) : wFld f w = bFld f w ∧ wFrc f w = bFrc f w ∧ fOk f = true := by
  obtain ⟨hF, hf⟩ := fin_fits h
  refine ⟨by unfold wFld; rw [hF]; rfl, by unfold wFrc; rw [hF]; rfl, by unfold fOk; exact decide_eq_true hf⟩
theorem val_exp {f : Int} {w : BitVec 128} (h : wFin f w = true) :
    (0 < bFld f w → arithR .add .i64 (arithR .sub .i64 (arithR .add .i64 (arithR .sub .i64 (bFld f w) 1) (1 - fEMax f)) (fPrec f)) 1 = vExp f w ∧ bFrc f w + wPower (fPrec f - 1) = vSig f w) ∧
    (bFld f w ≤ 0 → arithR .add .i64 (arithR .sub .i64 (arithR .add .i64 (bFld f w) (1 - fEMax f)) (fPrec f)) 1 = vExp f w ∧ bFrc f w = vSig f w) := by
  obtain ⟨_, hf⟩ := fin_fits h
  obtain ⟨h0, h1, _⟩ := fin_fld h
  have hp := p_rng f hf
  have he := e_rng f hf
  unfold vExp vSig
  rw [h, cond_true, cond_true]
  refine ⟨fun g => ⟨?_, ?_⟩, fun g => ⟨?_, ?_⟩⟩
  · rw [if_pos g, sub_i64 (x := bFld f w) (by omega) (by omega), add_i64 (x := bFld f w - 1) (by omega) (by omega), sub_i64 (by omega) (by omega), add_i64 (by omega) (by omega)]
  · rw [if_pos g]
  · rw [if_neg (by omega), add_i64 (x := bFld f w) (by omega) (by omega), sub_i64 (by omega) (by omega), add_i64 (by omega) (by omega)]
  · rw [if_neg (by omega)]
theorem vExp_rng {f : Int} {w : BitVec 128} (h : wFin f w = true) : -16495 ≤ vExp f w ∧ vExp f w ≤ 16384 := by
  obtain ⟨_, hf⟩ := fin_fits h
  obtain ⟨h0, h1, _⟩ := fin_fld h
  have hp := p_rng f hf
  have he := e_rng f hf
  unfold vExp
  rw [h, cond_true]
  split <;> omega
theorem up_exp {f : Int} {w : BitVec 128} (h : wFin f w = true) (b : Bool) : upNeg (wNeg f w) (vSig f w) = uNeg f w ∧ upExp (fPrec f) (vExp f w) (vSig f w) = uExp f w ∧ upSig (fPrec f) (vSig f w) = uSig f w ∧ upOk (vSig f w) = uOk f w := by
  obtain ⟨_, hf⟩ := fin_fits h
  have hp := p_rng f hf
  have he := vExp_rng h
  have hl := wLen_le (vSig f w)
  have e : arithR .sub .i64 (fPrec f) (wLen (vSig f w)) = fPrec f - wLen (vSig f w) := sub_i64 (by omega) (by omega)
  have e2 : arithR .sub .i64 (vExp f w) (fPrec f - wLen (vSig f w)) = vExp f w - (fPrec f - wLen (vSig f w)) := sub_i64 (by omega) (by omega)
  have ho : upOk (vSig f w) = uOk f w := by unfold upOk uOk; rw [h]; rfl
  unfold upNeg upExp upSig uNeg uExp uSig vNeg
  rw [ho, e, e2, h, Bool.true_and]
  exact ⟨rfl, rfl, rfl, rfl⟩
theorem u_no {f : Int} {w : BitVec 128} (h : wFin f w = false) : uOk f w = false ∧ uNeg f w = false ∧ uExp f w = 0 ∧ uSig f w = 0 := by
  have ho : uOk f w = false := by unfold uOk; rw [h]; rfl
  unfold uNeg uExp uSig
  rw [ho]
  exact ⟨rfl, rfl, rfl, rfl⟩
theorem v_no {f : Int} {w : BitVec 128} (h : wFin f w = false) : vNeg f w = false ∧ vExp f w = 0 ∧ vSig f w = 0 := by
  unfold vNeg vExp vSig
  rw [h]
  exact ⟨rfl, rfl, rfl⟩
/-- one nought less -/
theorem wBit_odd (s : W) : wBit s 0 = decide (s.toNat % 2 = 1) := by
  unfold wBit
  rw [decide_eq_true (by omega), Bool.true_and, Nat.testBit_eq_decide_div_mod_eq]
  simp
theorem shr_half (s : W) : (wShr s 1).toNat = s.toNat / 2 := by
  rw [shr_toNat s (by omega)]; rfl
end Go.LE
namespace Go.LE
open Go
def sgN (b : Bool) (a : Nat) : Int := if a = 0 then 0 else bif b then -1 else 1
def cmp7 (b : Bool) (a : Nat) (e : Int) (c : Bool) (d : Nat) (g : Int) : Int :=
  if sgN b a ≠ sgN c d then (if sgN b a < sgN c d then -1 else 1) else max (-1) (min 1 (sgN b a * sizeN a e d g))
end Go.LE
namespace Go.LE
open Go
/-! ## a word by its sign and what is left of it -/
def halfN (f : Int) : Nat := 2 ^ (fBits f - 1).toNat
def magN (f : Int) (w : BitVec 128) : Nat := w.toNat % halfN f
def infN (f : Int) : Nat := (2 ^ (fField f).toNat - 1) * 2 ^ (fPrec f - 1).toNat
theorem halfN_pos (f : Int) : 0 < halfN f := Nat.two_pow_pos _
theorem mag_lt (f : Int) (w : BitVec 128) : magN f w < halfN f := Nat.mod_lt _ (halfN_pos f)
theorem half_split {f : Int} (hf : 1 ≤ f ∧ f ≤ 4) : halfN f = 2 ^ (fField f).toNat * 2 ^ (fPrec f - 1).toNat := by
  unfold halfN
  rw [(fmt_sizes hf).2.1, Nat.pow_add]
theorem half_le {f : Int} (hf : 1 ≤ f ∧ f ≤ 4) : halfN f ≤ 2 ^ 127 := Nat.pow_le_pow_right (by decide) (fmt_sizes hf).2.2
theorem two_half {f : Int} (hf : 1 ≤ f ∧ f ≤ 4) : 2 ^ (fBits f).toNat = halfN f + halfN f := two_bits hf
/-- the word of a sign and the rest -/
theorem wOf_nat {f : Int} (hf : 1 ≤ f ∧ f ≤ 4) {n : Nat} (hn : n < halfN f) (s : Bool) : (fWordOf f s n).toNat = n + (bif s then halfN f else 0) := by
  have hl := half_le hf
  unfold fWordOf
  rw [if_pos hf, BitVec.toNat_ofNat]
  cases s
  · simp only [cond_false]; rw [Nat.mod_eq_of_lt (by omega)]
  · simp only [cond_true]; unfold halfN at *; rw [Nat.mod_eq_of_lt (by omega)]
theorem wOf_fits {f : Int} (hf : 1 ≤ f ∧ f ≤ 4) {n : Nat} (hn : n < halfN f) (s : Bool) : fFits f (fWordOf f s n) = true := by
  have hb := two_half hf
  unfold fFits fOk
  rw [decide_eq_true hf, Bool.true_and, decide_eq_true_eq, wOf_nat hf hn]
  cases s <;> simp only [cond_false, cond_true] <;> omega
theorem wOf_mag {f : Int} (hf : 1 ≤ f ∧ f ≤ 4) {n : Nat} (hn : n < halfN f) (s : Bool) : magN f (fWordOf f s n) = n := by
  unfold magN
  rw [wOf_nat hf hn]
  cases s
  · simp only [cond_false, Nat.add_zero]; exact Nat.mod_eq_of_lt hn
  · simp only [cond_true, Nat.add_mod_right]; exact Nat.mod_eq_of_lt hn
theorem wOf_sgn {f : Int} (hf : 1 ≤ f ∧ f ≤ 4) {n : Nat} (hn : n < halfN f) (s : Bool) : fWordOf f s n = sgn f (fWordOf f s n) s := by
  unfold sgn
  have := wOf_mag hf hn s
  unfold magN halfN at this
  rw [this]
theorem wOf_neg {f : Int} (hf : 1 ≤ f ∧ f ≤ 4) {n : Nat} (hn : n < halfN f) (s : Bool) : wNeg f (fWordOf f s n) = s := by
  rw [wneg_fits (wOf_fits hf hn s), wOf_sgn hf hn s, sgn_neg hf]
theorem wOf_flip {f : Int} (hf : 1 ≤ f ∧ f ≤ 4) {n : Nat} (hn : n < halfN f) (s : Bool) : wFlip f (fWordOf f s n) = fWordOf f (!s) n := by
  have h1 := wOf_neg hf hn s
  rw [wneg_fits (wOf_fits hf hn s)] at h1
  unfold wFlip
  rw [wOf_fits hf hn s, cond_true, h1]
  unfold sgn
  have := wOf_mag hf hn s
  unfold magN halfN at this
  rw [this]
theorem w_own {f : Int} {w : BitVec 128} (h : fFits f w = true) : w = fWordOf f (wNeg f w) (magN f w) := by
  have := sgn_own h
  rw [wneg_fits h]
  conv => lhs; rw [← this]
  rfl
/-! ## classes by what is left -/
theorem fld_mag {f : Int} (hf : 1 ≤ f ∧ f ≤ 4) (w : BitVec 128) : bFld f w = ((magN f w / 2 ^ (fPrec f - 1).toNat : Nat) : Int) ∧ bFrcN f w.toNat = magN f w % 2 ^ (fPrec f - 1).toNat := by
  refine ⟨by unfold bFld; rw [fld_low hf]; rfl, frc_low hf w.toNat⟩
theorem cls_mag {f : Int} {w : BitVec 128} (h : fFits f w = true) : (cls f w < 3 ↔ infN f < magN f w) ∧ (cls f w = 3 ↔ magN f w = infN f) ∧ (4 ≤ cls f w ↔ magN f w < infN f) ∧ (cls f w = 6 ↔ magN f w = 0) := by
  obtain ⟨hf, _⟩ := fits_lt h
  have hc := cls_fits h
  obtain ⟨e1, e2⟩ := fld_mag hf w
  obtain ⟨s1, _, _⟩ := fmt_sizes hf
  have hm := mag_lt f w
  rw [half_split hf] at hm
  have hz : (bFrc f w = 0) = (magN f w % 2 ^ (fPrec f - 1).toNat = 0) := by rw [frc_zero hf, e2]
  rw [e1] at hc
  have hF1 : 1 < 2 ^ (fField f).toNat := by rcases f_cases hf with rfl | rfl | rfl | rfl <;> decide
  unfold infN
  have hp := Nat.two_pow_pos (fPrec f - 1).toNat
  generalize 2 ^ (fPrec f - 1).toNat = P at *
  generalize magN f w = n at *
  generalize 2 ^ (fField f).toNat = F at *
  have hq : n / P < F := Nat.div_lt_of_lt_mul (by rw [Nat.mul_comm]; exact hm)
  have hdm := Nat.div_add_mod n P
  have hr := Nat.mod_lt n hp
  have hI : (F - 1) * P = F * P - P := by rw [Nat.sub_mul, Nat.one_mul]
  by_cases hinf : n / P = F - 1
  · have : ((n / P : Nat) : Int) = 2 * fEMax f + 1 := by omega
    rw [if_pos this] at hc
    rw [hinf, Nat.mul_comm] at hdm
    by_cases hfr : n % P = 0
    · rw [if_pos (by rw [hz]; exact hfr)] at hc
      have h0 : 0 < (F - 1) * P := Nat.mul_pos (by omega) hp
      rw [hc]
      refine ⟨⟨fun h => by omega, fun h => by omega⟩, ⟨fun _ => by omega, fun _ => rfl⟩, ⟨fun h => by omega, fun h => by omega⟩, ⟨fun h => by omega, fun h => by omega⟩⟩
    · rw [if_neg (by rw [hz]; exact hfr)] at hc
      have hlt : cls f w < 3 := by rw [hc]; split <;> omega
      have h0 : 0 < (F - 1) * P := Nat.mul_pos (by omega) hp
      refine ⟨⟨fun _ => by omega, fun _ => hlt⟩, ⟨fun h => by omega, fun h => by omega⟩, ⟨fun h => by omega, fun h => by omega⟩, ⟨fun h => by omega, fun h => by omega⟩⟩
  · have hne : ¬ ((n / P : Nat) : Int) = 2 * fEMax f + 1 := by omega
    rw [if_neg hne] at hc
    have hlt : n < (F - 1) * P := by
      have := Nat.mul_le_mul_right P (show n / P + 1 ≤ F - 1 by omega)
      rw [Nat.add_mul, Nat.one_mul, Nat.mul_comm (n / P)] at this
      omega
    have h4 : 4 ≤ cls f w := by
      rw [hc]
      split
      · split <;> omega
      · omega
    refine ⟨⟨fun h => by omega, fun h => by omega⟩, ⟨fun h => by omega, fun h => by omega⟩, ⟨fun _ => hlt, fun _ => h4⟩, ?_⟩
    rw [hc]
    constructor
    · intro h
      split at h
      · rename_i h1
        split at h
        · rename_i h2
          rw [hz] at h2
          have : n / P = 0 := by omega
          rw [this, h2] at hdm
          omega
        · omega
      · omega
    · intro h
      subst h
      rw [if_pos (by simp), if_pos (by rw [hz]; simp)]
end Go.LE
namespace Go.LE
open Go
/-! ## numbers rise as words without their signs do -/
def magV (f : Int) (m : Nat) : Nat := if m / 2 ^ (fPrec f - 1).toNat = 0 then m else (2 ^ (fPrec f - 1).toNat + m % 2 ^ (fPrec f - 1).toNat) * 2 ^ (m / 2 ^ (fPrec f - 1).toNat - 1)
theorem magV_mono (f : Int) {m n : Nat} (h : m < n) : magV f m < magV f n := by
  unfold magV
  have hp := Nat.two_pow_pos (fPrec f - 1).toNat
  generalize 2 ^ (fPrec f - 1).toNat = P at *
  have d1 := Nat.div_add_mod m P
  have d2 := Nat.div_add_mod n P
  have r1 := Nat.mod_lt m hp
  have r2 := Nat.mod_lt n hp
  have hq : m / P ≤ n / P := Nat.div_le_div_right (Nat.le_of_lt h)
  generalize hM : m / P = M at *
  generalize hN : n / P = N at *
  generalize m % P = x at *
  generalize n % P = y at *
  by_cases hz : M = 0
  · rw [if_pos hz]
    by_cases hz2 : N = 0
    · rw [if_pos hz2]; exact h
    · rw [if_neg hz2]
      subst hz
      have h1 : 1 ≤ 2 ^ (N - 1) := Nat.two_pow_pos _
      have h2 : (P + y) * 1 ≤ (P + y) * 2 ^ (N - 1) := Nat.mul_le_mul_left _ h1
      omega
  · have hz2 : N ≠ 0 := by omega
    rw [if_neg hz, if_neg hz2]
    by_cases he : M = N
    · subst he
      exact Nat.mul_lt_mul_of_pos_right (by omega) (Nat.two_pow_pos _)
    · obtain ⟨k, rfl⟩ : ∃ k, N = M + 1 + k := ⟨N - M - 1, by omega⟩
      have e1 : 2 ^ (M + 1 + k - 1) = 2 ^ (M - 1) * 2 * 2 ^ k := by
        rw [show M + 1 + k - 1 = (M - 1) + 1 + k by omega, Nat.pow_add, Nat.pow_succ]
      have h3 : (P + x) * 2 ^ (M - 1) < (P + P) * 2 ^ (M - 1) := Nat.mul_lt_mul_of_pos_right (by omega) (Nat.two_pow_pos _)
      have h4 : (P + y) * (2 ^ (M - 1) * 2 * 1) ≤ (P + y) * (2 ^ (M - 1) * 2 * 2 ^ k) := Nat.mul_le_mul_left _ (Nat.mul_le_mul_left _ (Nat.two_pow_pos _))
      have h5 : P * (2 ^ (M - 1) * 2) ≤ (P + y) * (2 ^ (M - 1) * 2) := Nat.mul_le_mul_right _ (by omega)
      rw [e1]
      rw [Nat.mul_one] at h4
      have h6 : (P + P) * 2 ^ (M - 1) = P * (2 ^ (M - 1) * 2) := by
        rw [← Nat.two_mul, Nat.mul_comm 2 P, Nat.mul_assoc, Nat.mul_comm 2]
      omega
theorem magV_le (f : Int) {m n : Nat} : magV f m ≤ magV f n ↔ m ≤ n := by
  constructor
  · intro h
    by_cases hh : m ≤ n
    · exact hh
    · have := magV_mono f (show n < m by omega); omega
  · intro h
    by_cases hh : m = n
    · subst hh; exact Nat.le_refl _
    · exact Nat.le_of_lt (magV_mono f (by omega))
theorem magV_zero (f : Int) : magV f 0 = 0 := by unfold magV; simp
/-- least exponent of a format's words -/
def expO (f : Int) : Int := 2 - fEMax f - fPrec f
theorem vMag {f : Int} {w : BitVec 128} (h : wFin f w = true) : expO f ≤ vExp f w ∧ (vSig f w).toNat * 2 ^ (vExp f w - expO f).toNat = magV f (magN f w) := by
  obtain ⟨hF, hf⟩ := fin_fits h
  obtain ⟨h0, h1, _⟩ := fin_fld h
  obtain ⟨s1, s2⟩ := vSig_nat h
  obtain ⟨e1, e2⟩ := fld_mag hf w
  have hfr := frc_toNat hf w
  rw [hfr] at s1 s2
  have hp := Nat.two_pow_pos (fPrec f - 1).toNat
  have hdm := Nat.div_add_mod (magN f w) (2 ^ (fPrec f - 1).toNat)
  unfold magV
  rw [s1]
  unfold vExp expO
  rw [h, cond_true]
  by_cases hz : bFld f w > 0
  · rw [if_pos hz, if_pos hz, if_neg (by omega), e2]
    refine ⟨by omega, ?_⟩
    rw [show (bFld f w - 1 + (1 - fEMax f) - fPrec f + 1 - (2 - fEMax f - fPrec f)).toNat = magN f w / 2 ^ (fPrec f - 1).toNat - 1 by omega]
  · rw [if_neg hz, if_neg hz, if_pos (by omega), e2]
    refine ⟨by omega, ?_⟩
    rw [show (bFld f w + (1 - fEMax f) - fPrec f + 1 - (2 - fEMax f - fPrec f)).toNat = 0 by omega, Nat.pow_zero, Nat.mul_one, Nat.zero_add]
    have : magN f w / 2 ^ (fPrec f - 1).toNat = 0 := by omega
    rw [this, Nat.mul_zero] at hdm
    omega
/-- a word's place among the others -/
def sval (f : Int) (w : BitVec 128) : Int := bif wNeg f w then -((magN f w : Nat) : Int) else ((magN f w : Nat) : Int)
def sgI (x : Int) : Int := if x < 0 then -1 else if 0 < x then 1 else 0
end Go.LE
namespace Go.LE
open Go
/-! ## places, and the word that follows -/
theorem inf_pos {f : Int} (hf : 1 ≤ f ∧ f ≤ 4) : 1 < infN f ∧ infN f + 1 < halfN f := by
  rcases f_cases hf with rfl | rfl | rfl | rfl <;> decide +kernel
def wgt (f : Int) (w : BitVec 128) (x : Bool) : Int := bif x then (bif wNeg f w then -1 else 1) else 0
def c28 (f : Int) (a b : BitVec 128) : Int := sgI (sval f a - sval f b)
def plN (f : Int) (w : BitVec 128) : Nat := bif wNeg f w then halfN f - 1 - (w.toNat - halfN f) else halfN f + w.toNat
def wdN (f : Int) (p : Nat) : BitVec 128 := BitVec.ofNat 128 (if halfN f ≤ p then p - halfN f else halfN f + (halfN f - 1 - p))
def nxStep (f : Int) (w : BitVec 128) (up : Bool) : BitVec 128 := wdN f (bif up then plN f w + 1 else plN f w - 1)
def nxR (f : Int) (up : Bool) : Nat → BitVec 128 → BitVec 128
  | 0, w => w
  | n + 1, w => if cls f (nxStep f w up) < 3 then w else if c28 f (nxStep f w up) w ≠ 0 then nxStep f w up else nxR f up n (nxStep f w up)
def onx (f : Int) (w : BitVec 128) (up : Bool) : BitVec 128 :=
  if 3 ≤ cls f w then
    if magN f w = 0 then fWordOf f (!up) 1
    else if wNeg f w = up then fWordOf f up (magN f w - 1)
    else if magN f w = infN f then w
    else fWordOf f (!up) (magN f w + 1)
  else w
end Go.LE
namespace Go.LE
open Go
/-! ## 512 bits out of digits -/
def w512 (b : Nat) : W := BitVec.ofNat 512 b
theorem geq_dec (x y : Int) : cmpR .geq x y = decide (y ≤ x) := by
  cases h : cmpR .geq x y with
  | true => rw [c_geq_t] at h; exact (decide_eq_true h).symm
  | false => rw [c_geq_f] at h; exact (decide_eq_false (by omega)).symm
end Go.LE