import Derived.Test.YtcmicmbpcgminaaGreatDoorLeR
set_option linter.unusedVariables false
set_option linter.unusedSimpArgs false
namespace Go.LE
open Go
/-! ## a number told otherwise is cut and rounded alike -/
theorem floorQ_inv (a : Nat) (g p : Int) (k : Nat) : floorQ (a * 2 ^ k) (g - (k : Int)) p = floorQ a g p := by
  unfold floorQ
  by_cases h1 : p ≤ g - (k : Int)
  · rw [if_pos h1, if_pos (show p ≤ g by omega), Nat.mul_assoc, ← Nat.pow_add]
    congr 2; omega
  · rw [if_neg h1]
    by_cases h2 : p ≤ g
    · rw [if_pos h2]
      have e : a * 2 ^ k = a * 2 ^ (g - p).toNat * 2 ^ (p - (g - (k : Int))).toNat := by
        rw [Nat.mul_assoc, ← Nat.pow_add]; congr 2; omega
      rw [e, Nat.mul_div_cancel _ (Nat.two_pow_pos _)]
    · rw [if_neg h2]
      have e : 2 ^ (p - (g - (k : Int))).toNat = 2 ^ (p - g).toNat * 2 ^ k := by rw [← Nat.pow_add]; congr 1; omega
      rw [e, Nat.mul_div_mul_right _ _ (Nat.two_pow_pos k)]
theorem restQ_inv (a : Nat) (g p : Int) (k : Nat) : restQ (a * 2 ^ k) (g - (k : Int)) p = restQ a g p := by
  unfold restQ
  by_cases h1 : p ≤ g - (k : Int)
  · rw [if_pos h1, if_pos (show p ≤ g by omega)]
  · rw [if_neg h1]
    by_cases h2 : p ≤ g
    · rw [if_pos h2]
      have e : a * 2 ^ k = a * 2 ^ (g - p).toNat * 2 ^ (p - (g - (k : Int))).toNat := by
        rw [Nat.mul_assoc, ← Nat.pow_add]; congr 2; omega
      have e2 : a * 2 ^ k % 2 ^ (p - (g - (k : Int))).toNat = 0 := by rw [e]; exact Nat.mul_mod_left _ _
      rw [if_pos e2]
    · rw [if_neg h2]
      have e : 2 ^ (p - (g - (k : Int))).toNat = 2 ^ (p - g).toNat * 2 ^ k := by rw [← Nat.pow_add]; congr 1; omega
      have hk := Nat.two_pow_pos k
      have e3 : a * 2 ^ k % 2 ^ (p - (g - (k : Int))).toNat = a % 2 ^ (p - g).toNat * 2 ^ k := by rw [e, Nat.mul_mod_mul_right]
      have c1 : (a * 2 ^ k % 2 ^ (p - (g - (k : Int))).toNat = 0) ↔ (a % 2 ^ (p - g).toNat = 0) := by
        rw [e3, Nat.mul_eq_zero]; omega
      have c2 : (2 * (a * 2 ^ k % 2 ^ (p - (g - (k : Int))).toNat) < 2 ^ (p - (g - (k : Int))).toNat) ↔ (2 * (a % 2 ^ (p - g).toNat) < 2 ^ (p - g).toNat) := by
        rw [e3, e, ← Nat.mul_assoc]; exact Nat.mul_lt_mul_right hk
      have c3 : (2 * (a * 2 ^ k % 2 ^ (p - (g - (k : Int))).toNat) = 2 ^ (p - (g - (k : Int))).toNat) ↔ (2 * (a % 2 ^ (p - g).toNat) = 2 ^ (p - g).toNat) := by
        rw [e3, e, ← Nat.mul_assoc]; exact Nat.mul_right_cancel_iff hk
      simp only [c1, c2, c3]
theorem topQ_inv {a : Nat} (h : a ≠ 0) (g : Int) (k : Nat) : topQ (a * 2 ^ k) (g - (k : Int)) = topQ a g := by
  unfold topQ
  rw [bitN_mul a k h]
  omega
theorem cut_same {a b : Nat} {g h : Int} (ha : a ≠ 0) (hb : b ≠ 0) (he : sizeN a g b h = 0) : (∀ p, floorQ a g p = floorQ b h p) ∧ (∀ p, restQ a g p = restQ b h p) ∧ topQ a g = topQ b h := by
  have e := (sizeN_at (k := min g h) (by omega) (by omega)).1.1 he
  have e1 : g - (((g - min g h).toNat : Nat) : Int) = min g h := by omega
  have e2 : h - (((h - min g h).toNat : Nat) : Int) = min g h := by omega
  refine ⟨fun p => ?_, fun p => ?_, ?_⟩
  · rw [← floorQ_inv a g p (g - min g h).toNat, ← floorQ_inv b h p (h - min g h).toNat, e1, e2, e]
  · rw [← restQ_inv a g p (g - min g h).toNat, ← restQ_inv b h p (h - min g h).toNat, e1, e2, e]
  · rw [← topQ_inv ha g (g - min g h).toNat, ← topQ_inv hb h (h - min g h).toNat, e1, e2, e]
theorem rd_same {a b : Nat} {g h : Int} (ha : a ≠ 0) (hb : b ≠ 0) (he : sizeN a g b h = 0) (f m : Int) (neg : Bool) : rdMag f m neg a g = rdMag f m neg b h ∧ rdX f m neg a g = rdX f m neg b h := by
  obtain ⟨c1, c2, c3⟩ := cut_same ha hb he
  have hu : ∀ p, upQ m neg a g p = upQ m neg b h p := fun p => by unfold upQ; rw [c1, c2]
  have hU : rdU f m neg a g = rdU f m neg b h := by unfold rdU; rw [hu, c3]
  have hT : rdT f m neg a g = rdT f m neg b h := by unfold rdT; rw [hU, c3]
  unfold rdMag rdX
  rw [hT, hU, hu, c2, c2, c3]
  exact ⟨rfl, rfl⟩
theorem size_sym {a b : Nat} {g h : Int} (he : sizeN a g b h = 0) : sizeN b h a g = 0 :=
  (sizeN_at (k := min g h) (by omega) (by omega)).1.2 ((sizeN_at (k := min g h) (by omega) (by omega)).1.1 he).symm
theorem size_nz {a b : Nat} {g h : Int} (he : sizeN a g b h = 0) (hb : b ≠ 0) : a ≠ 0 := fun ha => by
  have e := (sizeN_at (k := min g h) (by omega) (by omega)).1.1 he
  rw [ha, Nat.zero_mul] at e
  have := Nat.mul_pos (Nat.pos_of_ne_zero hb) (Nat.two_pow_pos (h - min g h).toNat)
  omega
/-- what a format has is rounded to itself -/
theorem rd_exact {f : Int} (hf : 1 ≤ f ∧ f ≤ 4) {a : Nat} {g : Int} (ha : a ≠ 0) {M : Nat} (hM : M < infN f) (he : sizeN (vSig f (wM f M)).toNat (vExp f (wM f M)) a g = 0) (m : Int) (b : Bool) :
    rdMag f m b a g = M ∧ rdX f m b a g = 0 := by
  have hi := inf_pos hf
  have hfin : wFin f (wM f M) = true := (fin_iff _ _).2 ((fin_of hf (by omega)).2 hM)
  have hne := size_nz he ha
  have hz : vSig f (wM f M) ≠ 0 := fun hh => hne (by rw [w_zero] at hh; exact hh)
  obtain ⟨r1, r2⟩ := rd_own hfin hz m b
  obtain ⟨s1, s2⟩ := rd_same hne ha he f m b
  rw [← s1, ← s2, r1, r2]
  exact ⟨wOf_mag hf (by omega) false, rfl⟩
/-- the value of what is rounded -/
def rdPl (f m : Int) (b : Bool) (a : Nat) (g : Int) : Int := if rdT f m b a g < 1 - fEMax f then expO f else topQ a g - fPrec f + 1
theorem rd_val {f : Int} (hf : 1 ≤ f ∧ f ≤ 4) {a : Nat} (h : a ≠ 0) {g m : Int} {b : Bool} (h1 : rdT f m b a g ≤ fEMax f) :
    rdMag f m b a g < infN f ∧ ∀ k : Int, k ≤ expO f → k ≤ rdPl f m b a g → magV f (rdMag f m b a g) * 2 ^ (expO f - k).toNat = upQ m b a g (rdPl f m b a g) * 2 ^ (rdPl f m b a g - k).toNat := by
  have hp := p_rng f hf
  have hexp : expO f = 2 - fEMax f - fPrec f := rfl
  unfold rdPl
  by_cases hs : rdT f m b a g < 1 - fEMax f
  · obtain ⟨s1, s2, s3, s4, s5⟩ := rd_sub hf h hs
    rw [if_pos hs]
    refine ⟨s3, fun k hk _ => ?_⟩
    rw [magV_sub f s2, s1]
  · rw [if_neg hs]
    have hn := rd_normal hf h h1 (by omega)
    refine ⟨hn.1, fun k hk1 hk2 => ?_⟩
    obtain ⟨u1, u2⟩ := rdU_rng hf h g m b
    have htp := two_prec hf
    have htwo := rdT_two hf h g m b
    have hm : rdMag f m b a g = ((topQ a g - (1 - fEMax f)) * ((2 ^ (fPrec f - 1).toNat : Nat) : Int) + (rdU f m b a g : Int)).toNat := by
      unfold rdMag
      rw [if_neg (by omega), if_neg hs]
    have hU : upQ m b a g (topQ a g - fPrec f + 1) = rdU f m b a g := rfl
    rw [hU]
    by_cases hc : topQ a g = -fEMax f
    · have hu : rdU f m b a g = 2 ^ (fPrec f - 1).toNat + 2 ^ (fPrec f - 1).toNat := by omega
      have hM : rdMag f m b a g = 0 * 2 ^ (fPrec f - 1).toNat + 2 ^ (fPrec f - 1).toNat := by
        rw [hm, hu, hc, show (-fEMax f - (1 - fEMax f)) = -1 by omega]; omega
      rw [hM, magV_at f (Nat.le_refl _) (by omega), hu, Nat.pow_zero, Nat.mul_one, ← Nat.mul_two, Nat.mul_assoc, ← Nat.pow_succ']
      congr 2; omega
    · obtain ⟨D, hD⟩ : ∃ D : Nat, topQ a g - (1 - fEMax f) = (D : Int) := ⟨(topQ a g - (1 - fEMax f)).toNat, by omega⟩
      have hM : rdMag f m b a g = D * 2 ^ (fPrec f - 1).toNat + rdU f m b a g := by
        rw [hm, hD, ← Int.natCast_mul]; omega
      rw [hM, magV_at f u1 (by omega), Nat.mul_assoc, ← Nat.pow_add]
      congr 2; omega
/-- .. is just the number, where nothing is cut off -/
theorem rd_fits {f : Int} (hf : 1 ≤ f ∧ f ≤ 4) {a : Nat} (h : a ≠ 0) {g m : Int} {b : Bool} (h1 : rdT f m b a g ≤ fEMax f) (h2 : restQ a g (rdPl f m b a g) = 0) :
    rdMag f m b a g < infN f ∧ sizeN (vSig f (wM f (rdMag f m b a g))).toNat (vExp f (wM f (rdMag f m b a g))) a g = 0 := by
  obtain ⟨v1, v2⟩ := rd_val hf h h1
  refine ⟨v1, ?_⟩
  have hu : upQ m b a g (rdPl f m b a g) = floorQ a g (rdPl f m b a g) := by
    unfold upQ; rw [h2, grows_zero]; rfl
  have hs := (floorQ_eq (a := a) (g := g) (p := rdPl f m b a g)).2 h2
  have hk := min (expO f) (min (rdPl f m b a g) g)
  refine (size_of hf v1 false (k := min (expO f) (min (rdPl f m b a g) g)) (by omega) (by omega)).1.2 ?_
  rw [v2 _ (by omega) (by omega), hu]
  exact (sizeN_at (k := min (expO f) (min (rdPl f m b a g) g)) (by omega) (by omega)).1.1 hs
end Go.LE
namespace Go.LE
open Go
/-! ## a word of one format as one of another -/
def cvOk (f t m : Int) (w : BitVec 128) : Bool := fOk t && (isM m && fFits f w)
def cvSh (a : W) (n : Int) : W := if 0 ≤ n then wShl a n else wShr a (-n)
def cvP (f t : Int) (w : BitVec 128) : W := cvSh (payW f w) (fPrec t - fPrec f)
def cvN (f t : Int) (w : BitVec 128) : BitVec 128 := wthW t (wNeg f w) (cvP f t w)
def cvF (f t m : Int) (w : BitVec 128) : BitVec 128 := rW t m (vNeg f w) (vExp f w) (vSig f w) false
def cvFX (f t m : Int) (w : BitVec 128) : Int := rX t m (vNeg f w) (vExp f w) (vSig f w) false
def cvC (f t m : Int) (w : BitVec 128) : BitVec 128 := if cls f w = 1 ∨ cls f w = 2 then cvN f t w else if cls f w = 3 then fInf t (wNeg f w) else cvF f t m w
def cvCX (f t m : Int) (w : BitVec 128) : Int := if cls f w = 1 then 1 else if cls f w = 2 ∨ cls f w = 3 then 0 else cvFX f t m w
def cvW (f t m : Int) (w : BitVec 128) : BitVec 128 := bif cvOk f t m w then cvC f t m w else 0
def cvX (f t m : Int) (w : BitVec 128) : Int := bif cvOk f t m w then cvCX f t m w else 0
def cvE (f t m : Int) (w : BitVec 128) : Int := bif cvOk f t m w then 0 else 1
def payN (f : Int) (w : BitVec 128) : Nat := bFrcN f w.toNat % 2 ^ (fPrec f - 2).toNat
theorem payN_lt (f : Int) (w : BitVec 128) : payN f w < 2 ^ (fPrec f - 2).toNat := Nat.mod_lt _ (Nat.two_pow_pos _)
set_option exponentiation.threshold 600 in
theorem pay_nat {f : Int} {w : BitVec 128} (h : wNaN f w = true) : (payW f w).toNat = payN f w := by
  have hf := (fits_lt (nan_fits h)).1
  have hp := p_rng f hf
  unfold payW
  rw [h, cond_true, BitVec.toNat_ofNat]
  refine Nat.mod_eq_of_lt (Nat.lt_of_lt_of_le (payN_lt f w) (Nat.pow_le_pow_right (by decide) (by omega)))
/-- the first i digits of it -/
def payA (f : Int) (w : BitVec 128) (i : Nat) : Nat := if i ≤ (fPrec f - 2).toNat then payN f w / 2 ^ ((fPrec f - 2).toNat - i) else payN f w * 2 ^ (i - (fPrec f - 2).toNat)
theorem payA_lt (f : Int) (w : BitVec 128) (i : Nat) : payA f w i < 2 ^ i := by
  have h := payN_lt f w
  unfold payA
  split
  · rename_i hi
    rw [Nat.div_lt_iff_lt_mul (Nat.two_pow_pos _), ← Nat.pow_add, show i + ((fPrec f - 2).toNat - i) = (fPrec f - 2).toNat by omega]
    exact h
  · rename_i hi
    have e : 2 ^ i = 2 ^ (fPrec f - 2).toNat * 2 ^ (i - (fPrec f - 2).toNat) := by rw [← Nat.pow_add]; congr 1; omega
    rw [e]
    exact Nat.mul_lt_mul_of_pos_right h (Nat.two_pow_pos _)
theorem pay_bit {f : Int} (hf : 1 ≤ f ∧ f ≤ 4) (w : BitVec 128) {j : Nat} (h : j < (fPrec f - 2).toNat) : payN f w / 2 ^ j % 2 = if wdBit w (j : Int) = true then 1 else 0 := by
  have hp := p_rng f hf
  rw [← wd_num (w := w) (i := (j : Int)) (by omega), Int.toNat_natCast]
  unfold payN bFrcN
  have e1 : (w.toNat % 2 ^ (fPrec f - 1).toNat) % 2 ^ (fPrec f - 2).toNat = w.toNat % 2 ^ (fPrec f - 2).toNat := Nat.mod_mod_of_dvd _ (Nat.pow_dvd_pow 2 (by omega))
  rw [e1]
  have e2 : 2 ^ (fPrec f - 2).toNat = 2 ^ j * 2 ^ ((fPrec f - 2).toNat - j) := by rw [← Nat.pow_add]; congr 1; omega
  rw [e2, Nat.mod_mul_right_div_self]
  exact Nat.mod_mod_of_dvd _ ⟨2 ^ ((fPrec f - 2).toNat - j - 1), by rw [← Nat.pow_succ']; congr 1; omega⟩
theorem payA_step {f : Int} (hf : 1 ≤ f ∧ f ≤ 4) (w : BitVec 128) (i : Nat) : payA f w (i + 1) = 2 * payA f w i + (if wdBit w (fPrec f - 3 - i) = true then 1 else 0) := by
  have hp := p_rng f hf
  by_cases h : i < (fPrec f - 2).toNat
  · unfold payA
    rw [if_pos (show i + 1 ≤ _ by omega), if_pos (show i ≤ _ by omega)]
    have hb := pay_bit hf w (j := (fPrec f - 2).toNat - (i + 1)) (by omega)
    rw [show (((fPrec f - 2).toNat - (i + 1) : Nat) : Int) = fPrec f - 3 - i by omega] at hb
    rw [← hb]
    have e : 2 ^ ((fPrec f - 2).toNat - i) = 2 ^ ((fPrec f - 2).toNat - (i + 1)) * 2 := by rw [← Nat.pow_succ]; congr 1; omega
    rw [e, ← Nat.div_div_eq_div_mul]
    omega
  · have hw : wdBit w (fPrec f - 3 - i) = false := by unfold wdBit; rw [decide_eq_false (by omega)]; rfl
    rw [hw]
    unfold payA
    rw [if_neg (show ¬ i + 1 ≤ _ by omega)]
    split
    · have hi : i = (fPrec f - 2).toNat := by omega
      rw [hi, Nat.sub_self, Nat.pow_zero, Nat.div_one, show (fPrec f - 2).toNat + 1 - (fPrec f - 2).toNat = 1 by omega]
      simp
      omega
    · rw [show i + 1 - (fPrec f - 2).toNat = i - (fPrec f - 2).toNat + 1 by omega, Nat.pow_succ, ← Nat.mul_assoc]
      simp
      omega
theorem cv_pay {f t : Int} {w : BitVec 128} (hn : wNaN f w = true) (ht : 1 ≤ t ∧ t ≤ 4) : (cvP f t w).toNat = payA f w (fPrec t - 2).toNat ∧ wthOk t (cvP f t w) = true := by
  have hf := (fits_lt (nan_fits hn)).1
  have hp := p_rng f hf
  have hq := p_rng t ht
  have e : (cvP f t w).toNat = payA f w (fPrec t - 2).toNat := by
    unfold cvP cvSh payA
    have hl := payN_lt f w
    by_cases h : 0 ≤ fPrec t - fPrec f
    · rw [if_pos h]
      have e2 : 2 ^ (fPrec t - 2).toNat = 2 ^ (fPrec f - 2).toNat * 2 ^ (fPrec t - fPrec f).toNat := by rw [← Nat.pow_add]; congr 1; omega
      have hx := shl_exact (s := payW f w) (n := fPrec t - fPrec f) (k := (fPrec t - 2).toNat) h (by omega) (by omega) (by
        rw [pay_nat hn, e2]; exact Nat.mul_lt_mul_of_pos_right hl (Nat.two_pow_pos _))
      rw [hx, pay_nat hn]
      split
      · rename_i h2
        rw [show (fPrec t - fPrec f).toNat = 0 by omega, show (fPrec f - 2).toNat - (fPrec t - 2).toNat = 0 by omega]
        simp
      · congr 2; omega
    · rw [if_neg h, wShr_nat _ (by omega), pay_nat hn, if_pos (by omega)]
      congr 2; omega
  refine ⟨e, ?_⟩
  unfold wthOk
  have hk : fOk t = true := decide_eq_true ht
  rw [hk, Bool.true_and, decide_eq_true_eq]
  have := wLen_lt (a := cvP f t w) (k := (fPrec t - 2).toNat) (by omega)
  rw [show (((fPrec t - 2).toNat : Nat) : Int) = fPrec t - 2 by omega] at this
  rw [this, e]
  exact payA_lt _ _ _
/-- as it is told sign by sign -/
def sgB (b : Bool) : Nat := bif b then 1 else 0
theorem cv_word {f t : Int} {w : BitVec 128} (hn : wNaN f w = true) (ht : 1 ≤ t ∧ t ≤ 4) :
    BitVec.ofNat 128 ((sgB (wNeg f w) * 2 ^ ((fField t).toNat + 1) + (2 ^ ((fField t).toNat + 1) - 1)) * 2 ^ (fPrec t - 2).toNat + payA f w (fPrec t - 2).toNat) = cvN f t w := by
  obtain ⟨e, hk⟩ := cv_pay hn ht
  have hq := p_rng t ht
  obtain ⟨_, w2, w3, w4⟩ := wth_leaf hk
  obtain ⟨z1, z2, z3⟩ := fmt_sizes ht
  unfold cvN wthW mkW
  rw [hk, cond_true, w4, cond_true, w3, e]
  unfold fWordOf
  rw [if_pos ht]
  congr 1
  have hF := Nat.two_pow_pos (fField t).toNat
  have hE : (2 * fEMax t + 1).toNat = 2 ^ (fField t).toNat - 1 := by omega
  have e1 : 2 ^ ((fField t).toNat + 1) = 2 * 2 ^ (fField t).toNat := by rw [Nat.pow_succ, Nat.mul_comm]
  have e2 : 2 ^ (fPrec t - 1).toNat = 2 * 2 ^ (fPrec t - 2).toNat := by rw [← Nat.pow_succ']; congr 1; omega
  have e3 : 2 ^ (fBits t - 1).toNat = 2 * 2 ^ (fField t).toNat * 2 ^ (fPrec t - 2).toNat := by
    rw [z2, Nat.pow_add, e2, Nat.mul_comm 2 (2 ^ (fField t).toNat), Nat.mul_assoc]
  rw [hE, e1, e2, e3]
  have e4 : (2 ^ (fField t).toNat - 1) * (2 * 2 ^ (fPrec t - 2).toNat) + 2 ^ (fPrec t - 2).toNat = (2 * 2 ^ (fField t).toNat - 1) * 2 ^ (fPrec t - 2).toNat := by
    rw [← Nat.mul_assoc, ← Nat.succ_mul]
    congr 1
    omega
  unfold sgB
  cases wNeg f w
  · simp only [cond_false]
    rw [Nat.zero_mul, Nat.zero_add, ← e4]
    omega
  · simp only [cond_true]
    rw [Nat.one_mul, Nat.add_mul, ← e4]
    omega
theorem cv_rng {t : Int} (ht : 1 ≤ t ∧ t ≤ 4) (b : Bool) {i p : Nat} (hi : i ≤ (fPrec t - 2).toNat) (hp : p < 2 ^ i) : (sgB b * 2 ^ ((fField t).toNat + 1) + (2 ^ ((fField t).toNat + 1) - 1)) * 2 ^ i + p < 2 ^ 128 := by
  obtain ⟨z1, z2, z3⟩ := fmt_sizes ht
  have hq := p_rng t ht
  have h1 : sgB b * 2 ^ ((fField t).toNat + 1) + (2 ^ ((fField t).toNat + 1) - 1) + 1 ≤ 2 ^ ((fField t).toNat + 2) := by
    have e : 2 ^ ((fField t).toNat + 2) = 2 ^ ((fField t).toNat + 1) + 2 ^ ((fField t).toNat + 1) := by rw [Nat.pow_succ]; omega
    have hF := Nat.two_pow_pos ((fField t).toNat + 1)
    unfold sgB
    cases b <;> simp only [cond_true, cond_false] <;> omega
  have h2 := Nat.mul_le_mul_right (2 ^ i) h1
  rw [← Nat.pow_add] at h2
  have h3 : 2 ^ ((fField t).toNat + 2 + i) ≤ 2 ^ 128 := Nat.pow_le_pow_right (by decide) (by omega)
  rw [Nat.succ_mul] at h2
  omega
/-! ## rounded to the other format: a finite word -/
theorem fin_right {f t : Int} {w : BitVec 128} (h : wFin f w = true) (ht : 1 ≤ t ∧ t ≤ 4) {m : Int} (hm : isM m = true) : rOk t m (vExp f w) (vSig f w) false = true := by
  obtain ⟨hF, hf⟩ := fin_fits h
  have hp := p_rng f hf
  have hq := p_rng t ht
  have hr := vExp_rng h
  have hlt := vSig_lt h
  have hb : bitN (vSig f w).toNat ≤ (fPrec f).toNat := bitN_le.2 hlt
  have hw : wLen (vSig f w) = ((bitN (vSig f w).toNat : Nat) : Int) := (bitN_wLen _).symm
  unfold rOk rightN rgtE
  rw [hm]
  simp only [Bool.and_eq_true, decide_eq_true_eq, Bool.or_eq_true, Bool.not_eq_true', Bool.not_false, true_or, and_true, true_and]
  exact ⟨decide_eq_true ht, ⟨by omega, by omega⟩, ⟨by omega, by omega⟩, by omega⟩
theorem fin_round {f t : Int} {w : BitVec 128} (h : wFin f w = true) (ht : 1 ≤ t ∧ t ≤ 4) {m : Int} (hm : isM m = true) :
    (vSig f w ≠ 0 → cvF f t m w = rdW t m (wNeg f w) (vSig f w).toNat (vExp f w) ∧ cvFX f t m w = rdX t m (wNeg f w) (vSig f w).toNat (vExp f w)) ∧ (vSig f w = 0 → cvF f t m w = fNought t (wNeg f w) ∧ cvFX f t m w = 0) := by
  have ho := fin_right h ht hm
  have hv : vNeg f w = wNeg f w := by unfold vNeg; rw [h]; rfl
  unfold cvF cvFX rW rX
  rw [ho, cond_true, cond_true, hv]
  refine ⟨fun hz => ?_, fun hz => ?_⟩
  · rw [if_neg hz, if_neg hz]; exact ⟨rfl, rfl⟩
  · rw [if_pos hz, if_pos hz]; exact ⟨rfl, rfl⟩
theorem fin_okR {f : Int} {w : BitVec 128} (h : wFin f w = true) (hz : vSig f w ≠ 0) : okR (vSig f w).toNat (vExp f w) := by
  obtain ⟨hF, hf⟩ := fin_fits h
  have hr := vExp_rng h
  have := bitN_wide (vSig f w)
  exact ⟨fun hh => hz (by rw [w_zero]; exact hh), by omega, by omega, by omega⟩
end Go.LE
namespace Go.LE
open Go
/-! ## whole numbers -/
def intB (m : Int) (b : Bool) (s : W) (e : Int) : Nat := upQ m b s.toNat e 0
def intX (s : W) (e : Int) : Bool := !decide (restQ s.toNat e 0 = 0)
def whS (m : Int) (b : Bool) (s : W) (e : Int) : W := if 0 ≤ e then s else cutW s (-e) false m b
def whE (e : Int) : Int := if 0 ≤ e then e else 0
def whX (m : Int) (s : W) (e : Int) : Bool := if 0 ≤ e then false else cutX s (-e) false m
theorem int_pos {m : Int} {b : Bool} {s : W} {e : Int} (h : 0 ≤ e) : intB m b s e = s.toNat * 2 ^ e.toNat ∧ intX s e = false := by
  obtain ⟨u1, u2, _⟩ := up_exact (m := m) (b := b) (a := s.toNat) (g := e) (p := 0) h
  rw [show (e - 0).toNat = e.toNat by omega] at u1
  unfold intB intX
  rw [u1, u2]
  exact ⟨rfl, rfl⟩
theorem int_neg {m : Int} {b : Bool} {s : W} {e : Int} (hm : isM m = true) (h : e < 0) : (cutW s (-e) false m b).toNat = intB m b s e ∧ cutX s (-e) false m = intX s e := by
  have c1 := cutW_nat (s := s) (more := false) (neg := b) hm (n := -e) (by omega) e
  have c2 := cutX_rest (s := s) (more := false) hm (n := -e) (by omega) e
  rw [show e + -e = 0 by omega] at c1 c2
  exact ⟨c1, c2⟩
theorem whX_int {m : Int} {s : W} {e : Int} (hm : isM m = true) : whX m s e = intX s e := by
  unfold whX
  by_cases h : 0 ≤ e
  · rw [if_pos h, (int_pos (m := m) (b := false) h).2]
  · rw [if_neg h, (int_neg (b := false) hm (by omega)).2]
theorem int_lt {m : Int} {b : Bool} {s : W} {e : Int} {P : Nat} (h : e < 0) (hs : s.toNat < 2 ^ P) (hP : 1 ≤ P) : intB m b s e ≤ 2 ^ (P - 1) := by
  unfold intB upQ floorQ
  rw [if_neg (by omega)]
  have h1 : s.toNat / 2 ^ (0 - e).toNat < 2 ^ (P - 1) := by
    have : s.toNat / 2 ^ (0 - e).toNat ≤ s.toNat / 2 ^ 1 := Nat.div_le_div_left (Nat.pow_le_pow_right (by decide) (by omega)) (by decide)
    have e2 : 2 ^ P = 2 * 2 ^ (P - 1) := by rw [← Nat.pow_succ']; congr 1; omega
    omega
  generalize growsM m b _ _ = z
  cases z <;> simp only [cond_true, cond_false] <;> omega
theorem emax_prec {f : Int} (hf : 1 ≤ f ∧ f ≤ 4) : fPrec f + 1 ≤ fEMax f := by rcases f_cases hf with rfl | rfl | rfl | rfl <;> decide
/-- whole numbers of so many digits are a format's -/
theorem int_fits {f : Int} (hf : 1 ≤ f ∧ f ≤ 4) {N : Nat} (h0 : N ≠ 0) (h : N ≤ 2 ^ (fPrec f).toNat) : ∃ M, M < infN f ∧ sizeN (vSig f (wM f M)).toNat (vExp f (wM f M)) N 0 = 0 := by
  have hp := p_rng f hf
  have he := emax_prec hf
  have hb := bitN_pow_le h
  have hb0 := bitN_pos h0
  have hT : topQ N 0 = (bitN N : Int) - 1 := by unfold topQ; omega
  have htwo := rdT_two hf h0 0 3 false
  have h1 : rdT f 3 false N 0 ≤ fEMax f := by omega
  have hpl : rdPl f 3 false N 0 = topQ N 0 - fPrec f + 1 := by unfold rdPl; rw [if_neg (by omega)]
  have h2 : restQ N 0 (rdPl f 3 false N 0) = 0 := by
    rw [hpl]
    by_cases hc : topQ N 0 - fPrec f + 1 ≤ 0
    · unfold restQ; rw [if_pos hc]
    · have hN : N = 2 ^ (fPrec f).toNat := by
        have hbn := (bitN_rng h0).1
        have : 2 ^ (fPrec f).toNat ≤ 2 ^ (bitN N - 1) := Nat.pow_le_pow_right (by decide) (by omega)
        omega
      have h1p : topQ N 0 - fPrec f + 1 = 1 := by omega
      unfold restQ
      rw [h1p, if_neg (by omega), if_pos]
      rw [hN, show ((1 : Int) - 0).toNat = 1 from rfl, show (fPrec f).toNat = (fPrec f).toNat - 1 + 1 by omega, Nat.pow_succ]
      omega
  obtain ⟨r1, r2⟩ := rd_fits hf h0 h1 h2
  exact ⟨_, r1, r2⟩
theorem find_zero {f : Int} (hf : 1 ≤ f ∧ f ≤ 4) (e : Int) : findM f 0 e = 0 := by
  have hi := inf_pos hf
  refine findM_eq hf (by omega) ((size_of hf (m := 0) (by omega) false (k := min (expO f) e) (by omega) (by omega)).1.2 ?_)
  rw [magV_zero, Nat.zero_mul, Nat.zero_mul]
def irMag (f m : Int) (w : BitVec 128) : Nat := findM f (intB m (vNeg f w) (vSig f w) (vExp f w)) 0
theorem ir_exact {f m : Int} {w : BitVec 128} (h : wFin f w = true) (hm : isM m = true) :
    exOk f (whE (vExp f w)) (whS m (vNeg f w) (vSig f w) (vExp f w)) = true ∧ exW f (vNeg f w) (whE (vExp f w)) (whS m (vNeg f w) (vSig f w) (vExp f w)) = fWordOf f (wNeg f w) (irMag f m w) ∧ irMag f m w < infN f := by
  obtain ⟨hF, hf⟩ := fin_fits h
  have hp := p_rng f hf
  have hi := inf_pos hf
  have hv : vNeg f w = wNeg f w := by unfold vNeg; rw [h]; rfl
  obtain ⟨i1, i2, i3, i4⟩ := fin_mag h
  obtain ⟨m1, m2⟩ := vMag h
  by_cases he : 0 ≤ vExp f w
  · obtain ⟨o1, o2⟩ := v_own h
    unfold whE whS
    rw [if_pos he, if_pos he]
    have hM : irMag f m w = magN f w := by
      unfold irMag
      rw [(int_pos he).1]
      have hexp : expO f = 2 - fEMax f - fPrec f := rfl
      have hem := e_rng f hf
      refine findM_eq hf i2 ((size_of hf i2 false (k := expO f) (Int.le_refl _) (by omega)).1.2 ?_)
      rw [← m2, show (expO f - expO f).toNat = 0 by omega, Nat.pow_zero, Nat.mul_one, Nat.mul_assoc, ← Nat.pow_add]
      congr 2; omega
    refine ⟨o1, ?_, by rw [hM]; exact i2⟩
    rw [o2, hM]
    exact w_own hF
  · unfold whE whS
    rw [if_neg he, if_neg he]
    obtain ⟨n1, n2⟩ := int_neg (b := vNeg f w) (s := vSig f w) hm (show vExp f w < 0 by omega)
    have hrg : rgtE 0 = true := rfl
    have hle := int_lt (m := m) (b := vNeg f w) (show vExp f w < 0 by omega) (vSig_lt h) (P := (fPrec f).toNat) (by omega)
    have hle2 : 2 ^ ((fPrec f).toNat - 1) ≤ 2 ^ (fPrec f).toNat := Nat.pow_le_pow_right (by decide) (by omega)
    by_cases hz : intB m (vNeg f w) (vSig f w) (vExp f w) = 0
    · have hs0 : cutW (vSig f w) (-vExp f w) false m (vNeg f w) = 0 := by rw [w_zero, n1, hz]
      have hM : irMag f m w = 0 := by unfold irMag; rw [hz]; exact find_zero hf 0
      rw [hs0, hM, ← hv]
      obtain ⟨z1, z2⟩ := ex_zero hf hrg (vNeg f w)
      exact ⟨z1, z2, by omega⟩
    · obtain ⟨M, f1, f2⟩ := int_fits hf hz (by omega)
      have hM : irMag f m w = M := findM_eq hf f1 f2
      rw [← n1] at f2
      obtain ⟨z1, z2⟩ := ex_word hf hrg f1 f2 (vNeg f w)
      rw [hM, ← hv]
      exact ⟨z1, z2, f1⟩
/-! ## is it whole, is it odd? -/
def whI (f : Int) (w : BitVec 128) : Bool := wFin f w && !intX (vSig f w) (vExp f w)
def odI (f : Int) (w : BitVec 128) : Bool := wFin f w && (!decide (vSig f w = 0) && decide (vExp f w + (tzN (vSig f w).toNat : Int) = 0))
def whP (b : Nat) (e : Int) (a : Nat) (g : Int) : Prop := e ≤ g ∧ (g ≤ 0 ∨ g = e) ∧ b = a * 2 ^ (g - e).toNat ∧ a ≠ 0
theorem whP_step {b a : Nat} {e g : Int} (h : whP b e a g) (hg : g < 0) (ho : oddN a = false) : whP b e (a / 2 ^ 1) (g + 1) := by
  obtain ⟨h1, h2, h3, h4⟩ := h
  have ho : ¬ a % 2 = 1 := by unfold oddN at ho; simpa using ho
  obtain ⟨c, hc⟩ : ∃ c, a / 2 ^ 1 = c := ⟨_, rfl⟩
  rw [hc]
  have e2 : a = c * 2 := by omega
  refine ⟨by omega, .inl (by omega), ?_, by omega⟩
  rw [h3, show (g + 1 - e).toNat = (g - e).toNat + 1 by omega, Nat.pow_succ, e2, Nat.mul_assoc, Nat.mul_comm 2]
theorem whP_end {s : W} {e g : Int} {a : Nat} (h : whP s.toNat e a g) (hg : ¬ (g < 0 ∧ oddN a = false)) :
    decide (0 ≤ g) = !intX s e ∧ (decide (g = 0) && oddN a) = decide (e + (tzN s.toNat : Int) = 0) := by
  obtain ⟨h1, h2, h3, h4⟩ := h
  have hpos : 0 < s.toNat := by rw [h3]; exact Nat.mul_pos (Nat.pos_of_ne_zero h4) (Nat.two_pow_pos _)
  obtain ⟨z1, z2⟩ := tzN_spec s.toNat hpos
  -- where the lowest digit stands
  have key : oddN a = true → (tzN s.toNat : Int) = g - e := fun ho => by
    have ho : a % 2 = 1 := by unfold oddN at ho; simpa using ho
    have e1 := h3.symm.trans z1
    by_cases c : tzN s.toNat ≤ (g - e).toNat
    · by_cases c2 : tzN s.toNat = (g - e).toNat
      · omega
      · exfalso
        have e2 : 2 ^ (g - e).toNat = 2 ^ ((g - e).toNat - tzN s.toNat - 1) * 2 * 2 ^ tzN s.toNat := by rw [← Nat.pow_succ, ← Nat.pow_add]; congr 1; omega
        rw [e2, ← Nat.mul_assoc] at e1
        have := Nat.eq_of_mul_eq_mul_right (Nat.two_pow_pos _) e1
        rw [← this, ← Nat.mul_assoc] at z2
        omega
    · exfalso
      have e2 : 2 ^ tzN s.toNat = 2 ^ (tzN s.toNat - (g - e).toNat - 1) * 2 * 2 ^ (g - e).toNat := by rw [← Nat.pow_succ, ← Nat.pow_add]; congr 1; omega
      rw [e2, ← Nat.mul_assoc] at e1
      have := Nat.eq_of_mul_eq_mul_right (Nat.two_pow_pos _) e1
      rw [this, ← Nat.mul_assoc] at ho
      omega
  have hge : e + (tzN s.toNat : Int) ≥ g := by
    have e1 := h3.symm.trans z1
    by_cases c : (g - e).toNat ≤ tzN s.toNat
    · omega
    · exfalso
      have e2 : 2 ^ (g - e).toNat = 2 ^ ((g - e).toNat - tzN s.toNat - 1) * 2 * 2 ^ tzN s.toNat := by rw [← Nat.pow_succ, ← Nat.pow_add]; congr 1; omega
      rw [e2, ← Nat.mul_assoc] at e1
      have := Nat.eq_of_mul_eq_mul_right (Nat.two_pow_pos _) e1
      rw [← this, ← Nat.mul_assoc] at z2
      omega
  have hno : oddN a = false → a % 2 = 0 := fun ho => by unfold oddN at ho; simp at ho; omega
  constructor
  · unfold intX
    rw [Bool.not_not]
    refine decide_eq_decide.2 ?_
    by_cases he : 0 ≤ e
    · unfold restQ
      rw [if_pos he]
      constructor
      · intro _; rfl
      · intro _; omega
    · unfold restQ
      rw [if_neg (by omega)]
      constructor
      · intro hg0
        have e3 : s.toNat % 2 ^ (0 - e).toNat = 0 := by
          rw [h3, show (g - e).toNat = g.toNat + (0 - e).toNat by omega, Nat.pow_add, ← Nat.mul_assoc, Nat.mul_mod_left]
        rw [if_pos e3]
      · intro hr
        by_cases hg0 : 0 ≤ g
        · exact hg0
        · exfalso
          have ho : oddN a = true := by
            cases hh : oddN a with
            | true => rfl
            | false => exact absurd ⟨by omega, hh⟩ hg
          have hk := key ho
          have hm : s.toNat % 2 ^ (0 - e).toNat = 0 := by
            split at hr
            · assumption
            · split at hr <;> (try split at hr) <;> omega
          have e4 := Nat.div_add_mod s.toNat (2 ^ (0 - e).toNat)
          rw [hm, Nat.add_zero] at e4
          have e5 : 2 ^ (0 - e).toNat = 2 * 2 ^ ((0 - e).toNat - tzN s.toNat - 1) * 2 ^ tzN s.toNat := by rw [← Nat.pow_succ', ← Nat.pow_add]; congr 1; omega
          have e6 : s.toNat / 2 ^ tzN s.toNat = 2 * 2 ^ ((0 - e).toNat - tzN s.toNat - 1) * (s.toNat / 2 ^ (0 - e).toNat) := by
            generalize hZ : tzN s.toNat = Z at *
            generalize hQ : s.toNat / 2 ^ (0 - e).toNat = Q at *
            rw [← e4, e5, Nat.mul_right_comm, Nat.mul_div_cancel _ (Nat.two_pow_pos _)]
          rw [e6, Nat.mul_assoc] at z2
          omega
  · cases ho : oddN a with
    | true =>
      have hk := key ho
      rw [Bool.and_true]
      exact decide_eq_decide.2 (by omega)
    | false =>
      rw [Bool.and_false]
      symm
      rw [decide_eq_false_iff_not]
      intro hh
      have hg0 : ¬ g < 0 := fun hlt => hg ⟨hlt, ho⟩
      have hgz : g = 0 := by omega
      -- the lowest digit stands at g, so a is odd
      have e1 := h3.symm.trans z1
      have e2 : tzN s.toNat = (g - e).toNat := by omega
      rw [e2] at e1 z2
      have := Nat.eq_of_mul_eq_mul_right (Nat.two_pow_pos _) e1
      rw [← this] at z2
      have := hno ho
      omega
/-! ## made whole: any word -/
def irOk (f m : Int) (w : BitVec 128) : Bool := isM m && fFits f w
def irSome (f : Int) (w : BitVec 128) : Bool := wFin f w && !decide (vSig f w = 0)
def irW (f m : Int) (w : BitVec 128) : BitVec 128 := bif irOk f m w then (bif nanIs f [w] then nanV f [w] else bif irSome f w then fWordOf f (wNeg f w) (irMag f m w) else w) else 0
def irX (f m : Int) (w : BitVec 128) : Int := bif irOk f m w then (bif nanIs f [w] then nanX f [w] else bif irSome f w then (bif intX (vSig f w) (vExp f w) then 16 else 0) else 0) else 0
def irE (f m : Int) (w : BitVec 128) : Int := bif irOk f m w then 0 else 1
theorem some_cls {f : Int} {w : BitVec 128} : irSome f w = decide (cls f w = 4 ∨ cls f w = 5) := by
  unfold irSome
  have hr := cls_rng f w
  cases h : wFin f w with
  | false =>
    have : ¬ 4 ≤ cls f w := fun hh => by have := (fin_iff f w).2 hh; rw [h] at this; cases this
    rw [decide_eq_false (show ¬ (cls f w = 4 ∨ cls f w = 5) by omega)]; rfl
  | true =>
    have h4 := (fin_iff f w).1 h
    have hz := vSig_zero h
    rw [Bool.true_and]
    by_cases hs : vSig f w = 0
    · rw [decide_eq_true hs, decide_eq_false (show ¬ (cls f w = 4 ∨ cls f w = 5) by have := hz.1 hs; omega)]; rfl
    · have : cls f w ≠ 6 := fun hh => hs (hz.2 hh)
      rw [decide_eq_false hs, decide_eq_true (show cls f w = 4 ∨ cls f w = 5 by omega)]; rfl
end Go.LE
namespace Go.LE
open Go
/-! ## a number without its lowest digits -/
theorem digA_shr (a n j : Nat) : digA (a / 2 ^ n) ((j : Nat) : Int) = (((digA a ((n / 32 + j : Nat) : Int) + 4294967296 * digA a ((n / 32 + j + 1 : Nat) : Int)).toNat / 2 ^ (n % 32) % 4294967296 : Nat) : Int) := by
  rw [digA_nat, digA_nat, digA_nat]
  have hA : ∀ A : Nat, a / 2 ^ (32 * (n / 32 + j)) = A → ((((A % 4294967296 : Nat) : Int) + 4294967296 * ((A / 4294967296 % 4294967296 : Nat) : Int)).toNat / 2 ^ (n % 32) % 4294967296) = A / 2 ^ (n % 32) % 4294967296 := fun A _ => by
    have e1 : (((A % 4294967296 : Nat) : Int) + 4294967296 * ((A / 4294967296 % 4294967296 : Nat) : Int)).toNat = A % (4294967296 * 4294967296) := by
      rw [Nat.mod_mul]; omega
    have e2 : 4294967296 * 4294967296 = 2 ^ (n % 32) * 2 ^ (64 - n % 32) := by rw [← Nat.pow_add, show n % 32 + (64 - n % 32) = 64 by omega]
    rw [e1, e2, Nat.mod_mul_right_div_self]
    exact Nat.mod_mod_of_dvd _ ⟨2 ^ (32 - n % 32), by
      rw [show (4294967296 : Nat) = 2 ^ 32 from rfl, ← Nat.pow_add, show 32 + (32 - n % 32) = 64 - n % 32 by omega]⟩
  have e3 : a / 2 ^ (32 * (n / 32 + j + 1)) = a / 2 ^ (32 * (n / 32 + j)) / 4294967296 := by
    rw [Nat.div_div_eq_div_mul, show (4294967296 : Nat) = 2 ^ 32 from rfl, ← Nat.pow_add, show 32 * (n / 32 + j) + 32 = 32 * (n / 32 + j + 1) by omega]
  rw [e3, hA _ rfl, Nat.div_div_eq_div_mul, Nat.div_div_eq_div_mul, ← Nat.pow_add, ← Nat.pow_add, show n + 32 * j = 32 * (n / 32 + j) + n % 32 by omega]
theorem or_high {x y : Int} (hx : 0 ≤ x ∧ x < 4294967296) (hy : 0 ≤ y ∧ y < 4294967296) : arithR .or .u64 x (arithR .shl .u64 y 32) = x + 4294967296 * y := by
  have e1 : arithR .shl .u64 y 32 = ((y.toNat <<< 32 : Nat) : Int) := by
    rw [shl_u64 (by omega) (by omega)]
    rw [Nat.mod_eq_of_lt]
    · rfl
    · rw [Nat.shiftLeft_eq]
      show y.toNat * 4294967296 < 18446744073709551616
      omega
  have h2 : y.toNat <<< 32 = y.toNat * 4294967296 := Nat.shiftLeft_eq _ _
  rw [e1, or_u64 (by omega) (by rw [h2]; omega), Int.toNat_natCast, Nat.or_comm, ← Nat.shiftLeft_add_eq_or_of_lt (show x.toNat < 2 ^ 32 by show x.toNat < 4294967296; omega), h2]
  omega
def shrP (a n : Nat) (l : List Int) (i : Int) : Prop := ((n / 32 : Nat) : Int) ≤ i ∧ ((l.length : Nat) : Int) = i - ((n / 32 : Nat) : Int) ∧ rngL l ∧ valL l = lowD (a / 2 ^ n) l.length
theorem shrP_zero (a n : Nat) : shrP a n [] ((n / 32 : Nat) : Int) := ⟨Int.le_refl _, by simp, fun x hx => by simp at hx, (lowD_zero _).symm⟩
theorem shrP_step {a n : Nat} {l : List Int} {i : Int} (h : shrP a n l i) : shrP a n (l ++ [(((digA a i + 4294967296 * digA a (i + 1)).toNat / 2 ^ (n % 32) : Nat) : Int) % 4294967296]) (i + 1) := by
  obtain ⟨h1, h2, h3, h4⟩ := h
  have hd := digA_shr a n l.length
  rw [show ((n / 32 + l.length : Nat) : Int) = i by omega, show ((n / 32 + l.length + 1 : Nat) : Int) = i + 1 by omega] at hd
  have hx : (((digA a i + 4294967296 * digA a (i + 1)).toNat / 2 ^ (n % 32) : Nat) : Int) % 4294967296 = digA (a / 2 ^ n) ((l.length : Nat) : Int) := by rw [hd]; omega
  refine ⟨by omega, by rw [List.length_append]; simp; omega, rngL_app h3 (fun x hx => by rw [List.mem_singleton] at hx; rw [hx]; omega), ?_⟩
  rw [valL_append, valL_one, List.length_append, List.length_singleton, lowD_succ, h4, hx]
theorem shrP_end {a n : Nat} {l : List Int} {i : Int} (h : shrP a n l i) (hi : (((dig a).length : Nat) : Int) ≤ i) : valL l = a / 2 ^ n := by
  obtain ⟨h1, h2, h3, h4⟩ := h
  rw [h4]
  unfold lowD
  refine Nat.mod_eq_of_lt ?_
  rw [Nat.div_lt_iff_lt_mul (Nat.two_pow_pos _), ← Nat.pow_add]
  exact Nat.lt_of_lt_of_le (dig_lt a) (Nat.pow_le_pow_right (by decide) (by omega))
/-! ## whole numbers: how great they are -/
theorem int_zero {m : Int} {b : Bool} {s : W} {e : Int} (h : s = 0) : intB m b s e = 0 ∧ intX s e = false := by
  have hs : s.toNat = 0 := by rw [← w_zero]; exact h
  have hr : restQ 0 e 0 = 0 := by unfold restQ; split <;> simp
  have hf : floorQ 0 e 0 = 0 := by unfold floorQ; split <;> simp
  unfold intB intX upQ
  rw [hs, hr, hf, grows_zero]
  exact ⟨rfl, rfl⟩
theorem int_bits {f m : Int} {w : BitVec 128} (h : wFin f w = true) (b : Bool) : bitN (intB m b (vSig f w) (vExp f w)) ≤ 20000 := by
  obtain ⟨hF, hf⟩ := fin_fits h
  have hp := p_rng f hf
  have hr := vExp_rng h
  have hlt := vSig_lt h
  by_cases he : 0 ≤ vExp f w
  · rw [(int_pos he).1]
    by_cases hz : (vSig f w).toNat = 0
    · rw [hz, Nat.zero_mul]; decide
    · rw [bitN_mul _ _ hz]
      have := bitN_le.2 hlt
      omega
  · have := int_lt (m := m) (b := b) (show vExp f w < 0 by omega) hlt (by omega)
    have := bitN_pow_le this
    omega
/-! ## ints -/
def nS (n : Int) : W := ofLimbsR (if n < 0 then -n else n) 0 0 0 0 0 0 0
theorem nS_nat {n : Int} (h : -9223372036854775808 ≤ n ∧ n ≤ 9223372036854775807) : (nS n).toNat = n.natAbs := by
  unfold nS
  rw [of1_toNat (by split <;> omega)]
  split <;> omega
def tiB (f m : Int) (w : BitVec 128) : Nat := intB m (vNeg f w) (vSig f w) (vExp f w)
def tiFit (f m : Int) (w : BitVec 128) : Bool := wFin f w && (bif vNeg f w then decide (tiB f m w ≤ 9223372036854775808) else decide (tiB f m w < 9223372036854775808))
def tiOk (f m : Int) (w : BitVec 128) : Bool := isM m && fFits f w
def tiN (f m : Int) (w : BitVec 128) : Int := bif tiOk f m w && tiFit f m w then (bif vNeg f w then -(tiB f m w : Int) else (tiB f m w : Int)) else 0
def tiX (f m : Int) (w : BitVec 128) : Int := bif tiOk f m w then (bif tiFit f m w then (bif intX (vSig f w) (vExp f w) then 16 else 0) else 1) else 0
def tiE (f m : Int) (w : BitVec 128) : Int := bif tiOk f m w then (bif tiFit f m w then 0 else 4) else 1
def cwS (m : Int) (b : Bool) (s : W) (e : Int) : W := if 0 ≤ e then wShl s e else cutW s (-e) false m b
def cwF (m : Int) (b : Bool) (s : W) (e : Int) : Bool := if 0 ≤ e then decide (e + wLen s ≤ 64) else decide (wLen (cutW s (-e) false m b) ≤ 64)
theorem len64_lt (a : W) : (wLen a ≤ 64) = (a.toNat < 18446744073709551616) := wLen_lt (a := a) (k := 64) (by decide)
theorem cw_fits {f m : Int} {w : BitVec 128} (h : wFin f w = true) (hm : isM m = true) :
    cwF m (vNeg f w) (vSig f w) (vExp f w) = decide (tiB f m w < 18446744073709551616) ∧ (tiB f m w < 18446744073709551616 → limbR (cwS m (vNeg f w) (vSig f w) (vExp f w)) 0 = (tiB f m w : Int)) := by
  obtain ⟨hF, hf⟩ := fin_fits h
  have hlt := vSig_lt h
  have hp := p_rng f hf
  have lim : ∀ a : W, a.toNat < 18446744073709551616 → limbR a 0 = (a.toNat : Int) := fun a ha => by
    unfold limbR
    rw [Nat.mul_zero, Nat.pow_zero, Nat.div_one, Nat.mod_eq_of_lt ha]
  unfold cwF cwS tiB
  by_cases he : 0 ≤ vExp f w
  · rw [if_pos he, if_pos he, (int_pos he).1]
    have hz : (vSig f w).toNat ≠ 0 := fun hz => by
      have h6 := (vSig_zero h).1 (by rw [w_zero]; exact hz)
      obtain ⟨h0, h1, h2⟩ := fin_fld h
      obtain ⟨g1, g2⟩ := h2.1 h6
      have hE := e_rng f hf
      have hx : vExp f w = (if bFld f w > 0 then bFld f w - 1 else bFld f w) + (1 - fEMax f) - fPrec f + 1 := by
        conv => lhs; unfold vExp
        rw [h, cond_true]
      rw [g1] at hx
      simp at hx
      omega
    have hb := bitN_mul (vSig f w).toNat (vExp f w).toNat hz
    have hw : wLen (vSig f w) = ((bitN (vSig f w).toNat : Nat) : Int) := (bitN_wLen _).symm
    have hiff : vExp f w + wLen (vSig f w) ≤ 64 ↔ (vSig f w).toNat * 2 ^ (vExp f w).toNat < 18446744073709551616 := by
      have h64 := bitN_le (n := (vSig f w).toNat * 2 ^ (vExp f w).toNat) (k := 64)
      rw [show (18446744073709551616 : Nat) = 2 ^ 64 from rfl, ← h64, hb, hw]
      omega
    refine ⟨decide_eq_decide.2 hiff, fun hh => ?_⟩
    have hl := hiff.2 hh
    have hl0 := wLen_le (vSig f w)
    have := shl_exact (s := vSig f w) (n := vExp f w) (k := 64) he (by omega) (by omega) hh
    rw [lim _ (by rw [this]; exact hh), this]
  · rw [if_neg he, if_neg he]
    obtain ⟨n1, n2⟩ := int_neg (b := vNeg f w) (s := vSig f w) hm (show vExp f w < 0 by omega)
    refine ⟨?_, fun hh => ?_⟩
    · refine decide_eq_decide.2 ?_
      rw [len64_lt, n1]
    · rw [lim _ (by rw [n1]; exact hh), n1]
end Go.LE