import Derived.Test.YtnanihpaifaceaaGreatDoorLeR
set_option linter.unusedVariables false
set_option linter.unusedSimpArgs false
namespace Go.LE
open Go
/-! ## a number told otherwise is cut and rounded alike -/
theorem floorQ_inv (a : Nat) (g p : Int) (k : Nat) : floorQ (a * 2 ^ k) (g - (k : Int)) p = floorQ a g p := by
  unfold floorQ
  by_cases h1 : p ≤ g - (k : Int)
  · rw [if_pos h1, if_pos (show p ≤ g by omega), Nat.mul_assoc, ← Nat.pow_add]
    congr 2; omega
  · rw [if_neg h1]
    by_cases h2 : p ≤ g
    · rw [if_pos h2]
      have e : a * 2 ^ k = a * 2 ^ (g - p).toNat * 2 ^ (p - (g - (k : Int))).toNat := by
        rw [Nat.mul_assoc, ← Nat.pow_add]; congr 2; omega
      rw [e, Nat.mul_div_cancel _ (Nat.two_pow_pos _)]
    · rw [if_neg h2]
      have e : 2 ^ (p - (g - (k : Int))).toNat = 2 ^ (p - g).toNat * 2 ^ k := by rw [← Nat.pow_add]; congr 1; omega
      rw [e, Nat.mul_div_mul_right _ _ (Nat.two_pow_pos k)]
theorem restQ_inv (a : Nat) (g p : Int) (k : Nat) : restQ (a * 2 ^ k) (g - (k : Int)) p = restQ a g p := by
  unfold restQ
  by_cases h1 : p ≤ g - (k : Int)
  · rw [if_pos h1, if_pos (show p ≤ g by omega)]
  · rw [if_neg h1]
    by_cases h2 : p ≤ g
    · rw [if_pos h2]
      have e : a * 2 ^ k = a * 2 ^ (g - p).toNat * 2 ^ (p - (g - (k : Int))).toNat := by
        rw [Nat.mul_assoc, ← Nat.pow_add]; congr 2; omega
      have e2 : a * 2 ^ k % 2 ^ (p - (g - (k : Int))).toNat = 0 := by rw [e]; exact Nat.mul_mod_left _ _
      rw [if_pos e2]
    · rw [if_neg h2]
      have e : 2 ^ (p - (g - (k : Int))).toNat = 2 ^ (p - g).toNat * 2 ^ k := by rw [← Nat.pow_add]; congr 1; omega
      have hk := Nat.two_pow_pos k
      have e3 : a * 2 ^ k % 2 ^ (p - (g - (k : Int))).toNat = a % 2 ^ (p - g).toNat * 2 ^ k := by rw [e, Nat.mul_mod_mul_right]
      have c1 : (a * 2 ^ k % 2 ^ (p - (g - (k : Int))).toNat = 0) ↔ (a % 2 ^ (p - g).toNat = 0) := by
        rw [e3, Nat.mul_eq_zero]; omega
      have c2 : (2 * (a * 2 ^ k % 2 ^ (p - (g - (k : Int))).toNat) < 2 ^ (p - (g - (k : Int))).toNat) ↔ (2 * (a % 2 ^ (p - g).toNat) < 2 ^ (p - g).toNat) := by
        rw [e3, e, ← Nat.mul_assoc]; exact Nat.mul_lt_mul_right hk
      have c3 : (2 * (a * 2 ^ k % 2 ^ (p - (g - (k : Int))).toNat) = 2 ^ (p - (g - (k : Int))).toNat) ↔ (2 * (a % 2 ^ (p - g).toNat) = 2 ^ (p - g).toNat) := by
        rw [e3, e, ← Nat.mul_assoc]; exact Nat.mul_right_cancel_iff hk
      simp only [c1, c2, c3]
theorem topQ_inv {a : Nat} (h : a ≠ 0) (g : Int) (k : Nat) : topQ (a * 2 ^ k) (g - (k : Int)) = topQ a g := by
  unfold topQ
  rw [bitN_mul a k h]
  omega
theorem cut_same {a b : Nat} {g h : Int} (ha : a ≠ 0) (hb : b ≠ 0) (he : sizeN a g b h = 0) : (∀ p, floorQ a g p = floorQ b h p) ∧ (∀ p, restQ a g p = restQ b h p) ∧ topQ a g = topQ b h := by
  have e := (sizeN_at (k := min g h) (by omega) (by omega)).1.1 he
  have e1 : g - (((g - min g h).toNat : Nat) : Int) = min g h := by omega
  have e2 : h - (((h - min g h).toNat : Nat) : Int) = min g h := by omega
  refine ⟨fun p => ?_, fun p => ?_, ?_⟩
  · rw [← floorQ_inv a g p (g - min g h).toNat, ← floorQ_inv b h p (h - min g h).toNat, e1, e2, e]
  · rw [← restQ_inv a g p (g - min g h).toNat, ← restQ_inv b h p (h - min g h).toNat, e1, e2, e]
  · rw [← topQ_inv ha g (g - min g h).toNat, ← topQ_inv hb h (h - min g h).toNat, e1, e2, e]
theorem rd_same {a b : Nat} {g h : Int} (ha : a ≠ 0) (hb : b ≠ 0) (he : sizeN a g b h = 0) (f m : Int) (neg : Bool) : rdMag f m neg a g = rdMag f m neg b h ∧ rdX f m neg a g = rdX f m neg b h := by
  obtain ⟨c1, c2, c3⟩ := cut_same ha hb he
  have hu : ∀ p, upQ m neg a g p = upQ m neg b h p := fun p => by unfold upQ; rw [c1, c2]
  have hU : rdU f m neg a g = rdU f m neg b h := by unfold rdU; rw [hu, c3]
  have hT : rdT f m neg a g = rdT f m neg b h := by unfold rdT; rw [hU, c3]
  unfold rdMag rdX
  rw [hT, hU, hu, c2, c2, c3]
  exact ⟨rfl, rfl⟩
theorem size_sym {a b : Nat} {g h : Int} (he : sizeN a g b h = 0) : sizeN b h a g = 0 :=
  (sizeN_at (k := min g h) (by omega) (by omega)).1.2 ((sizeN_at (k := min g h) (by omega) (by omega)).1.1 he).symm
end Go.LE
namespace Go.LE
open Go
/-! ## a word of one format as one of another -/
/-! ## rounded to the other format: a finite word -/
end Go.LE
namespace Go.LE
open Go
/-! ## whole numbers -/
theorem find_zero {f : Int} (hf : 1 ≤ f ∧ f ≤ 4) (e : Int) : findM f 0 e = 0 := by
  have hi := inf_pos hf
  refine findM_eq hf (by omega) ((size_of hf (m := 0) (by omega) false (k := min (expO f) e) (by omega) (by omega)).1.2 ?_)
  rw [magV_zero, Nat.zero_mul, Nat.zero_mul]
/-! ## is it whole, is it odd? -/
/-! ## made whole: any word -/
end Go.LE
namespace Go.LE
open Go
/-! ## a number without its lowest digits -/
/-! ## whole numbers: how great they are -/
/-! ## ints -/
end Go.LE
namespace Go.LE
open Go
/-! ## to a greater format, and back -/
theorem of_fin {f : Int} (hf : 1 ≤ f ∧ f ≤ 4) {M : Nat} (hM : M < infN f) (b : Bool) : wFin f (fWordOf f b M) = true ∧ wNeg f (fWordOf f b M) = b ∧ magN f (fWordOf f b M) = M ∧ fFits f (fWordOf f b M) = true := by
  have hi := inf_pos hf
  have hF := wOf_fits hf (show M < halfN f by omega) b
  have hm := wOf_mag hf (show M < halfN f by omega) b
  refine ⟨(fin_iff _ _).2 ((cls_mag hF).2.2.1.2 (by omega)), wOf_neg hf (by omega) b, hm, hF⟩
theorem size_sgn {f : Int} (hf : 1 ≤ f ∧ f ≤ 4) {M : Nat} (hM : M < infN f) {a : Nat} {e : Int} (h : sizeN (vSig f (wM f M)).toNat (vExp f (wM f M)) a e = 0) (b : Bool) :
    sizeN (vSig f (fWordOf f b M)).toNat (vExp f (fWordOf f b M)) a e = 0 :=
  (size_of hf hM b (k := min (expO f) e) (by omega) (by omega)).1.2 ((size_of hf hM false (k := min (expO f) e) (by omega) (by omega)).1.1 h)
end Go.LE
namespace Go.LE
open Go
/-! ## made whole: how it stands to what it was -/
/-! ## what is left below the whole part -/
end Go.LE
namespace Go.LE
open Go
/-! ## times a power of 2: far ones are told apart no more -/
end Go.LE
namespace Go.LE
open Go
/-! ## rounding keeps the order -/
end Go.LE
namespace Go.LE
open Go
/-! ## texts that are ordered as numbers are -/
end Go.LE
namespace Go.LE
open Go
/-! ## of two numbers, rounded, the one that isn't above isn't above either -/
theorem rd_inf {f : Int} (hf : 1 ≤ f ∧ f ≤ 4) {a : Nat} (ha : a ≠ 0) (g m : Int) (neg : Bool) : rdMag f m neg a g ≤ infN f := by
  by_cases hoa : fEMax f < rdT f m neg a g
  · unfold rdMag; rw [if_pos hoa]
    cases overInf m neg <;> simp only [cond_true, cond_false] <;> omega
  · by_cases hs : rdT f m neg a g < 1 - fEMax f
    · have := (rd_sub hf ha hs).2.2.1; omega
    · have := (rd_normal hf ha (g := g) (m := m) (neg := neg) (by omega) (by omega)).1; omega
end Go.LE