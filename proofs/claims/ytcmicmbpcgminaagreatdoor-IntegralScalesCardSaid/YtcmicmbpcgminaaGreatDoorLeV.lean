import Derived.Test.YtcmicmbpcgminaaGreatDoorLeT
set_option linter.unusedVariables false
set_option linter.unusedSimpArgs false
namespace Go.LE
open Go
/-! ## times a power of 2: far ones are told apart no more -/
theorem low_tiny {a : Nat} (h : a ≠ 0) {g p : Int} (h1 : topQ a g + 3 ≤ p) : floorQ a g p = 0 ∧ restQ a g p = 1 := by
  have hb := (bitN_rng h).2.1
  have hbp := bitN_pos h
  have hx : (p - g).toNat = bitN a + (p - g - (bitN a : Int)).toNat := by unfold topQ at h1; omega
  have h4 : 4 ≤ 2 ^ (p - g - (bitN a : Int)).toNat := by
    have : 2 ^ 2 ≤ 2 ^ (p - g - (bitN a : Int)).toNat := Nat.pow_le_pow_right (by decide) (by unfold topQ at h1; omega)
    exact this
  have h5 : 2 ^ (p - g).toNat = 2 ^ bitN a * 2 ^ (p - g - (bitN a : Int)).toNat := by rw [← Nat.pow_add, ← hx]
  have h6 : 2 ^ bitN a * 4 ≤ 2 ^ (p - g).toNat := by rw [h5]; exact Nat.mul_le_mul_left _ h4
  have hpg : ¬ p ≤ g := by unfold topQ at h1; omega
  unfold floorQ restQ
  rw [if_neg hpg, if_neg hpg, Nat.mod_eq_of_lt (by omega), if_neg h, if_pos (by omega)]
  exact ⟨Nat.div_eq_of_lt (by omega), rfl⟩
theorem far_up {f : Int} (hf : 1 ≤ f ∧ f ≤ 4) {a : Nat} (h : a ≠ 0) {g k m : Int} {b : Bool} (h1 : fEMax f < topQ a g) (h2 : fEMax f < topQ a k) :
    rdW f m b a g = rdW f m b a k ∧ rdX f m b a g = rdX f m b a k := by
  have t1 := rdT_two hf h g m b
  have t2 := rdT_two hf h k m b
  unfold rdW rdMag rdX
  rw [if_pos (show fEMax f < rdT f m b a g by omega), if_pos (show fEMax f < rdT f m b a k by omega), if_pos (show fEMax f < rdT f m b a g by omega), if_pos (show fEMax f < rdT f m b a k by omega)]
  exact ⟨rfl, rfl⟩
theorem far_dn {f : Int} (hf : 1 ≤ f ∧ f ≤ 4) {a : Nat} (h : a ≠ 0) {g k m : Int} {b : Bool} (h1 : topQ a g + 3 ≤ expO f) (h2 : topQ a k + 3 ≤ expO f) :
    rdW f m b a g = rdW f m b a k ∧ rdX f m b a g = rdX f m b a k := by
  have t1 := rdT_two hf h g m b
  have t2 := rdT_two hf h k m b
  have hexp : expO f = 2 - fEMax f - fPrec f := rfl
  have hp := p_rng f hf
  have he := e_rng f hf
  obtain ⟨l1, l2⟩ := low_tiny h h1
  obtain ⟨l3, l4⟩ := low_tiny h h2
  unfold rdW rdMag rdX upQ
  rw [if_neg (show ¬ fEMax f < rdT f m b a g by omega), if_neg (show ¬ fEMax f < rdT f m b a k by omega), if_neg (show ¬ fEMax f < rdT f m b a g by omega), if_neg (show ¬ fEMax f < rdT f m b a k by omega),
    if_pos (show rdT f m b a g < 1 - fEMax f by omega), if_pos (show rdT f m b a k < 1 - fEMax f by omega), if_pos (show rdT f m b a g < 1 - fEMax f by omega), if_pos (show rdT f m b a k < 1 - fEMax f by omega), l1, l2, l3, l4]
  exact ⟨rfl, rfl⟩
def clA (n : Int) : Int := max (-262144) (min 262144 n)
def clB (n : Int) : Int := max (-100000) (min 100000 n)
theorem cl_same {f : Int} (hf : 1 ≤ f ∧ f ≤ 4) {s : W} (h : s.toNat ≠ 0) {e n m : Int} {b : Bool} (he : -16495 ≤ e ∧ e ≤ 16384) :
    rdW f m b s.toNat (e + clA n) = rdW f m b s.toNat (e + clB n) ∧ rdX f m b s.toNat (e + clA n) = rdX f m b s.toNat (e + clB n) := by
  have hp := p_rng f hf
  have hem := e_rng f hf
  have hexp : expO f = 2 - fEMax f - fPrec f := rfl
  have hw := bitN_wide s
  have hbp := bitN_pos h
  by_cases h1 : n < -100000
  · refine far_dn hf h ?_ ?_ <;> simp only [topQ, clA, clB] <;> omega
  · by_cases h2 : 100000 < n
    · refine far_up hf h ?_ ?_ <;> simp only [topQ, clA, clB] <;> omega
    · have : clA n = clB n := by unfold clA clB; omega
      rw [this]
      exact ⟨rfl, rfl⟩
end Go.LE