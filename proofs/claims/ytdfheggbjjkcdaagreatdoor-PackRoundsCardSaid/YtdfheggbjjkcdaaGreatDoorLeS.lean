import Derived.Test.YtdfheggbjjkcdaaGreatDoorLeR
set_option linter.unusedVariables false
set_option linter.unusedSimpArgs false
namespace Go.LE
open Go
/-! ## a number told otherwise is cut and rounded alike -/
theorem floorQ_inv (a : Nat) (g p : Int) (k : Nat) : floorQ (a * 2 ^ k) (g - (k : Int)) p = floorQ a g p := by
  unfold floorQ
  by_cases h1 : p ≤ g - (k : Int)
  · rw [if_pos h1, if_pos (show p ≤ g by omega), Nat.mul_assoc, ← Nat.pow_add]
    congr 2; omega
  · rw [if_neg h1]
    by_cases h2 : p ≤ g
    · rw [if_pos h2]
      have e : a * 2 ^ k = a * 2 ^ (g - p).toNat * 2 ^ (p - (g - (k : Int))).toNat := by
        rw [Nat.mul_assoc, ← Nat.pow_add]; congr 2; omega
      rw [e, Nat.mul_div_cancel _ (Nat.two_pow_pos _)]
    · rw [if_neg h2]
      have e : 2 ^ (p - (g - (k : Int))).toNat = 2 ^ (p - g).toNat * 2 ^ k := by rw [← Nat.pow_add]; congr 1; omega
      rw [e, Nat.mul_div_mul_right _ _ (Nat.two_pow_pos k)]
theorem restQ_inv (a : Nat) (g p : Int) (k : Nat) : restQ (a * 2 ^ k) (g - (k : Int)) p = restQ a g p := by
  unfold restQ
  by_cases h1 : p ≤ g - (k : Int)
  · rw [if_pos h1, if_pos (show p ≤ g by omega)]
  · rw [if_neg h1]
    by_cases h2 : p ≤ g
    · rw [if_pos h2]
      have e : a * 2 ^ k = a * 2 ^ (g - p).toNat * 2 ^ (p - (g - (k : Int))).toNat := by
        rw [Nat.mul_assoc, ← Nat.pow_add]; congr 2; omega
      have e2 : a * 2 ^ k % 2 ^ (p - (g - (k : Int))).toNat = 0 := by rw [e]; exact Nat.mul_mod_left _ _
      rw [if_pos e2]
    · rw [if_neg h2]
      have e : 2 ^ (p - (g - (k : Int))).toNat = 2 ^ (p - g).toNat * 2 ^ k := by rw [← Nat.pow_add]; congr 1; omega
      have hk := Nat.two_pow_pos k
      have e3 : a * 2 ^ k % 2 ^ (p - (g - (k : Int))).toNat = a % 2 ^ (p - g).toNat * 2 ^ k := by rw [e, Nat.mul_mod_mul_right]
      have c1 : (a * 2 ^ k % 2 ^ (p - (g - (k : Int))).toNat = 0) ↔ (a % 2 ^ (p - g).toNat = 0) := by
        rw [e3, Nat.mul_eq_zero]; omega
      have c2 : (2 * (a * 2 ^ k % 2 ^ (p - (g - (k : Int))).toNat) < 2 ^ (p - (g - (k : Int))).toNat) ↔ (2 * (a % 2 ^ (p - g).toNat) < 2 ^ (p - g).toNat) := by
        rw [e3, e, ← Nat.mul_assoc]; exact Nat.mul_lt_mul_right hk
      have c3 : (2 * (a * 2 ^ k % 2 ^ (p - (g - (k : Int))).toNat) = 2 ^ (p - (g - (k : Int))).toNat) ↔ (2 * (a % 2 ^ (p - g).toNat) = 2 ^ (p - g).toNat) := by
        rw [e3, e, ← Nat.mul_assoc]; exact Nat.mul_right_cancel_iff hk
      simp only [c1, c2, c3]
theorem topQ_inv {a : Nat} (h : a ≠ 0) (g : Int) (k : Nat) : topQ (a * 2 ^ k) (g - (k : Int)) = topQ a g := by
  unfold topQ
  rw [bitN_mul a k h]
  omega
theorem cut_same {a b : Nat} {g h : Int} (ha : a ≠ 0) (hb : b ≠ 0) (he : sizeN a g b h = 0) : (∀ p, floorQ a g p = floorQ b h p) ∧ (∀ p, restQ a g p = restQ b h p) ∧ topQ a g = topQ b h := by
  have e := (sizeN_at (k := min g h) (by omega) (by omega)).1.1 he
  have e1 : g - (((g - min g h).toNat : Nat) : Int) = min g h := by omega
  have e2 : h - (((h - min g h).toNat : Nat) : Int) = min g h := by omega
  refine ⟨fun p => ?_, fun p => ?_, ?_⟩
  · rw [← floorQ_inv a g p (g - min g h).toNat, ← floorQ_inv b h p (h - min g h).toNat, e1, e2, e]
  · rw [← restQ_inv a g p (g - min g h).toNat, ← restQ_inv b h p (h - min g h).toNat, e1, e2, e]
  · rw [← topQ_inv ha g (g - min g h).toNat, ← topQ_inv hb h (h - min g h).toNat, e1, e2, e]
theorem rd_same {a b : Nat} {g h : Int} (ha : a ≠ 0) (hb : b ≠ 0) (he : sizeN a g b h = 0) (f m : Int) (neg : Bool) : rdMag f m neg a g = rdMag f m neg b h ∧ rdX f m neg a g = rdX f m neg b h := by
  obtain ⟨c1, c2, c3⟩ := cut_same ha hb he
  have hu : ∀ p, upQ m neg a g p = upQ m neg b h p := fun p => by unfold upQ; rw [c1, c2]
  have hU : rdU f m neg a g = rdU f m neg b h := by unfold rdU; rw [hu, c3]
  have hT : rdT f m neg a g = rdT f m neg b h := by unfold rdT; rw [hU, c3]
  unfold rdMag rdX
  rw [hT, hU, hu, c2, c2, c3]
  exact ⟨rfl, rfl⟩
theorem size_sym {a b : Nat} {g h : Int} (he : sizeN a g b h = 0) : sizeN b h a g = 0 :=
  (sizeN_at (k := min g h) (by omega) (by omega)).1.2 ((sizeN_at (k := min g h) (by omega) (by omega)).1.1 he).symm
theorem size_nz {a b : Nat} {g h : Int} (he : sizeN a g b h = 0) (hb : b ≠ 0) : a ≠ 0 := fun ha => by
  have e := (sizeN_at (k := min g h) (by omega) (by omega)).1.1 he
  rw [ha, Nat.zero_mul] at e
  have := Nat.mul_pos (Nat.pos_of_ne_zero hb) (Nat.two_pow_pos (h - min g h).toNat)
  omega
/-- what a format has is rounded to itself -/
theorem rd_exact {f : Int} (hf : 1 ≤ f ∧ f ≤ 4) {a : Nat} {g : Int} (ha : a ≠ 0) {M : Nat} (hM : M < infN f) (he : sizeN (vSig f (wM f M)).toNat (vExp f (wM f M)) a g = 0) (m : Int) (b : Bool) :
    rdMag f m b a g = M ∧ rdX f m b a g = 0 := by
  have hi := inf_pos hf
  have hfin : wFin f (wM f M) = true := (fin_iff _ _).2 ((fin_of hf (by omega)).2 hM)
  have hne := size_nz he ha
  have hz : vSig f (wM f M) ≠ 0 := fun hh => hne (by rw [w_zero] at hh; exact hh)
  obtain ⟨r1, r2⟩ := rd_own hfin hz m b
  obtain ⟨s1, s2⟩ := rd_same hne ha he f m b
  rw [← s1, ← s2, r1, r2]
  exact ⟨wOf_mag hf (by omega) false, rfl⟩
/-- the value of what is rounded -/
def rdPl (f m : Int) (b : Bool) (a : Nat) (g : Int) : Int := if rdT f m b a g < 1 - fEMax f then expO f else topQ a g - fPrec f + 1
theorem rd_val {f : Int} (hf : 1 ≤ f ∧ f ≤ 4) {a : Nat} (h : a ≠ 0) {g m : Int} {b : Bool} (h1 : rdT f m b a g ≤ fEMax f) :
    rdMag f m b a g < infN f ∧ ∀ k : Int, k ≤ expO f → k ≤ rdPl f m b a g → magV f (rdMag f m b a g) * 2 ^ (expO f - k).toNat = upQ m b a g (rdPl f m b a g) * 2 ^ (rdPl f m b a g - k).toNat := by
  have hp := p_rng f hf
  have hexp : expO f = 2 - fEMax f - fPrec f := rfl
  unfold rdPl
  by_cases hs : rdT f m b a g < 1 - fEMax f
  · obtain ⟨s1, s2, s3, s4, s5⟩ := rd_sub hf h hs
    rw [if_pos hs]
    refine ⟨s3, fun k hk _ => ?_⟩
    rw [magV_sub f s2, s1]
  · rw [if_neg hs]
    have hn := rd_normal hf h h1 (by omega)
    refine ⟨hn.1, fun k hk1 hk2 => ?_⟩
    obtain ⟨u1, u2⟩ := rdU_rng hf h g m b
    have htp := two_prec hf
    have htwo := rdT_two hf h g m b
    have hm : rdMag f m b a g = ((topQ a g - (1 - fEMax f)) * ((2 ^ (fPrec f - 1).toNat : Nat) : Int) + (rdU f m b a g : Int)).toNat := by
      unfold rdMag
      rw [if_neg (by omega), if_neg hs]
    have hU : upQ m b a g (topQ a g - fPrec f + 1) = rdU f m b a g := rfl
    rw [hU]
    by_cases hc : topQ a g = -fEMax f
    · have hu : rdU f m b a g = 2 ^ (fPrec f - 1).toNat + 2 ^ (fPrec f - 1).toNat := by omega
      have hM : rdMag f m b a g = 0 * 2 ^ (fPrec f - 1).toNat + 2 ^ (fPrec f - 1).toNat := by
        rw [hm, hu, hc, show (-fEMax f - (1 - fEMax f)) = -1 by omega]; omega
      rw [hM, magV_at f (Nat.le_refl _) (by omega), hu, Nat.pow_zero, Nat.mul_one, ← Nat.mul_two, Nat.mul_assoc, ← Nat.pow_succ']
      congr 2; omega
    · obtain ⟨D, hD⟩ : ∃ D : Nat, topQ a g - (1 - fEMax f) = (D : Int) := ⟨(topQ a g - (1 - fEMax f)).toNat, by omega⟩
      have hM : rdMag f m b a g = D * 2 ^ (fPrec f - 1).toNat + rdU f m b a g := by
        rw [hm, hD, ← Int.natCast_mul]; omega
      rw [hM, magV_at f u1 (by omega), Nat.mul_assoc, ← Nat.pow_add]
      congr 2; omega
/-- .. is just the number, where nothing is cut off -/
theorem rd_fits {f : Int} (hf : 1 ≤ f ∧ f ≤ 4) {a : Nat} (h : a ≠ 0) {g m : Int} {b : Bool} (h1 : rdT f m b a g ≤ fEMax f) (h2 : restQ a g (rdPl f m b a g) = 0) :
    rdMag f m b a g < infN f ∧ sizeN (vSig f (wM f (rdMag f m b a g))).toNat (vExp f (wM f (rdMag f m b a g))) a g = 0 := by
  obtain ⟨v1, v2⟩ := rd_val hf h h1
  refine ⟨v1, ?_⟩
  have hu : upQ m b a g (rdPl f m b a g) = floorQ a g (rdPl f m b a g) := by
    unfold upQ; rw [h2, grows_zero]; rfl
  have hs := (floorQ_eq (a := a) (g := g) (p := rdPl f m b a g)).2 h2
  have hk := min (expO f) (min (rdPl f m b a g) g)
  refine (size_of hf v1 false (k := min (expO f) (min (rdPl f m b a g) g)) (by omega) (by omega)).1.2 ?_
  rw [v2 _ (by omega) (by omega), hu]
  exact (sizeN_at (k := min (expO f) (min (rdPl f m b a g) g)) (by omega) (by omega)).1.1 hs
end Go.LE