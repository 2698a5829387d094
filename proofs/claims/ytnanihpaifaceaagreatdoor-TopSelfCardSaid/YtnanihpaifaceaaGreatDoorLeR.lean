import Derived.Test.YtnanihpaifaceaaGreatDoorLeQ
set_option linter.unusedVariables false
set_option linter.unusedSimpArgs false
namespace Go.LE
open Go
/-! ## a number, a times 2^g, cut at a place -/
def floorQ (a : Nat) (g p : Int) : Nat := if p ≤ g then a * 2 ^ (g - p).toNat else a / 2 ^ (p - g).toNat
def restQ (a : Nat) (g p : Int) : Int :=
  if p ≤ g then 0 else if a % 2 ^ (p - g).toNat = 0 then 0 else if 2 * (a % 2 ^ (p - g).toNat) < 2 ^ (p - g).toNat then 1 else if 2 * (a % 2 ^ (p - g).toNat) = 2 ^ (p - g).toNat then 2 else 3
theorem floorQ_eq {a : Nat} {g p : Int} : sizeN (floorQ a g p) p a g = 0 ↔ restQ a g p = 0 := by
  unfold floorQ restQ
  by_cases h : p ≤ g
  · rw [if_pos h, if_pos h, (sizeN_at (k := p) (Int.le_refl _) h).1, show (p - p).toNat = 0 by omega, Nat.pow_zero, Nat.mul_one]
    simp
  · rw [if_neg h, if_neg h, (sizeN_at (k := g) (by omega) (Int.le_refl _)).1, show (g - g).toNat = 0 by omega, Nat.pow_zero, Nat.mul_one]
    have := Nat.div_add_mod a (2 ^ (p - g).toNat)
    rw [Nat.mul_comm] at this
    constructor
    · intro h2
      rw [if_pos (by omega)]
    · intro h2
      split at h2
      · omega
      · split at h2 <;> (try split at h2) <;> omega
/-! ## a number, and one that stands for all above it, below the next -/
def moreA (s : Nat) (more : Bool) : Nat := bif more then 2 * s + 1 else s
def moreG (e : Int) (more : Bool) : Int := bif more then e - 1 else e
def restM (s : Nat) (n : Int) (more : Bool) : Int :=
  if n ≤ 0 then (bif more then 1 else 0)
  else if 2 ^ n.toNat < 2 * (s % 2 ^ n.toNat) ∨ (2 * (s % 2 ^ n.toNat) = 2 ^ n.toNat ∧ more = true) then 3
  else if 2 * (s % 2 ^ n.toNat) = 2 ^ n.toNat then 2
  else if more = true ∨ s % 2 ^ n.toNat ≠ 0 then 1 else 0
theorem odd_mod (s n : Nat) : (2 * s + 1) % 2 ^ (n + 1) = 2 * (s % 2 ^ n) + 1 ∧ (2 * s + 1) / 2 ^ (n + 1) = s / 2 ^ n := by
  have e : 2 ^ (n + 1) = 2 * 2 ^ n := by rw [Nat.pow_succ, Nat.mul_comm]
  constructor
  · rw [e, Nat.mod_mul]
    rw [show (2 * s + 1) % 2 = 1 by omega, show (2 * s + 1) / 2 = s by omega]
    omega
  · rw [e, ← Nat.div_div_eq_div_mul, show (2 * s + 1) / 2 = s by omega]
theorem cut_rest {s : Nat} {e p n : Int} {more : Bool} (hn : 1 ≤ n) (h : p - e = n) :
    restM s n more = restQ (moreA s more) (moreG e more) p ∧ s / 2 ^ n.toNat = floorQ (moreA s more) (moreG e more) p := by
  cases more with
  | false =>
    show restM s n false = restQ s e p ∧ s / 2 ^ n.toNat = floorQ s e p
    unfold restM restQ floorQ
    rw [if_neg (show ¬ n ≤ 0 by omega), if_neg (show ¬ p ≤ e by omega), if_neg (show ¬ p ≤ e by omega), h]
    refine ⟨?_, rfl⟩
    have hl := Nat.mod_lt s (Nat.two_pow_pos n.toNat)
    have e2 : 2 ^ n.toNat = 2 * 2 ^ (n.toNat - 1) := by rw [← Nat.pow_succ']; congr 1; omega
    generalize s % 2 ^ n.toNat = L at *
    generalize 2 ^ n.toNat = N at *
    by_cases h0 : L = 0
    · subst h0
      have : 0 < N := hl
      simp
      omega
    · rw [if_neg h0]
      repeat' split
      all_goals (try rfl)
      all_goals simp at *
      all_goals omega
  | true =>
    show restM s n true = restQ (2 * s + 1) (e - 1) p ∧ s / 2 ^ n.toNat = floorQ (2 * s + 1) (e - 1) p
    unfold restM restQ floorQ
    rw [if_neg (show ¬ n ≤ 0 by omega), if_neg (show ¬ p ≤ e - 1 by omega), if_neg (show ¬ p ≤ e - 1 by omega), show (p - (e - 1)).toNat = n.toNat + 1 by omega]
    obtain ⟨o1, o2⟩ := odd_mod s n.toNat
    rw [o1, o2]
    refine ⟨?_, rfl⟩
    have hl := Nat.mod_lt s (Nat.two_pow_pos n.toNat)
    have e2 : 2 ^ n.toNat = 2 * 2 ^ (n.toNat - 1) := by rw [← Nat.pow_succ']; congr 1; omega
    have e3 : 2 ^ (n.toNat + 1) = 2 * 2 ^ n.toNat := by rw [Nat.pow_succ, Nat.mul_comm]
    rw [e3]
    generalize s % 2 ^ n.toNat = L at *
    generalize 2 ^ n.toNat = N at *
    generalize 2 ^ (n.toNat - 1) = M at *
    rw [if_neg (show ¬ (2 * L + 1 = 0) by omega)]
    by_cases c1 : N < 2 * L
    · rw [if_pos (.inl c1), if_neg (by omega), if_neg (by omega)]
    · by_cases c2 : 2 * L = N
      · rw [if_pos (.inr ⟨c2, rfl⟩), if_neg (by omega), if_neg (by omega)]
      · rw [if_neg (by omega), if_neg c2, if_pos (.inl rfl), if_pos (by omega)]
/-! ## how it is rounded -/
def growsM (m : Int) (neg odd : Bool) (r : Int) : Bool :=
  if r < 1 ∨ 3 < r then false else if m = 1 then decide (r = 3) || (decide (r = 2) && odd) else if m = 2 then decide (2 ≤ r) else if m = 4 then !neg else if m = 5 then neg else false
theorem grows_zero (m : Int) (neg odd : Bool) : growsM m neg odd 0 = false := by unfold growsM; rw [if_pos (by omega)]
def oddN (n : Nat) : Bool := decide (n % 2 = 1)
def upQ (m : Int) (neg : Bool) (a : Nat) (g p : Int) : Nat := floorQ a g p + (bif growsM m neg (oddN (floorQ a g p)) (restQ a g p) then 1 else 0)
def topQ (a : Nat) (g : Int) : Int := g + (bitN a : Int) - 1
def isM (m : Int) : Bool := decide (1 ≤ m ∧ m ≤ 5)
theorem more_top {s : Nat} (h : s ≠ 0) (e : Int) (more : Bool) : topQ (moreA s more) (moreG e more) = topQ s e ∧ moreA s more ≠ 0 := by
  unfold topQ moreA moreG
  cases more
  · exact ⟨rfl, h⟩
  · simp only [cond_true]
    have : bitN (2 * s + 1) = bitN s + 1 := by
      rw [bitN_half (by omega), show (2 * s + 1) / 2 = s by omega]
    omega
theorem bitN_rng {a : Nat} (h : a ≠ 0) : 2 ^ (bitN a - 1) ≤ a ∧ a < 2 ^ bitN a ∧ 1 ≤ bitN a := by
  have h1 := bitN_pos h
  have := (bitN_iff (n := a) (k := bitN a) h1).1 rfl
  exact ⟨this.1, this.2, h1⟩
/-- so many digits from the highest one on -/
theorem floor_top {a : Nat} (h : a ≠ 0) (g : Int) {P : Nat} (hP : 1 ≤ P) : 2 ^ (P - 1) ≤ floorQ a g (topQ a g - P + 1) ∧ floorQ a g (topQ a g - P + 1) < 2 ^ P := by
  obtain ⟨b1, b2, b3⟩ := bitN_rng h
  unfold floorQ topQ
  by_cases hp : g + (bitN a : Int) - 1 - P + 1 ≤ g
  · rw [if_pos hp]
    have e : (g - (g + (bitN a : Int) - 1 - P + 1)).toNat = P - bitN a := by omega
    rw [e]
    have hL : bitN a ≤ P := by omega
    have e1 : 2 ^ (P - 1) = 2 ^ (bitN a - 1) * 2 ^ (P - bitN a) := by rw [← Nat.pow_add]; congr 1; omega
    have e2 : 2 ^ P = 2 ^ bitN a * 2 ^ (P - bitN a) := by rw [← Nat.pow_add]; congr 1; omega
    rw [e1, e2]
    exact ⟨Nat.mul_le_mul_right _ b1, Nat.mul_lt_mul_of_pos_right b2 (Nat.two_pow_pos _)⟩
  · rw [if_neg hp]
    have e : (g + (bitN a : Int) - 1 - P + 1 - g).toNat = bitN a - P := by omega
    rw [e]
    have hL : P < bitN a := by omega
    have e1 : 2 ^ (bitN a - 1) = 2 ^ (P - 1) * 2 ^ (bitN a - P) := by rw [← Nat.pow_add]; congr 1; omega
    have e2 : 2 ^ bitN a = 2 ^ P * 2 ^ (bitN a - P) := by rw [← Nat.pow_add]; congr 1; omega
    rw [Nat.le_div_iff_mul_le (Nat.two_pow_pos _), Nat.div_lt_iff_lt_mul (Nat.two_pow_pos _), ← e1, ← e2]
    exact ⟨b1, b2⟩
theorem up_top {a : Nat} (h : a ≠ 0) (g : Int) {P : Nat} (hP : 1 ≤ P) (m : Int) (neg : Bool) : 2 ^ (P - 1) ≤ upQ m neg a g (topQ a g - P + 1) ∧ upQ m neg a g (topQ a g - P + 1) ≤ 2 ^ P := by
  obtain ⟨h1, h2⟩ := floor_top h g hP
  unfold upQ
  cases growsM m neg (oddN (floorQ a g (topQ a g - P + 1))) (restQ a g (topQ a g - P + 1)) <;> simp only [cond_true, cond_false] <;> omega
/-- at a place further up it has fewer digits -/
theorem floor_low {a : Nat} (h : a ≠ 0) {g p : Int} {P : Nat} (hp : topQ a g < p + P) : floorQ a g p < 2 ^ P := by
  obtain ⟨b1, b2, b3⟩ := bitN_rng h
  unfold topQ at hp
  unfold floorQ
  split
  · rename_i hh
    have : a * 2 ^ (g - p).toNat < 2 ^ bitN a * 2 ^ (g - p).toNat := Nat.mul_lt_mul_of_pos_right b2 (Nat.two_pow_pos _)
    rw [← Nat.pow_add] at this
    exact Nat.lt_of_lt_of_le this (Nat.pow_le_pow_right (by decide) (by omega))
  · rename_i hh
    rw [Nat.div_lt_iff_lt_mul (Nat.two_pow_pos _), ← Nat.pow_add]
    exact Nat.lt_of_lt_of_le b2 (Nat.pow_le_pow_right (by decide) (by omega))
end Go.LE
namespace Go.LE
open Go
/-! ## rounded to a format: the word without its sign, and the flags -/
def overInf (m : Int) (neg : Bool) : Bool := decide (m = 1) || (decide (m = 2) || growsM m neg false 3)
def rdU (f m : Int) (neg : Bool) (a : Nat) (g : Int) : Nat := upQ m neg a g (topQ a g - fPrec f + 1)
def rdT (f m : Int) (neg : Bool) (a : Nat) (g : Int) : Int := topQ a g - fPrec f + (bitN (rdU f m neg a g) : Int)
def rdMag (f m : Int) (neg : Bool) (a : Nat) (g : Int) : Nat :=
  if fEMax f < rdT f m neg a g then (bif overInf m neg then infN f else infN f - 1)
  else if rdT f m neg a g < 1 - fEMax f then upQ m neg a g (expO f)
  else ((topQ a g - (1 - fEMax f)) * ((2 ^ (fPrec f - 1).toNat : Nat) : Int) + (rdU f m neg a g : Int)).toNat
def rdX (f m : Int) (neg : Bool) (a : Nat) (g : Int) : Int :=
  if fEMax f < rdT f m neg a g then 20
  else if rdT f m neg a g < 1 - fEMax f then (if restQ a g (expO f) = 0 then 0 else 24)
  else if restQ a g (topQ a g - fPrec f + 1) = 0 then 0 else 16
def rdW (f m : Int) (neg : Bool) (a : Nat) (g : Int) : BitVec 128 := fWordOf f neg (rdMag f m neg a g)
theorem two_prec {f : Int} (hf : 1 ≤ f ∧ f ≤ 4) : 2 ^ (fPrec f).toNat = 2 ^ (fPrec f - 1).toNat + 2 ^ (fPrec f - 1).toNat := by
  have := p_rng f hf
  rw [show (fPrec f).toNat = (fPrec f - 1).toNat + 1 by omega, Nat.pow_succ]; omega
theorem rdU_rng {f : Int} (hf : 1 ≤ f ∧ f ≤ 4) {a : Nat} (h : a ≠ 0) (g m : Int) (neg : Bool) : 2 ^ (fPrec f - 1).toNat ≤ rdU f m neg a g ∧ rdU f m neg a g ≤ 2 ^ (fPrec f).toNat := by
  have hp := p_rng f hf
  have := up_top h g (P := (fPrec f).toNat) (by omega) m neg
  rw [show (((fPrec f).toNat : Nat) : Int) = fPrec f by omega, show (fPrec f).toNat - 1 = (fPrec f - 1).toNat by omega] at this
  exact this
theorem bitN_pow (k : Nat) : bitN (2 ^ k) = k + 1 := by
  rw [bitN_iff (by omega)]
  refine ⟨by simp, ?_⟩
  rw [Nat.pow_succ]
  have := Nat.two_pow_pos k
  omega
theorem rdT_two {f : Int} (hf : 1 ≤ f ∧ f ≤ 4) {a : Nat} (h : a ≠ 0) (g m : Int) (neg : Bool) :
    (rdU f m neg a g < 2 ^ (fPrec f).toNat ∧ rdT f m neg a g = topQ a g) ∨ (rdU f m neg a g = 2 ^ (fPrec f).toNat ∧ rdT f m neg a g = topQ a g + 1) := by
  have hp := p_rng f hf
  obtain ⟨h1, h2⟩ := rdU_rng hf h g m neg
  unfold rdT
  by_cases hh : rdU f m neg a g < 2 ^ (fPrec f).toNat
  · refine .inl ⟨hh, ?_⟩
    have : bitN (rdU f m neg a g) = (fPrec f).toNat := by
      rw [bitN_iff (by omega), show (fPrec f).toNat - 1 = (fPrec f - 1).toNat by omega]
      exact ⟨h1, hh⟩
    omega
  · have e : rdU f m neg a g = 2 ^ (fPrec f).toNat := by omega
    refine .inr ⟨e, ?_⟩
    rw [e, bitN_pow]
    omega
theorem inf_mul {f : Int} (hf : 1 ≤ f ∧ f ≤ 4) : (infN f : Int) = (2 * fEMax f + 1) * ((2 ^ (fPrec f - 1).toNat : Nat) : Int) := by
  unfold infN
  have := (fmt_sizes hf).1
  have h1 := Nat.two_pow_pos (fField f).toNat
  rw [Int.natCast_mul, Int.natCast_sub (by omega), this]
  congr 1
  omega
theorem magV_at (f : Int) {D u : Nat} (h1 : 2 ^ (fPrec f - 1).toNat ≤ u) (h2 : u ≤ 2 ^ (fPrec f - 1).toNat + 2 ^ (fPrec f - 1).toNat) : magV f (D * 2 ^ (fPrec f - 1).toNat + u) = u * 2 ^ D := by
  unfold magV
  have hH := Nat.two_pow_pos (fPrec f - 1).toNat
  generalize 2 ^ (fPrec f - 1).toNat = H at *
  by_cases hu : u < H + H
  · have e : D * H + u = (u - H) + (D + 1) * H := by rw [Nat.add_mul, Nat.one_mul]; omega
    have e1 : (D * H + u) / H = D + 1 := by rw [e, Nat.add_mul_div_right _ _ hH, Nat.div_eq_of_lt (by omega), Nat.zero_add]
    have e2 : (D * H + u) % H = u - H := by rw [e, Nat.add_mul_mod_self_right, Nat.mod_eq_of_lt (by omega)]
    rw [e1, e2, if_neg (by omega), show H + (u - H) = u by omega, show D + 1 - 1 = D by omega]
  · have hu2 : u = H + H := by omega
    have e : D * H + u = 0 + (D + 2) * H := by rw [Nat.add_mul, hu2]; omega
    have e1 : (D * H + u) / H = D + 2 := by rw [e, Nat.add_mul_div_right _ _ hH, Nat.zero_div, Nat.zero_add]
    have e2 : (D * H + u) % H = 0 := by rw [e, Nat.add_mul_mod_self_right, Nat.zero_mod]
    rw [e1, e2, if_neg (by omega), show D + 2 - 1 = D + 1 by omega, Nat.pow_succ, hu2]
    rw [Nat.add_zero, Nat.mul_comm (2 ^ D) 2, ← Nat.mul_assoc, Nat.mul_two]
theorem magV_sub (f : Int) {u : Nat} (h2 : u ≤ 2 ^ (fPrec f - 1).toNat) : magV f u = u := by
  by_cases h : u = 2 ^ (fPrec f - 1).toNat
  · have := magV_at f (D := 0) (u := u) (by omega) (by omega)
    simpa using this
  · unfold magV
    rw [if_pos (Nat.div_eq_of_lt (by omega))]
/-- in the normal numbers -/
theorem rd_normal {f : Int} (hf : 1 ≤ f ∧ f ≤ 4) {a : Nat} (h : a ≠ 0) {g m : Int} {neg : Bool} (h1 : rdT f m neg a g ≤ fEMax f) (h2 : 1 - fEMax f ≤ rdT f m neg a g) :
    rdMag f m neg a g < infN f ∧ findM f (rdU f m neg a g) (topQ a g - fPrec f + 1) = rdMag f m neg a g ∧
    (rdU f m neg a g < 2 ^ (fPrec f).toNat → (rdMag f m neg a g : Int) = (rdT f m neg a g - (1 - fEMax f)) * ((2 ^ (fPrec f - 1).toNat : Nat) : Int) + (rdU f m neg a g : Int)) ∧
    (rdU f m neg a g = 2 ^ (fPrec f).toNat → (rdMag f m neg a g : Int) = (rdT f m neg a g - (1 - fEMax f)) * ((2 ^ (fPrec f - 1).toNat : Nat) : Int) + ((2 ^ (fPrec f - 1).toNat : Nat) : Int)) := by
  have hp := p_rng f hf
  have he := e_rng f hf
  have hi := inf_mul hf
  have htp := two_prec hf
  obtain ⟨u1, u2⟩ := rdU_rng hf h g m neg
  have ht := rdT_two hf h g m neg
  have hm : rdMag f m neg a g = ((topQ a g - (1 - fEMax f)) * ((2 ^ (fPrec f - 1).toNat : Nat) : Int) + (rdU f m neg a g : Int)).toNat := by
    unfold rdMag
    rw [if_neg (by omega), if_neg (by omega)]
  have hsz : ∀ {mm : Nat}, mm < infN f → ∀ k : Int, k ≤ expO f → k ≤ topQ a g - fPrec f + 1 → magV f mm * 2 ^ (expO f - k).toNat = rdU f m neg a g * 2 ^ (topQ a g - fPrec f + 1 - k).toNat → findM f (rdU f m neg a g) (topQ a g - fPrec f + 1) = mm := by
    intro mm hmm k hk1 hk2 he
    exact findM_eq hf hmm ((size_of hf hmm false hk1 hk2).1.2 he)
  have hexp : expO f = 2 - fEMax f - fPrec f := rfl
  generalize rdU f m neg a g = u at *
  generalize rdT f m neg a g = T at *
  generalize rdMag f m neg a g = M at *
  generalize topQ a g = t at *
  have hH := Nat.two_pow_pos (fPrec f - 1).toNat
  have mA := fun (D u : Nat) => magV_at f (D := D) (u := u)
  generalize 2 ^ (fPrec f - 1).toNat = H at *
  rw [htp] at u2 ht ⊢
  by_cases hc : t = -fEMax f
  · -- just below the normal numbers, carried
    have hu : u = H + H := by omega
    have hT : T = 1 - fEMax f := by omega
    have hM : M = H := by
      rw [hm, hu, hc, show (-fEMax f - (1 - fEMax f)) = -1 by omega]; omega
    have hlt : H < infN f := by
      have : 1 * (H : Int) < (2 * fEMax f + 1) * (H : Int) := Int.mul_lt_mul_of_pos_right (by omega) (by omega)
      omega
    refine ⟨by omega, ?_, fun hh => by omega, fun _ => by rw [hM, hT, show (1 - fEMax f - (1 - fEMax f)) = 0 by omega]; omega⟩
    rw [hM]
    refine hsz hlt (t - fPrec f + 1) (by omega) (Int.le_refl _) ?_
    have := mA 0 H (Nat.le_refl _) (by omega)
    rw [Nat.zero_mul, Nat.zero_add, Nat.pow_zero, Nat.mul_one] at this
    rw [this, show (expO f - (t - fPrec f + 1)).toNat = 1 by omega, show (t - fPrec f + 1 - (t - fPrec f + 1)).toNat = 0 by omega, hu]
    omega
  · obtain ⟨D, hD⟩ : ∃ D : Nat, t - (1 - fEMax f) = (D : Int) := ⟨(t - (1 - fEMax f)).toNat, by omega⟩
    have hM : M = D * H + u := by
      rw [hm, hD, ← Int.natCast_mul]; omega
    have hDs : ((D * H : Nat) : Int) = (D : Int) * (H : Int) := Int.natCast_mul _ _
    have hlt : M < infN f := by
      rcases ht with ⟨k1, k2⟩ | ⟨k1, k2⟩
      · have : ((D : Int) + 2) * (H : Int) ≤ (2 * fEMax f + 1) * (H : Int) := Int.mul_le_mul_of_nonneg_right (by omega) (by omega)
        rw [Int.add_mul] at this
        omega
      · have : ((D : Int) + 3) * (H : Int) ≤ (2 * fEMax f + 1) * (H : Int) := Int.mul_le_mul_of_nonneg_right (by omega) (by omega)
        rw [Int.add_mul] at this
        omega
    refine ⟨hlt, ?_, fun hh => ?_, fun hh => ?_⟩
    · rw [hM] at hlt ⊢
      refine hsz hlt (expO f) (Int.le_refl _) (by omega) ?_
      rw [mA D u u1 u2, show (expO f - expO f).toNat = 0 by omega, Nat.pow_zero, Nat.mul_one, show (t - fPrec f + 1 - expO f).toNat = D by omega]
    · have hT : T = t := by omega
      rw [hT, hD, hM, Int.natCast_add, hDs]
    · have hT : T = t + 1 := by omega
      rw [hT, show t + 1 - (1 - fEMax f) = (D : Int) + 1 by omega, hM, Int.natCast_add, hDs, Int.add_mul]
      omega
/-- below the normal numbers -/
theorem rd_sub {f : Int} (hf : 1 ≤ f ∧ f ≤ 4) {a : Nat} (h : a ≠ 0) {g m : Int} {neg : Bool} (h2 : rdT f m neg a g < 1 - fEMax f) :
    rdMag f m neg a g = upQ m neg a g (expO f) ∧ rdMag f m neg a g ≤ 2 ^ (fPrec f - 1).toNat ∧ rdMag f m neg a g < infN f ∧ findM f (upQ m neg a g (expO f)) (expO f) = rdMag f m neg a g ∧ topQ a g < 1 - fEMax f := by
  have hp := p_rng f hf
  have he := e_rng f hf
  have hi := inf_mul hf
  have ht := rdT_two hf h g m neg
  have hexp : expO f = 2 - fEMax f - fPrec f := rfl
  have hm : rdMag f m neg a g = upQ m neg a g (expO f) := by
    unfold rdMag
    rw [if_neg (by omega), if_pos h2]
  have hfl := floor_low h (g := g) (p := expO f) (P := (fPrec f - 1).toNat) (by omega)
  have hu : upQ m neg a g (expO f) ≤ 2 ^ (fPrec f - 1).toNat := by
    unfold upQ
    cases growsM m neg (oddN (floorQ a g (expO f))) (restQ a g (expO f)) <;> simp only [cond_true, cond_false] <;> omega
  have hH := Nat.two_pow_pos (fPrec f - 1).toNat
  have hlt : upQ m neg a g (expO f) < infN f := by
    have : 2 * ((2 ^ (fPrec f - 1).toNat : Nat) : Int) ≤ (2 * fEMax f + 1) * ((2 ^ (fPrec f - 1).toNat : Nat) : Int) := Int.mul_le_mul_of_nonneg_right (by omega) (by omega)
    omega
  rw [hm]
  refine ⟨rfl, hu, hlt, ?_, by omega⟩
  refine findM_eq hf hlt ((size_of hf hlt false (k := expO f) (Int.le_refl _) (Int.le_refl _)).1.2 ?_)
  rw [magV_sub f hu]
end Go.LE
namespace Go.LE
open Go
/-! ## wides, cut at a place -/
set_option exponentiation.threshold 600 in
theorem wShr_nat (a : W) {n : Int} (h : 0 ≤ n) : (wShr a n).toNat = a.toNat / 2 ^ n.toNat := by
  by_cases h5 : n ≤ 512
  · exact shr_toNat a ⟨h, h5⟩
  · have e : wShr a n = wShr a 512 := by unfold wShr; rw [show wClamp n = wClamp 512 by unfold wClamp; omega]
    rw [e, shr_toNat a (by omega), show (512 : Int).toNat = 512 from rfl, Nat.div_eq_of_lt a.isLt, Nat.div_eq_of_lt]
    exact Nat.lt_of_lt_of_le a.isLt (Nat.pow_le_pow_right (by decide) (by omega))
theorem wShr_neg (a : W) {n : Int} (h : n ≤ 0) : wShr a n = a := by
  unfold wShr
  rw [show wClamp n = 0 by unfold wClamp; omega]
  simp
theorem wShl_neg (a : W) {n : Int} (h : n ≤ 0) : wShl a n = a := by
  unfold wShl
  rw [show wClamp n = 0 by unfold wClamp; omega]
  simp
def one512 : W := ofLimbsR 1 0 0 0 0 0 0 0
theorem one512_nat : one512.toNat = 1 := of1_toNat (x := 1) (by omega)
def cutW (s : W) (n : Int) (more : Bool) (m : Int) (neg : Bool) : W := bif isM m then (bif growsM m neg (wBit (wShr s n) 0) (restM s.toNat n more) then wShr s n + one512 else wShr s n) else 0
def cutX (s : W) (n : Int) (more : Bool) (m : Int) : Bool := isM m && !decide (restM s.toNat n more = 0)
theorem wBit_oddN (s : W) : wBit s 0 = oddN s.toNat := wBit_odd s
set_option exponentiation.threshold 600 in
theorem cutW_nat {s : W} {n : Int} {more : Bool} {m : Int} {neg : Bool} (hm : isM m = true) (hn : 1 ≤ n) (e : Int) : (cutW s n more m neg).toNat = upQ m neg (moreA s.toNat more) (moreG e more) (e + n) := by
  obtain ⟨c1, c2⟩ := cut_rest (s := s.toNat) (e := e) (p := e + n) (n := n) (more := more) hn (by omega)
  unfold cutW upQ
  rw [hm, cond_true, wBit_oddN, wShr_nat s (by omega), c1, c2]
  have hlt : floorQ (moreA s.toNat more) (moreG e more) (e + n) < 2 ^ 511 := by
    rw [← c2]
    have : s.toNat / 2 ^ n.toNat ≤ s.toNat / 2 ^ 1 := Nat.div_le_div_left (Nat.pow_le_pow_right (by decide) (by omega)) (by decide)
    have := s.isLt
    omega
  have hq : (wShr s n).toNat = floorQ (moreA s.toNat more) (moreG e more) (e + n) := by rw [wShr_nat s (by omega), c2]
  cases growsM m neg (oddN (floorQ (moreA s.toNat more) (moreG e more) (e + n))) (restQ (moreA s.toNat more) (moreG e more) (e + n)) with
  | true =>
    rw [cond_true, cond_true, add_toNat (by rw [one512_nat]; omega), one512_nat, hq]
  | false => rw [cond_false, cond_false, hq, Nat.add_zero]
theorem cutX_rest {s : W} {n : Int} {more : Bool} {m : Int} (hm : isM m = true) (hn : 1 ≤ n) (e : Int) : cutX s n more m = !decide (restQ (moreA s.toNat more) (moreG e more) (e + n) = 0) := by
  obtain ⟨c1, c2⟩ := cut_rest (s := s.toNat) (e := e) (p := e + n) (n := n) (more := more) hn (by omega)
  unfold cutX
  rw [hm, c1, Bool.true_and]
/-! ## what is cut off, as it is found -/
theorem two_div (n : Int) (h : 1 ≤ n) : 2 ^ n.toNat = 2 * 2 ^ (n - 1).toNat := by
  rw [show n.toNat = (n - 1).toNat + 1 by omega, Nat.pow_succ, Nat.mul_comm]
theorem rest_neg {s : Nat} {n : Int} (h : n ≤ 0) (more : Bool) : restM s n more = bif more then 1 else 0 := by unfold restM; rw [if_pos h]
set_option exponentiation.threshold 600 in
theorem rest_big {s : W} {n : Int} (h : 512 < n) (more : Bool) : restM s.toNat n more = if more = true ∨ s.toNat ≠ 0 then 1 else 0 := by
  unfold restM
  have h1 : s.toNat % 2 ^ n.toNat = s.toNat := Nat.mod_eq_of_lt (Nat.lt_of_lt_of_le s.isLt (Nat.pow_le_pow_right (by decide) (by omega)))
  have h2 : 2 * s.toNat < 2 ^ n.toNat := by
    have h3 : 2 ^ 513 ≤ 2 ^ n.toNat := Nat.pow_le_pow_right (by decide) (by omega)
    have := s.isLt
    omega
  rw [if_neg (by omega), h1, if_neg (by omega), if_neg (by omega)]
/-- the low digits, and half of the place above them -/
theorem rest_low {s low : W} {n : Int} (h1 : 1 ≤ n) (h2 : n ≤ 512) (hl : low.toNat = s.toNat % 2 ^ n.toNat) (more : Bool) :
    restM s.toNat n more = if 0 < wCmp low (wPower (n - 1)) ∨ (wCmp low (wPower (n - 1)) = 0 ∧ more = true) then 3 else if wCmp low (wPower (n - 1)) = 0 then 2 else if more = true ∨ low ≠ 0 then 1 else 0 := by
  have hp := power_toNat (n := n - 1) (by omega)
  have ht := two_div n h1
  unfold restM
  rw [if_neg (by omega), ← hl]
  have hz : (low ≠ 0) = (low.toNat ≠ 0) := by rw [Ne, Ne, w_zero]
  have hc : (0 < wCmp low (wPower (n - 1)) ↔ 2 ^ n.toNat < 2 * low.toNat) ∧ (wCmp low (wPower (n - 1)) = 0 ↔ 2 * low.toNat = 2 ^ n.toNat) := by
    unfold wCmp
    by_cases he : low = wPower (n - 1)
    · rw [if_pos he, he, hp]
      omega
    · have hne : low.toNat ≠ (wPower (n - 1)).toNat := fun hh => he (BitVec.eq_of_toNat_eq hh)
      rw [if_neg he]
      split <;> omega
  simp only [hc.1, hc.2, hz]
set_option exponentiation.threshold 600 in
theorem low_full {s : W} : s.toNat % 2 ^ (512 : Int).toNat = s.toNat := Nat.mod_eq_of_lt s.isLt
set_option exponentiation.threshold 600 in
theorem low_part {s : W} {n : Int} (h : 0 ≤ n ∧ n ≤ 512) : (s - wShl (wShr s n) n).toNat = s.toNat % 2 ^ n.toNat := by
  rw [low_bits s h, BitVec.toNat_ofNat]
  exact Nat.mod_eq_of_lt (Nat.lt_of_le_of_lt (Nat.mod_le _ _) s.isLt)
/-! ## may a number be rounded to so many digits? -/
def rightN (p e : Int) (s : W) (more : Bool) : Bool := decide (1 ≤ p ∧ p ≤ 500) && (rgtE e && (decide (wLen s ≤ 511) && (!more || decide (p < wLen s))))
def rOk (f m e : Int) (s : W) (more : Bool) : Bool := fOk f && (isM m && rightN (fPrec f) e s more)
def rW (f m : Int) (b : Bool) (e : Int) (s : W) (more : Bool) : BitVec 128 := bif rOk f m e s more then (if s = 0 then fNought f b else rdW f m b (moreA s.toNat more) (moreG e more)) else 0
def rX (f m : Int) (b : Bool) (e : Int) (s : W) (more : Bool) : Int := bif rOk f m e s more then (if s = 0 then 0 else rdX f m b (moreA s.toNat more) (moreG e more)) else 0
def rE (f m e : Int) (s : W) (more : Bool) : Int := bif rOk f m e s more then 0 else 1
def joinW (f : Int) (b : Bool) (fld : Int) (s : W) : BitVec 128 := fWordOf f b (fld.toNat * 2 ^ (fPrec f - 1).toNat + s.toNat)
def joinOk (f fld : Int) (s : W) : Prop := (1 ≤ f ∧ f ≤ 4) ∧ 0 ≤ fld ∧ fld + ((s.toNat / 2 ^ (fPrec f - 1).toNat : Nat) : Int) ≤ 2 * fEMax f + 1
theorem join_leaf {f fld : Int} {s : W} (h : joinOk f fld s) (b : Bool) :
    limbR (wShr s (fPrec f - 1)) 0 = ((s.toNat / 2 ^ (fPrec f - 1).toNat : Nat) : Int) ∧ (s - wShl (wShr s (fPrec f - 1)) (fPrec f - 1)).toNat = s.toNat % 2 ^ (fPrec f - 1).toNat ∧
    mkOk f (fld + ((s.toNat / 2 ^ (fPrec f - 1).toNat : Nat) : Int)) (s - wShl (wShr s (fPrec f - 1)) (fPrec f - 1)) = true ∧
    mkW f b (fld + ((s.toNat / 2 ^ (fPrec f - 1).toNat : Nat) : Int)) (s - wShl (wShr s (fPrec f - 1)) (fPrec f - 1)) = joinW f b fld s := by
  obtain ⟨hf, h0, h1⟩ := h
  have hp := p_rng f hf
  have he := e_rng f hf
  have hq := shr_toNat s (n := fPrec f - 1) (by omega)
  have hl := low_part (s := s) (n := fPrec f - 1) (by omega)
  have hmo : mkOk f (fld + ((s.toNat / 2 ^ (fPrec f - 1).toNat : Nat) : Int)) (s - wShl (wShr s (fPrec f - 1)) (fPrec f - 1)) = true := by
    rw [mkOk_iff (by unfold fOk; exact decide_eq_true hf)]
    refine ⟨⟨by omega, h1⟩, ?_⟩
    have := wLen_lt (a := s - wShl (wShr s (fPrec f - 1)) (fPrec f - 1)) (k := (fPrec f - 1).toNat) (by omega)
    rw [show (((fPrec f - 1).toNat : Nat) : Int) = fPrec f - 1 by omega] at this
    rw [this, hl]
    exact Nat.mod_lt _ (Nat.two_pow_pos _)
  refine ⟨?_, hl, hmo, ?_⟩
  · unfold limbR
    rw [hq, Nat.mul_zero, Nat.pow_zero, Nat.div_one, Nat.mod_eq_of_lt (by omega)]
  · unfold mkW joinW
    rw [hmo, cond_true, hl]
    congr 1
    have e1 : (fld + ((s.toNat / 2 ^ (fPrec f - 1).toNat : Nat) : Int)).toNat = fld.toNat + s.toNat / 2 ^ (fPrec f - 1).toNat := by omega
    rw [e1, Nat.add_mul]
    have := Nat.div_add_mod s.toNat (2 ^ (fPrec f - 1).toNat)
    rw [Nat.mul_comm] at this
    omega
end Go.LE
namespace Go.LE
open Go
/-! ## with the divisor's sign turned -/
theorem turn_word {f : Int} (hf : 1 ≤ f ∧ f ≤ 4) {n : Nat} (hn : n < halfN f) (s : Bool) : sgn f (fWordOf f s n) (!wNeg f (fWordOf f s n)) = fWordOf f (!s) n := by
  have := wOf_flip hf hn s
  have h2 := wOf_fits hf hn s
  unfold wFlip at this
  rw [h2, cond_true] at this
  rw [wneg_fits h2, this]
end Go.LE
namespace Go.LE
open Go
/-! ## a product, digit by digit -/
end Go.LE
namespace Go.LE
open Go
/-! ## numbers within reach -/
def okR (a : Nat) (g : Int) : Prop := a ≠ 0 ∧ bitN a ≤ 1048576 ∧ -134217728 ≤ g ∧ g ≤ 134217728
end Go.LE
namespace Go.LE
open Go
/-! ## a number's highest digits, as they are packed -/
def dgPl (p e : Int) (s : W) : Int := e + wLen s - p
def dgW (p m : Int) (b : Bool) (e : Int) (s : W) (more : Bool) : W := if dgPl p e s ≤ e then s else cutW s (dgPl p e s - e) more m b
def dgP (p e : Int) (s : W) : Int := if dgPl p e s ≤ e then e else dgPl p e s
def dgX (p m e : Int) (s : W) (more : Bool) : Bool := if dgPl p e s ≤ e then more else cutX s (dgPl p e s - e) more m
def atW (p m : Int) (b : Bool) (e : Int) (s : W) (more : Bool) : W := if p - e ≤ 0 then wShl s (e - p) else cutW s (p - e) more m b
def atX (p m e : Int) (s : W) (more : Bool) : Bool := if p - e ≤ 0 then more else cutX s (p - e) more m
theorem max_word (f : Int) (hf : 1 ≤ f ∧ f ≤ 4) (b : Bool) : fMax f b = fWordOf f b (infN f - 1) := by
  unfold fMax infN
  have h1 := Nat.two_pow_pos (fPrec f - 1).toNat
  have hp := p_rng f hf
  have h2 : 2 ≤ 2 ^ (fField f).toNat := by
    have : 2 ^ 1 ≤ 2 ^ (fField f).toNat := Nat.pow_le_pow_right (by decide) (by rcases f_cases hf with rfl | rfl | rfl | rfl <;> decide)
    omega
  congr 1
  have e : 2 ^ (fField f).toNat - 1 = (2 ^ (fField f).toNat - 2) + 1 := by omega
  rw [e, Nat.add_mul]
  omega
theorem right_parts {p e : Int} {s : W} {more : Bool} (h : rightN p e s more = true) : (1 ≤ p ∧ p ≤ 500) ∧ (-1048576 ≤ e ∧ e ≤ 1048576) ∧ wLen s ≤ 511 ∧ (more = true → p < wLen s) := by
  unfold rightN rgtE at h
  simp only [Bool.and_eq_true, decide_eq_true_eq, Bool.or_eq_true, Bool.not_eq_true'] at h
  obtain ⟨h1, h2, h3, h4⟩ := h
  refine ⟨h1, h2, h3, fun hm => ?_⟩
  rcases h4 with h4 | h4
  · rw [hm] at h4; cases h4
  · exact h4
theorem ro_parts {f m e : Int} {s : W} {more : Bool} (h : rOk f m e s more = true) : (1 ≤ f ∧ f ≤ 4) ∧ isM m = true ∧ rightN (fPrec f) e s more = true := by
  unfold rOk at h
  simp only [Bool.and_eq_true] at h
  exact ⟨of_decide_eq_true h.1, h.2.1, h.2.2⟩
theorem top_wide (s : W) (e : Int) : topQ s.toNat e = e + wLen s - 1 := by unfold topQ; rw [bitN_wLen]
theorem up_exact {m : Int} {b : Bool} {a : Nat} {g p : Int} (h : p ≤ g) : upQ m b a g p = a * 2 ^ (g - p).toNat ∧ restQ a g p = 0 ∧ floorQ a g p = a * 2 ^ (g - p).toNat := by
  have h1 : restQ a g p = 0 := by unfold restQ; rw [if_pos h]
  have h2 : floorQ a g p = a * 2 ^ (g - p).toNat := by unfold floorQ; rw [if_pos h]
  refine ⟨?_, h1, h2⟩
  unfold upQ
  rw [h1, h2, grows_zero]
  rfl
/-- the digits, and where they stand -/
theorem dg_facts {p m e : Int} {s : W} {more : Bool} (hm : isM m = true) (hr : rightN p e s more = true) (hs : s ≠ 0) (b : Bool) :
    topQ (moreA s.toNat more) (moreG e more) - p + 1 = dgPl p e s ∧ moreA s.toNat more ≠ 0 ∧
    (dgPl p e s ≤ e → more = false ∧ dgW p m b e s more = s ∧ dgP p e s = e ∧ dgX p m e s more = false ∧ upQ m b (moreA s.toNat more) (moreG e more) (dgPl p e s) = s.toNat * 2 ^ (e - dgPl p e s).toNat ∧ restQ (moreA s.toNat more) (moreG e more) (dgPl p e s) = 0) ∧
    (e < dgPl p e s → (dgW p m b e s more).toNat = upQ m b (moreA s.toNat more) (moreG e more) (dgPl p e s) ∧ dgP p e s = dgPl p e s ∧ dgX p m e s more = !decide (restQ (moreA s.toNat more) (moreG e more) (dgPl p e s) = 0)) := by
  obtain ⟨r1, r2, r3, r4⟩ := right_parts hr
  have hn : s.toNat ≠ 0 := fun hh => hs (by rw [w_zero]; exact hh)
  obtain ⟨t1, t2⟩ := more_top hn e more
  have tw := top_wide s e
  refine ⟨by rw [t1, tw]; unfold dgPl; omega, t2, fun h => ?_, fun h => ?_⟩
  · have hmf : more = false := by
      cases more with
      | false => rfl
      | true => have := r4 rfl; unfold dgPl at h; omega
    subst hmf
    obtain ⟨u1, u2, _⟩ := up_exact (m := m) (b := b) (a := s.toNat) h
    unfold dgW dgP dgX
    rw [if_pos h, if_pos h, if_pos h]
    exact ⟨rfl, rfl, rfl, rfl, u1, u2⟩
  · have hn1 : 1 ≤ dgPl p e s - e := by omega
    have c1 := cutW_nat (s := s) (more := more) (neg := b) hm hn1 e
    have c2 := cutX_rest (s := s) (more := more) hm hn1 e
    rw [show e + (dgPl p e s - e) = dgPl p e s by omega] at c1 c2
    unfold dgW dgP dgX
    rw [if_neg (by omega), if_neg (by omega), if_neg (by omega)]
    exact ⟨c1, rfl, c2⟩
set_option exponentiation.threshold 600 in
theorem shl_exact {s : W} {n : Int} {k : Nat} (h0 : 0 ≤ n) (hn : n ≤ 512) (hk : k ≤ 512) (h : s.toNat * 2 ^ n.toNat < 2 ^ k) : (wShl s n).toNat = s.toNat * 2 ^ n.toNat :=
  shl_small ⟨h0, hn⟩ (Nat.lt_of_lt_of_le h (Nat.pow_le_pow_right (by decide) hk))
/-- as it is packed it is rounded -/
theorem pk_facts {f m e : Int} {s : W} {more : Bool} (ho : rOk f m e s more = true) (hs : s ≠ 0) (b : Bool) :
    dgP (fPrec f) e s + wLen (dgW (fPrec f) m b e s more) - 1 = rdT f m b (moreA s.toNat more) (moreG e more) ∧
    (-1048576 ≤ rdT f m b (moreA s.toNat more) (moreG e more) ∧ rdT f m b (moreA s.toNat more) (moreG e more) ≤ 1049600) ∧
    (-1049600 ≤ dgP (fPrec f) e s ∧ dgP (fPrec f) e s ≤ 1049600) ∧
    dgX (fPrec f) m e s more = !decide (restQ (moreA s.toNat more) (moreG e more) (topQ (moreA s.toNat more) (moreG e more) - fPrec f + 1) = 0) ∧
    (fEMax f < rdT f m b (moreA s.toNat more) (moreG e more) → (bif overInf m b then fInf f b else fMax f b) = rdW f m b (moreA s.toNat more) (moreG e more)) ∧
    (rdT f m b (moreA s.toNat more) (moreG e more) < 1 - fEMax f → joinOk f 0 (atW (expO f) m b e s more) ∧ joinW f b 0 (atW (expO f) m b e s more) = rdW f m b (moreA s.toNat more) (moreG e more) ∧ atX (expO f) m e s more = !decide (restQ (moreA s.toNat more) (moreG e more) (expO f) = 0)) ∧
    (1 - fEMax f ≤ rdT f m b (moreA s.toNat more) (moreG e more) → rdT f m b (moreA s.toNat more) (moreG e more) ≤ fEMax f → ∀ by_ : Int, by_ = dgP (fPrec f) e s - (rdT f m b (moreA s.toNat more) (moreG e more) - fPrec f + 1) →
      joinOk f (rdT f m b (moreA s.toNat more) (moreG e more) - (1 - fEMax f)) (wShr (wShl (dgW (fPrec f) m b e s more) by_) (-by_)) ∧
      joinW f b (rdT f m b (moreA s.toNat more) (moreG e more) - (1 - fEMax f)) (wShr (wShl (dgW (fPrec f) m b e s more) by_) (-by_)) = rdW f m b (moreA s.toNat more) (moreG e more)) := by
  obtain ⟨hf, hm, hr⟩ := ro_parts ho
  obtain ⟨r1, r2, r3, r4⟩ := right_parts hr
  obtain ⟨d1, d2, d3, d4⟩ := dg_facts hm hr hs b
  have hp := p_rng f hf
  have he := e_rng f hf
  have hn : s.toNat ≠ 0 := fun hh => hs (by rw [w_zero]; exact hh)
  have hb1 := bitN_pos hn
  have hw : wLen s = ((bitN s.toNat : Nat) : Int) := (bitN_wLen s).symm
  obtain ⟨t1, _⟩ := more_top hn e more
  have tw := top_wide s e
  have htwo := rdT_two hf d2 (moreG e more) m b
  have hrng := rdU_rng hf d2 (moreG e more) m b
  have hU : rdU f m b (moreA s.toNat more) (moreG e more) = upQ m b (moreA s.toNat more) (moreG e more) (dgPl (fPrec f) e s) := by unfold rdU; rw [d1]
  have hTd : rdT f m b (moreA s.toNat more) (moreG e more) = topQ (moreA s.toNat more) (moreG e more) - fPrec f + (bitN (rdU f m b (moreA s.toNat more) (moreG e more)) : Int) := rfl
  have hnorm := fun h1 h2 => rd_normal hf d2 (g := moreG e more) (m := m) (neg := b) h1 h2
  have hsub := fun h => rd_sub hf d2 (g := moreG e more) (m := m) (neg := b) h
  have hW : rdW f m b (moreA s.toNat more) (moreG e more) = fWordOf f b (rdMag f m b (moreA s.toNat more) (moreG e more)) := rfl
  have hM : rdMag f m b (moreA s.toNat more) (moreG e more) = if fEMax f < rdT f m b (moreA s.toNat more) (moreG e more) then (bif overInf m b then infN f else infN f - 1) else rdMag f m b (moreA s.toNat more) (moreG e more) := by
    unfold rdMag; split <;> rfl
  have htp := two_prec hf
  have hpl : dgPl (fPrec f) e s = e + wLen s - fPrec f := rfl
  have hH := Nat.two_pow_pos (fPrec f - 1).toNat
  rw [hW]
  rw [d1]
  generalize hA : moreA s.toNat more = A at *
  generalize hG : moreG e more = G at *
  generalize hu : rdU f m b A G = u at *
  generalize hT : rdT f m b A G = T at *
  generalize hMg : rdMag f m b A G = M at *
  have top1 : dgP (fPrec f) e s + wLen (dgW (fPrec f) m b e s more) - 1 = T := by
    by_cases h : dgPl (fPrec f) e s ≤ e
    · obtain ⟨k1, k2, k3, k4, k5, k6⟩ := d3 h
      rw [k3, k2]
      have : u < 2 ^ (fPrec f).toNat := by
        rw [hU, k5]
        have hb := (bitN_rng hn).2.1
        have e2 : 2 ^ (fPrec f).toNat = 2 ^ bitN s.toNat * 2 ^ (e - dgPl (fPrec f) e s).toNat := by rw [← Nat.pow_add]; congr 1; omega
        rw [e2]
        exact Nat.mul_lt_mul_of_pos_right hb (Nat.two_pow_pos _)
      omega
    · obtain ⟨k1, k2, k3⟩ := d4 (by omega)
      rw [k2, ← bitN_wLen, k1, ← hU]
      omega
  refine ⟨top1, by omega, ?_, ?_, fun h => ?_, fun h => ?_, fun h1 h2 by_ hby => ?_⟩
  · unfold dgP; split <;> omega
  · by_cases h : dgPl (fPrec f) e s ≤ e
    · obtain ⟨k1, k2, k3, k4, k5, k6⟩ := d3 h
      rw [k4, k6]; rfl
    · exact (d4 (by omega)).2.2
  · rw [hM, if_pos h]
    cases overInf m b
    · exact max_word f hf b
    · rfl
  · obtain ⟨s1, s2, s3, s4, s5⟩ := hsub h
    have hexp : expO f = 2 - fEMax f - fPrec f := rfl
    have hat : (atW (expO f) m b e s more).toNat = upQ m b A G (expO f) ∧ atX (expO f) m e s more = !decide (restQ A G (expO f) = 0) := by
      by_cases hx : expO f ≤ e
      · have hmf : more = false := by
          cases more with
          | false => rfl
          | true => have := r4 rfl; omega
        subst hmf
        have hA' : s.toNat = A := hA
        have hG' : e = G := hG
        subst hA' hG'
        obtain ⟨u1, u2, u3⟩ := up_exact (m := m) (b := b) (a := s.toNat) hx
        have hfl := floor_low hn (g := e) (p := expO f) (P := (fPrec f).toNat) (by omega)
        rw [u3] at hfl
        unfold atW atX
        rw [if_pos (by omega), if_pos (by omega), u1, u2]
        refine ⟨shl_exact (by omega) (by omega) (by omega) hfl, rfl⟩
      · have hn1 : 1 ≤ expO f - e := by omega
        have c1 := cutW_nat (s := s) (more := more) (neg := b) hm hn1 e
        have c2 := cutX_rest (s := s) (more := more) hm hn1 e
        rw [show e + (expO f - e) = expO f by omega, hA, hG] at c1 c2
        unfold atW atX
        rw [if_neg (by omega), if_neg (by omega)]
        exact ⟨c1, c2⟩
    refine ⟨⟨hf, Int.le_refl _, ?_⟩, ?_, hat.2⟩
    · rw [hat.1, ← s1]
      have : M / 2 ^ (fPrec f - 1).toNat ≤ 1 := by
        rw [Nat.div_le_iff_le_mul_add_pred hH]; omega
      omega
    · unfold joinW
      rw [hat.1, ← s1, show (0 : Int).toNat = 0 from rfl, Nat.zero_mul, Nat.zero_add]
  · obtain ⟨n1, n2, n3, n4⟩ := hnorm h2 h1
    have key : ∃ N, (wShr (wShl (dgW (fPrec f) m b e s more) by_) (-by_)).toNat = N ∧ N < 2 ^ (fPrec f).toNat ∧ 2 ^ (fPrec f - 1).toNat ≤ N ∧ (M : Int) = (T - (1 - fEMax f)) * ((2 ^ (fPrec f - 1).toNat : Nat) : Int) + (N : Int) := by
      by_cases h : dgPl (fPrec f) e s ≤ e
      · obtain ⟨k1, k2, k3, k4, k5, k6⟩ := d3 h
        have hult : u < 2 ^ (fPrec f).toNat := by
          rw [hU, k5]
          have hb := (bitN_rng hn).2.1
          have e2 : 2 ^ (fPrec f).toNat = 2 ^ bitN s.toNat * 2 ^ (e - dgPl (fPrec f) e s).toNat := by rw [← Nat.pow_add]; congr 1; omega
          rw [e2]
          exact Nat.mul_lt_mul_of_pos_right hb (Nat.two_pow_pos _)
        have hbe : by_ = e - dgPl (fPrec f) e s := by rw [hby, k3]; omega
        refine ⟨u, ?_, hult, hrng.1, n3 hult⟩
        rw [wShr_neg _ (by omega), k2, hU, k5, hbe]
        refine shl_exact (k := (fPrec f).toNat) (by omega) (by omega) (by omega) ?_
        rw [← k5, ← hU]; exact hult
      · obtain ⟨k1, k2, k3⟩ := d4 (by omega)
        have hbe : by_ = topQ A G - T := by rw [hby, k2]; omega
        rw [wShl_neg _ (by omega)]
        rcases htwo with ⟨w1, w2⟩ | ⟨w1, w2⟩
        · refine ⟨u, ?_, w1, hrng.1, n3 w1⟩
          rw [wShr_neg _ (by omega), k1, hU]
        · refine ⟨2 ^ (fPrec f - 1).toNat, ?_, by omega, Nat.le_refl _, n4 w1⟩
          rw [hbe, w2, show -(topQ A G - (topQ A G + 1)) = 1 by omega, shr_half, k1, ← hU, w1, htp]
          omega
    obtain ⟨N, q1, q2, q3, q4⟩ := key
    have hq : N / 2 ^ (fPrec f - 1).toNat = 1 := Nat.div_eq_of_lt_le (by omega) (by omega)
    refine ⟨⟨hf, by omega, ?_⟩, ?_⟩
    · rw [q1, hq]; omega
    · unfold joinW
      rw [q1]
      congr 1
      obtain ⟨D, hD⟩ : ∃ D : Nat, T - (1 - fEMax f) = (D : Int) := ⟨(T - (1 - fEMax f)).toNat, by omega⟩
      rw [hD, ← Int.natCast_mul] at q4
      rw [hD, Int.toNat_natCast]
      omega
end Go.LE
namespace Go.LE
open Go
/-! ## rounded to digits: without noughts at its end -/
def dOk (m p e : Int) (s : W) (more : Bool) : Bool := isM m && rightN p e s more
def ddN (m p : Int) (b : Bool) (e : Int) (s : W) (more : Bool) : Bool := dOk m p e s more && b
def ddE (m p : Int) (b : Bool) (e : Int) (s : W) (more : Bool) : Int := bif dOk m p e s more then (if s = 0 then 0 else dgP p e s + (tzN (dgW p m b e s more).toNat : Int)) else 0
def ddS (m p : Int) (b : Bool) (e : Int) (s : W) (more : Bool) : W := bif dOk m p e s more then (if s = 0 then 0 else wShr (dgW p m b e s more) (tzN (dgW p m b e s more).toNat : Int)) else 0
def ddX (m p e : Int) (s : W) (more : Bool) : Bool := dOk m p e s more && (!decide (s = 0) && dgX p m e s more)
def ddR (m p e : Int) (s : W) (more : Bool) : Int := bif dOk m p e s more then 0 else 1
/-! ## a word's own number -/
theorem rd_own {f : Int} {w : BitVec 128} (h : wFin f w = true) (hz : vSig f w ≠ 0) (m : Int) (b : Bool) :
    rdMag f m b (vSig f w).toNat (vExp f w) = magN f w ∧ rdX f m b (vSig f w).toNat (vExp f w) = 0 := by
  obtain ⟨hF, hf⟩ := fin_fits h
  have hp := p_rng f hf
  have he := e_rng f hf
  obtain ⟨h0, h1, _⟩ := fin_fld h
  obtain ⟨m1, m2⟩ := vMag h
  have hlt := vSig_lt h
  have hn : (vSig f w).toNat ≠ 0 := fun hh => hz (by rw [w_zero]; exact hh)
  have hb : bitN (vSig f w).toNat ≤ (fPrec f).toNat := bitN_le.2 hlt
  have hx : vExp f w = (if bFld f w > 0 then bFld f w - 1 else bFld f w) + (1 - fEMax f) - fPrec f + 1 := by
    conv => lhs; unfold vExp
    rw [h, cond_true]
  have hxe : vExp f w ≤ fEMax f - fPrec f + 1 := by
    rw [hx]; split <;> omega
  obtain ⟨i1, i2, i3, i4⟩ := fin_mag h
  have hexp : expO f = 2 - fEMax f - fPrec f := rfl
  have htwo := rdT_two hf hn (vExp f w) m b
  have hpl : topQ (vSig f w).toNat (vExp f w) - fPrec f + 1 ≤ vExp f w := by unfold topQ; omega
  obtain ⟨u1, u2, _⟩ := up_exact (m := m) (b := b) (a := (vSig f w).toNat) hpl
  obtain ⟨x1, x2, _⟩ := up_exact (m := m) (b := b) (a := (vSig f w).toNat) m1
  have hU : rdU f m b (vSig f w).toNat (vExp f w) = (vSig f w).toNat * 2 ^ (vExp f w - (topQ (vSig f w).toNat (vExp f w) - fPrec f + 1)).toNat := u1
  have hult : rdU f m b (vSig f w).toNat (vExp f w) < 2 ^ (fPrec f).toNat := by
    rw [hU]
    have hb2 := (bitN_rng hn).2.1
    have hb3 := bitN_pos hn
    have e2 : 2 ^ (fPrec f).toNat = 2 ^ bitN (vSig f w).toNat * 2 ^ (vExp f w - (topQ (vSig f w).toNat (vExp f w) - fPrec f + 1)).toNat := by
      rw [← Nat.pow_add]; congr 1; unfold topQ; omega
    rw [e2]
    exact Nat.mul_lt_mul_of_pos_right hb2 (Nat.two_pow_pos _)
  have hT : rdT f m b (vSig f w).toNat (vExp f w) = topQ (vSig f w).toNat (vExp f w) := by omega
  have hTm : rdT f m b (vSig f w).toNat (vExp f w) ≤ fEMax f := by rw [hT]; unfold topQ; omega
  have hfm : ∀ {v : Nat} {pl : Int}, pl ≤ vExp f w → v = (vSig f w).toNat * 2 ^ (vExp f w - pl).toNat → findM f v pl = magN f w := by
    intro v pl hpl hv
    refine findM_eq hf i2 ((size_of hf i2 false (k := min (expO f) pl) (by omega) (by omega)).1.2 ?_)
    rw [← m2, hv, Nat.mul_assoc, Nat.mul_assoc, ← Nat.pow_add, ← Nat.pow_add]
    congr 2
    omega
  by_cases hs : rdT f m b (vSig f w).toNat (vExp f w) < 1 - fEMax f
  · obtain ⟨s1, s2, s3, s4, s5⟩ := rd_sub hf hn hs
    refine ⟨?_, ?_⟩
    · rw [← s4]
      exact hfm m1 x1
    · unfold rdX
      rw [if_neg (by omega), if_pos hs, if_pos x2]
  · obtain ⟨n1, n2, _, _⟩ := rd_normal hf hn hTm (by omega)
    refine ⟨?_, ?_⟩
    · rw [← n2]
      exact hfm hpl hU
    · unfold rdX
      rw [if_neg (by omega), if_neg hs, if_pos u2]
theorem own_right {f : Int} {w : BitVec 128} (h : wFin f w = true) {m : Int} (hm : isM m = true) : rOk f m (vExp f w) (vSig f w) false = true := by
  obtain ⟨hF, hf⟩ := fin_fits h
  have hp := p_rng f hf
  have hr := vExp_rng h
  have hlt := vSig_lt h
  have hb : bitN (vSig f w).toNat ≤ (fPrec f).toNat := bitN_le.2 hlt
  have hw : wLen (vSig f w) = ((bitN (vSig f w).toNat : Nat) : Int) := (bitN_wLen _).symm
  unfold rOk rightN rgtE
  rw [hm]
  simp only [Bool.and_eq_true, decide_eq_true_eq, Bool.or_eq_true, Bool.not_eq_true', Bool.not_false, true_or, and_true, true_and]
  exact ⟨decide_eq_true hf, ⟨by omega, by omega⟩, ⟨by omega, by omega⟩, by omega⟩
theorem own_round {f : Int} {w : BitVec 128} (h : wFin f w = true) {m : Int} (hm : isM m = true) :
    rW f m (vNeg f w) (vExp f w) (vSig f w) false = w ∧ rX f m (vNeg f w) (vExp f w) (vSig f w) false = 0 ∧ rE f m (vExp f w) (vSig f w) false = 0 := by
  have ho := own_right h hm
  obtain ⟨hF, hf⟩ := fin_fits h
  have hv : vNeg f w = wNeg f w := by unfold vNeg; rw [h]; rfl
  unfold rW rX rE
  rw [ho, cond_true, cond_true, cond_true]
  by_cases hz : vSig f w = 0
  · rw [if_pos hz, if_pos hz]
    refine ⟨?_, rfl, rfl⟩
    have h6 := (vSig_zero h).1 hz
    have hmz := (cls_mag hF).2.2.2.1 h6
    rw [hv]
    have := w_own hF
    rw [hmz] at this
    exact this.symm
  · rw [if_neg hz, if_neg hz]
    obtain ⟨r1, r2⟩ := rd_own h hz m (vNeg f w)
    show fWordOf f (vNeg f w) (rdMag f m (vNeg f w) (vSig f w).toNat (vExp f w)) = w ∧ rdX f m (vNeg f w) (vSig f w).toNat (vExp f w) = 0 ∧ _
    rw [r1, r2, hv]
    exact ⟨(w_own hF).symm, rfl, rfl⟩
end Go.LE