import Derived.Test.YtbbggnihogcjcaaLeR
set_option linter.unusedVariables false
set_option linter.unusedSimpArgs false
namespace Go.LE
open Go
/-! ## lists of limbs -/
def rng64 (l : List Int) : Prop := ∀ x ∈ l, 0 ≤ x ∧ x < 18446744073709551616
theorem rng64_cons {x : Int} {l : List Int} (h : rng64 (x :: l)) : (0 ≤ x ∧ x < 18446744073709551616) ∧ rng64 l := ⟨h x (by simp), fun y hy => h y (by simp [hy])⟩
theorem rng64_take {l : List Int} (h : rng64 l) (k : Nat) : rng64 (l.take k) := fun x hx => h x (List.mem_of_mem_take hx)
theorem rng64_get {l : List Int} (h : rng64 l) (i : Nat) : 0 ≤ l.getD i 0 ∧ l.getD i 0 < 18446744073709551616 := by
  rw [List.getD_eq_getElem?_getD]
  cases hh : l[i]? with
  | none => simp
  | some x => exact h x (List.mem_of_getElem? hh)
theorem rng64_set {l : List Int} (h : rng64 l) {x : Int} (hx : 0 ≤ x ∧ x < 18446744073709551616) (i : Nat) : rng64 (l.set i x) := fun y hy => by
  rcases List.mem_or_eq_of_mem_set hy with hy | rfl
  · exact h y hy
  · exact hx
theorem rng64_of {l : List Int} (h : ∀ n ∈ l, IntKind.u64.min ≤ n ∧ n ≤ IntKind.u64.max) : rng64 l := fun x hx => by
  have := h x hx
  simp only [IntKind.min, IntKind.max, IntKind.signed, IntKind.bits] at this
  simp at this
  omega
/-- a number's limb of a place -/
def limA (n i : Nat) : Int := ((n / 2 ^ (64 * i) % 18446744073709551616 : Nat) : Int)
theorem limA_rng (n i : Nat) : 0 ≤ limA n i ∧ limA n i < 18446744073709551616 := by
  unfold limA
  have := Nat.mod_lt (n / 2 ^ (64 * i)) (show 0 < 18446744073709551616 by decide)
  omega
theorem val64_get : ∀ (l : List Int) (i : Nat), rng64 l → l.getD i 0 = limA (val64 l) i
  | [], i, _ => by simp [limA, val64]
  | x :: l, 0, h => by
    obtain ⟨hx, _⟩ := rng64_cons h
    unfold limA
    simp only [List.getD_cons_zero, val64, Nat.mul_zero, Nat.pow_zero, Nat.div_one]
    omega
  | x :: l, i + 1, h => by
    obtain ⟨hx, hr⟩ := rng64_cons h
    rw [List.getD_cons_succ, val64_get l i hr]
    unfold limA
    rw [val64, show 64 * (i + 1) = 64 + 64 * i by omega, Nat.pow_add, ← Nat.div_div_eq_div_mul]
    have : (x.toNat + 18446744073709551616 * val64 l) / 2 ^ 64 = val64 l := by omega
    rw [this]
theorem val64_lt : ∀ (l : List Int), rng64 l → val64 l < 2 ^ (64 * l.length)
  | [], _ => by simp [val64]
  | x :: l, h => by
    obtain ⟨hx, hr⟩ := rng64_cons h
    have := val64_lt l hr
    rw [val64, List.length_cons, show 64 * (l.length + 1) = 64 + 64 * l.length by omega, Nat.pow_add]
    omega
theorem val64_zero : ∀ (l : List Int), (∀ i, l.getD i 0 = 0) → val64 l = 0
  | [], _ => rfl
  | x :: l, h => by
    have h0 := h 0
    rw [val64, val64_zero l fun i => by have := h (i + 1); simpa using this]
    simp at h0; subst h0; rfl
theorem val64_take (l : List Int) (k : Nat) (h : ∀ i, k ≤ i → l.getD i 0 = 0) : val64 (l.take k) = val64 l := by
  conv => rhs; rw [← List.take_append_drop k l, val64_append]
  rw [val64_zero (l.drop k) fun i => by
    have := h (k + i) (by omega)
    rw [List.getD_eq_getElem?_getD] at this ⊢
    rwa [List.getElem?_drop]]
  simp
theorem mod_limb (n i : Nat) : n % 2 ^ (64 * (i + 1)) = n % 2 ^ (64 * i) + 2 ^ (64 * i) * (limA n i).toNat := by
  unfold limA
  rw [Int.toNat_natCast, show 64 * (i + 1) = 64 * i + 64 by omega, Nat.pow_add, Nat.mod_mul]
/-- a list of a number's limbs -/
theorem val64_limbs {l : List Int} {n : Nat} (h : ∀ j, j < l.length → l.getD j 0 = limA n j) : val64 l = n % 2 ^ (64 * l.length) := by
  have key : ∀ k, k ≤ l.length → val64 (l.take k) = n % 2 ^ (64 * k) := fun k => by
    induction k with
    | zero => intro _; simp [val64, Nat.mod_one]
    | succ k ih =>
      intro hk
      rw [val64_take_succ l k (by omega), ih (by omega), mod_limb, h k (by omega)]
  have := key l.length (Nat.le_refl _)
  rwa [List.take_length] at this
/-- .. without noughts at its end -/
def lims : Nat → Nat → List Int
  | 0, _ => []
  | f + 1, n => if n = 0 then [] else ((n % 18446744073709551616 : Nat) : Int) :: lims f (n / 18446744073709551616)
def lim (n : Nat) : List Int := lims n n
theorem lims_eq : ∀ (f g n : Nat), n ≤ f → n ≤ g → lims f n = lims g n
  | 0, 0, n, _, _ => rfl
  | 0, g + 1, n, h, _ => by
    have : n = 0 := by omega
    subst this; simp [lims]
  | f + 1, 0, n, _, h => by
    have : n = 0 := by omega
    subst this; simp [lims]
  | f + 1, g + 1, n, h1, h2 => by
    unfold lims
    split
    · rfl
    · rename_i hn
      rw [lims_eq f g (n / 18446744073709551616) (by omega) (by omega)]
theorem lim_zero : lim 0 = [] := rfl
theorem lim_rec {n : Nat} (h : n ≠ 0) : lim n = ((n % 18446744073709551616 : Nat) : Int) :: lim (n / 18446744073709551616) := by
  have e : lim n = lims ((n - 1) + 1) n := by unfold lim; rw [show n - 1 + 1 = n by omega]
  rw [e]
  conv => lhs; unfold lims
  rw [if_neg h, lims_eq (n - 1) (n / 18446744073709551616) _ (by omega) (Nat.le_refl _)]
  rfl
theorem val64_lim (n : Nat) : val64 (lim n) = n := by
  induction n using Nat.strongRecOn with
  | _ n ih =>
    by_cases h : n = 0
    · subst h; rfl
    · rw [lim_rec h, val64, ih (n / 18446744073709551616) (by omega)]
      simp only [Int.toNat_natCast]
      omega
theorem lim_inj {a b : Nat} (h : lim a = lim b) : a = b := by rw [← val64_lim a, h, val64_lim]
theorem rng64_lim (n : Nat) : rng64 (lim n) := by
  induction n using Nat.strongRecOn with
  | _ n ih =>
    by_cases h : n = 0
    · subst h; intro x hx; simp [lim_zero] at hx
    · rw [lim_rec h]
      intro x hx
      rcases List.mem_cons.1 hx with rfl | hx
      · omega
      · exact ih _ (by omega) x hx
theorem lim_ne {n : Nat} (h : n ≠ 0) : lim n ≠ [] := by rw [lim_rec h]; simp
theorem lim_val : ∀ (l : List Int), rng64 l → (∀ h : l ≠ [], l.getLast h ≠ 0) → lim (val64 l) = l
  | [], _, _ => rfl
  | x :: l, hr, hl => by
    obtain ⟨hx, hr⟩ := rng64_cons hr
    have ih := lim_val l hr fun h => by have := hl (by simp); rwa [List.getLast_cons h] at this
    have hv : val64 (x :: l) ≠ 0 := by
      rw [val64]
      by_cases h : l = []
      · subst h
        have := hl (by simp)
        simp at this
        omega
      · have : val64 l ≠ 0 := fun h0 => by rw [h0] at ih; exact h ih.symm
        omega
    rw [lim_rec hv, val64]
    have e1 : (x.toNat + 18446744073709551616 * val64 l) % 18446744073709551616 = x.toNat := by omega
    have e2 : (x.toNat + 18446744073709551616 * val64 l) / 18446744073709551616 = val64 l := by omega
    rw [e1, e2, ih, Int.toNat_of_nonneg hx.1]
theorem trim_lim {l : List Int} (hr : rng64 l) {k : Nat} (hk : k ≤ l.length) (h : ∀ i, k ≤ i → l.getD i 0 = 0) (hl : k = 0 ∨ l.getD (k - 1) 0 ≠ 0) : l.take k = lim (val64 l) := by
  rw [← val64_take l k h]
  refine (lim_val _ (rng64_take hr k) fun hne => ?_).symm
  have hk0 : k ≠ 0 := fun e => by subst e; simp at hne
  have hl := hl.resolve_left hk0
  rw [List.getD_eq_getElem?_getD] at hl
  rw [List.getLast_eq_getElem]
  simp only [List.length_take, List.getElem_take, Nat.min_eq_left hk]
  rw [List.getElem?_eq_getElem (by omega)] at hl
  simpa using hl
theorem lim_len (k : Nat) : ∀ (n : Nat), (lim n).length ≤ k ↔ n < 2 ^ (64 * k) := by
  induction k with
  | zero =>
    intro n
    by_cases h : n = 0
    · subst h; simp [lim_zero]
    · rw [lim_rec h]; simp; omega
  | succ k ih =>
    intro n
    by_cases h : n = 0
    · subst h; simp [lim_zero, Nat.pow_pos]
    · rw [lim_rec h, List.length_cons, Nat.add_le_add_iff_right, ih, show 18446744073709551616 = 2 ^ 64 by rfl, Nat.div_lt_iff_lt_mul (Nat.pow_pos (by decide)), ← Nat.pow_add]
      rw [show 64 * k + 64 = 64 * (k + 1) by omega]
theorem lim_lt (n : Nat) : n < 2 ^ (64 * (lim n).length) := (lim_len _ n).1 (Nat.le_refl _)
theorem lim_get (n i : Nat) : (lim n).getD i 0 = limA n i := by rw [val64_get _ _ (rng64_lim n), val64_lim]
theorem lim_last {n : Nat} (h : n ≠ 0) : limA n ((lim n).length - 1) ≠ 0 := by
  intro h0
  have hp : 0 < (lim n).length := List.length_pos_iff.2 (lim_ne h)
  have h1 : ¬ n < 2 ^ (64 * ((lim n).length - 1)) := fun hh => by have := (lim_len _ n).2 hh; omega
  have h2 := lim_lt n
  have h3 := mod_limb n ((lim n).length - 1)
  rw [h0, show (lim n).length - 1 + 1 = (lim n).length by omega, Nat.mod_eq_of_lt h2] at h3
  have h4 := Nat.mod_lt n (Nat.two_pow_pos (64 * ((lim n).length - 1)))
  simp at h3
  omega
/-- how many digits a number has, by its limbs -/
theorem bitN_lim {n : Nat} (h : n ≠ 0) : bitN n = 64 * ((lim n).length - 1) + bitN (limA n ((lim n).length - 1)).toNat := by
  have hpos : 0 < (lim n).length := List.length_pos_iff.2 (lim_ne h)
  have h2 := lim_lt n
  have h5 := lim_last h
  have e : n / 2 ^ (64 * ((lim n).length - 1)) = (limA n ((lim n).length - 1)).toNat := by
    unfold limA
    rw [Int.toNat_natCast, Nat.mod_eq_of_lt]
    rw [show 18446744073709551616 = 2 ^ 64 by rfl, Nat.div_lt_iff_lt_mul (Nat.two_pow_pos _), ← Nat.pow_add]
    rwa [show 64 + 64 * ((lim n).length - 1) = 64 * (lim n).length by omega]
  have hr := limA_rng n ((lim n).length - 1)
  rw [← e]
  generalize (lim n).length - 1 = k at *
  have hq : 1 ≤ n / 2 ^ (64 * k) := by omega
  have hb : 0 < bitN (n / 2 ^ (64 * k)) := by unfold bitN; rw [if_neg (by omega)]; omega
  obtain ⟨g1, g2⟩ := (bitN_iff hb).1 rfl
  rw [bitN_iff (by omega)]
  constructor
  · have := (Nat.le_div_iff_mul_le (Nat.pow_pos (show 0 < 2 by decide))).1 g1
    rw [← Nat.pow_add] at this
    rwa [show 64 * k + bitN (n / 2 ^ (64 * k)) - 1 = bitN (n / 2 ^ (64 * k)) - 1 + 64 * k by omega]
  · have := (Nat.div_lt_iff_lt_mul (Nat.pow_pos (show 0 < 2 by decide))).1 g2
    rw [← Nat.pow_add] at this
    rwa [Nat.add_comm]
end Go.LE
namespace Go.LE
open Go
/-! ## a list's limb, nought beyond -/
def limZ (n : Nat) (j : Int) : Int := if j < 0 then 0 else limA n j.toNat
theorem limZ_rng (n : Nat) (j : Int) : 0 ≤ limZ n j ∧ limZ n j < 18446744073709551616 := by
  unfold limZ
  split
  · omega
  · exact limA_rng _ _
theorem limZ_nat (n i : Nat) : limZ n (i : Int) = limA n i := by unfold limZ; rw [if_neg (by omega)]; simp
theorem limZ_neg {n : Nat} {j : Int} (h : j < 0) : limZ n j = 0 := if_pos h
theorem limZ_ge {l : List Int} (hr : rng64 l) {j : Int} (h : ((l.length : Nat) : Int) ≤ j) : limZ (val64 l) j = 0 := by
  unfold limZ
  rw [if_neg (by omega), ← val64_get l _ hr, List.getD_eq_getElem?_getD, List.getElem?_eq_none (by omega)]
  rfl
theorem limZ_in {l : List Int} (hr : rng64 l) {j : Int} (h : 0 ≤ j) : limZ (val64 l) j = l.getD j.toNat 0 := by
  unfold limZ
  rw [if_neg (by omega), val64_get l _ hr]
theorem limA_bit (n i t : Nat) : (limA n i).toNat.testBit t = (decide (t < 64) && n.testBit (64 * i + t)) := by
  unfold limA
  rw [Int.toNat_natCast, show 18446744073709551616 = 2 ^ 64 by rfl, Nat.testBit_mod_two_pow, Nat.testBit_div_two_pow, Nat.add_comm t]
theorem limZ_bit (n : Nat) (j : Int) (t : Nat) : (limZ n j).toNat.testBit t = (decide (t < 64) && (decide (0 ≤ j) && n.testBit (64 * j.toNat + t))) := by
  unfold limZ
  split
  · rename_i h
    have : ¬ 0 ≤ j := by omega
    simp [this]
  · rename_i h
    have : 0 ≤ j := by omega
    rw [limA_bit]; simp [this]
theorem lim_shl (a : Nat) {m k r : Int} (hm : m = 64 * k + r) (hr : 0 ≤ r ∧ r < 64) (hk : 0 ≤ k) (i : Nat) :
    arithR .or .u64 (arithR .shl .u64 (limZ a (i - k)) r) (arithR .shr .u64 (limZ a (i - k - 1)) (64 - r)) = limA (a * 2 ^ m.toNat) i := by
  rw [shl_u64 (limZ_rng _ _) (by omega), shr_u64 (limZ_rng _ _) (by omega)]
  have hs : ((limZ a (i - k - 1)).toNat >>> (64 - r).toNat) < 18446744073709551616 := by
    rw [Nat.shiftRight_eq_div_pow]
    exact Nat.lt_of_le_of_lt (Nat.div_le_self _ _) (by have := limZ_rng a (i - k - 1); omega)
  have hs1 : (limZ a (i - k)).toNat <<< r.toNat % 2 ^ 64 < 18446744073709551616 := Nat.mod_lt _ (by decide)
  rw [or_u64 (nat_rng hs1) (nat_rng hs)]
  refine (int_of_bits (limA_rng _ _).1 fun t => ?_).symm
  rw [limA_bit, ← Nat.shiftLeft_eq]
  simp only [Int.toNat_natCast, Nat.testBit_or, Nat.testBit_mod_two_pow, Nat.testBit_shiftLeft, Nat.testBit_shiftRight, limZ_bit]
  by_cases ht : t < 64
  · have e1 : decide (t < 64) = true := by simp [ht]
    rw [e1, Bool.true_and, Bool.true_and]
    by_cases hrt : r.toNat ≤ t
    · have e3 : decide (r.toNat ≤ t) = true := by simp [hrt]
      have e4 : decide ((64 - r).toNat + t < 64) = false := by simp; omega
      have e5 : decide (t - r.toNat < 64) = true := by simp; omega
      simp only [ge_iff_le]
      rw [e3, e4, e5, Bool.true_and, Bool.true_and, Bool.false_and, Bool.or_false]
      by_cases h0 : (0 : Int) ≤ i - k
      · have e6 : decide ((0 : Int) ≤ i - k) = true := by simp; omega
        have e7 : decide (m.toNat ≤ 64 * i + t) = true := by simp; omega
        rw [e6, e7, Bool.true_and, Bool.true_and]
        congr 1; omega
      · have e6 : decide ((0 : Int) ≤ i - k) = false := by simp; omega
        have e7 : decide (m.toNat ≤ 64 * i + t) = false := by simp; omega
        rw [e6, e7, Bool.false_and, Bool.false_and]
    · have e3 : decide (r.toNat ≤ t) = false := by simp; omega
      have e4 : decide ((64 - r).toNat + t < 64) = true := by simp; omega
      simp only [ge_iff_le]
      rw [e3, e4, Bool.false_and, Bool.false_or, Bool.true_and]
      by_cases h0 : (0 : Int) ≤ i - k - 1
      · have e6 : decide ((0 : Int) ≤ i - k - 1) = true := by simp; omega
        have e7 : decide (m.toNat ≤ 64 * i + t) = true := by simp; omega
        rw [e6, e7, Bool.true_and, Bool.true_and]
        congr 1; omega
      · have e6 : decide ((0 : Int) ≤ i - k - 1) = false := by simp; omega
        have e7 : decide (m.toNat ≤ 64 * i + t) = false := by simp; omega
        rw [e6, e7, Bool.false_and, Bool.false_and]
  · have e1 : decide (t < 64) = false := by simp; omega
    have e4 : decide ((64 - r).toNat + t < 64) = false := by simp; omega
    rw [e1, e4]; simp
theorem lim_shr (a : Nat) {m k r : Int} (hm : m = 64 * k + r) (hr : 0 ≤ r ∧ r < 64) (hk : 0 ≤ k) (i : Nat) :
    arithR .or .u64 (arithR .shr .u64 (limZ a (i + k)) r) (arithR .shl .u64 (limZ a (i + k + 1)) (64 - r)) = limA (a / 2 ^ m.toNat) i := by
  rw [shr_u64 (limZ_rng _ _) (by omega), shl_u64 (limZ_rng _ _) (by omega)]
  have hs : ((limZ a (i + k)).toNat >>> r.toNat) < 18446744073709551616 := by
    rw [Nat.shiftRight_eq_div_pow]
    exact Nat.lt_of_le_of_lt (Nat.div_le_self _ _) (by have := limZ_rng a (i + k); omega)
  have hs1 : (limZ a (i + k + 1)).toNat <<< (64 - r).toNat % 2 ^ 64 < 18446744073709551616 := Nat.mod_lt _ (by decide)
  rw [or_u64 (nat_rng hs) (nat_rng hs1)]
  refine (int_of_bits (limA_rng _ _).1 fun t => ?_).symm
  rw [limA_bit, ← Nat.shiftRight_eq_div_pow]
  simp only [Int.toNat_natCast, Nat.testBit_or, Nat.testBit_mod_two_pow, Nat.testBit_shiftLeft, Nat.testBit_shiftRight, limZ_bit]
  by_cases ht : t < 64
  · have e1 : decide (t < 64) = true := by simp [ht]
    rw [e1, Bool.true_and, Bool.true_and]
    have e6 : decide ((0 : Int) ≤ i + k) = true := by simp; omega
    have e7 : decide ((0 : Int) ≤ i + k + 1) = true := by simp; omega
    rw [e6, e7, Bool.true_and, Bool.true_and]
    by_cases hrt : r.toNat + t < 64
    · have e3 : decide (r.toNat + t < 64) = true := by simp [hrt]
      have e4 : decide ((64 - r).toNat ≤ t) = false := by simp; omega
      simp only [ge_iff_le]
      rw [e3, e4, Bool.true_and, Bool.false_and, Bool.or_false]
      congr 1; omega
    · have e3 : decide (r.toNat + t < 64) = false := by simp; omega
      have e4 : decide ((64 - r).toNat ≤ t) = true := by simp; omega
      have e5 : decide (t - (64 - r).toNat < 64) = true := by simp; omega
      simp only [ge_iff_le]
      rw [e3, e4, e5, Bool.false_and, Bool.true_and, Bool.true_and, Bool.false_or]
      congr 1; omega
  · have e1 : decide (t < 64) = false := by simp; omega
    have e4 : decide (r.toNat + t < 64) = false := by simp; omega
    rw [e1, e4]; simp
/-! ## a list, made place by place -/
def outP (N : Nat) (V : Nat) (l : List Int) (i : Int) : Prop := l.length = N ∧ rng64 l ∧ 0 ≤ i ∧ i ≤ ((N : Nat) : Int) ∧ ∀ j : Nat, (j : Int) < i → l.getD j 0 = limA V j
theorem outP_zero (N V : Nat) : outP N V (List.replicate N 0) 0 := ⟨by simp, fun x hx => by rw [(List.mem_replicate.1 hx).2]; omega, by omega, by omega, fun j hj => by omega⟩
theorem outP_step {N V : Nat} {l : List Int} {i x : Int} (h : outP N V l i) (hi : i < ((N : Nat) : Int)) (hx : x = limA V i.toNat) : outP N V (l.set i.toNat x) (i + 1) := by
  obtain ⟨h1, h2, h3, h4, h5⟩ := h
  subst hx
  refine ⟨by simpa using h1, rng64_set h2 (limA_rng _ _) _, by omega, by omega, fun j hj => ?_⟩
  by_cases e : j = i.toNat
  · subst e
    rw [List.getD_eq_getElem?_getD, List.getElem?_set_self (by omega)]
    rfl
  · rw [List.getD_eq_getElem?_getD, List.getElem?_set_ne (by omega), ← List.getD_eq_getElem?_getD]
    exact h5 j (by omega)
theorem outP_end {N V : Nat} {l : List Int} {i : Int} (h : outP N V l i) (hi : ((N : Nat) : Int) ≤ i) (hV : V < 2 ^ (64 * N)) : val64 l = V := by
  obtain ⟨h1, h2, h3, h4, h5⟩ := h
  rw [val64_limbs (n := V) fun j hj => h5 j (by omega), h1, Nat.mod_eq_of_lt hV]
/-! ## what is carried -/
def carP (A B : Nat) (c i : Int) : Prop := c = (((A % 2 ^ (64 * i.toNat) + B % 2 ^ (64 * i.toNat)) / 2 ^ (64 * i.toNat) : Nat) : Int)
theorem carP_zero (A B : Nat) : carP A B 0 0 := by simp [carP, Nat.mod_one]
theorem carP_bit {A B : Nat} {c i : Int} (h : carP A B c i) : c = 0 ∨ c = 1 := by
  unfold carP at h
  have hp := Nat.two_pow_pos (64 * i.toNat)
  have h1 := Nat.mod_lt A hp
  have h2 := Nat.mod_lt B hp
  have h3 : (A % 2 ^ (64 * i.toNat) + B % 2 ^ (64 * i.toNat)) / 2 ^ (64 * i.toNat) < 2 := (Nat.div_lt_iff_lt_mul hp).2 (by omega)
  generalize (A % 2 ^ (64 * i.toNat) + B % 2 ^ (64 * i.toNat)) / 2 ^ (64 * i.toNat) = q at *
  omega
theorem carP_step {A B : Nat} {c : Int} {i : Nat} (h : carP A B c (i : Int)) : (limA A i + limA B i + c) % 18446744073709551616 = limA (A + B) i ∧ carP A B ((limA A i + limA B i + c) / 18446744073709551616) ((i : Int) + 1) := by
  unfold carP at h ⊢
  rw [Int.toNat_natCast] at h
  rw [show ((i : Int) + 1).toNat = i + 1 by omega, mod_limb, mod_limb, show 64 * (i + 1) = 64 * i + 64 by omega, Nat.pow_add]
  have hp := Nat.two_pow_pos (64 * i)
  have ra := limA_rng A i
  have rb := limA_rng B i
  have eA := Nat.div_add_mod A (2 ^ (64 * i))
  have eB := Nat.div_add_mod B (2 ^ (64 * i))
  have e1 : (A + B) / 2 ^ (64 * i) = A / 2 ^ (64 * i) + B / 2 ^ (64 * i) + (A % 2 ^ (64 * i) + B % 2 ^ (64 * i)) / 2 ^ (64 * i) := by
    have : A + B = A % 2 ^ (64 * i) + B % 2 ^ (64 * i) + 2 ^ (64 * i) * (A / 2 ^ (64 * i) + B / 2 ^ (64 * i)) := by rw [Nat.mul_add]; omega
    conv => lhs; rw [this]
    rw [Nat.add_mul_div_left _ _ hp, Nat.add_comm]
  have e2 : (A % 2 ^ (64 * i) + 2 ^ (64 * i) * (limA A i).toNat + (B % 2 ^ (64 * i) + 2 ^ (64 * i) * (limA B i).toNat)) / (2 ^ (64 * i) * 2 ^ 64) = ((limA A i).toNat + (limA B i).toNat + (A % 2 ^ (64 * i) + B % 2 ^ (64 * i)) / 2 ^ (64 * i)) / 18446744073709551616 := by
    rw [← Nat.div_div_eq_div_mul]
    have : A % 2 ^ (64 * i) + 2 ^ (64 * i) * (limA A i).toNat + (B % 2 ^ (64 * i) + 2 ^ (64 * i) * (limA B i).toNat) = A % 2 ^ (64 * i) + B % 2 ^ (64 * i) + 2 ^ (64 * i) * ((limA A i).toNat + (limA B i).toNat) := by rw [Nat.mul_add]; omega
    rw [this, Nat.add_mul_div_left _ _ hp, Nat.add_comm]
  constructor
  · have eL : limA (A + B) i = ((A / 2 ^ (64 * i) + B / 2 ^ (64 * i) + (A % 2 ^ (64 * i) + B % 2 ^ (64 * i)) / 2 ^ (64 * i)) % 18446744073709551616 : Nat) := by unfold limA; rw [e1]
    have eX : limA A i = ((A / 2 ^ (64 * i) % 18446744073709551616 : Nat) : Int) := rfl
    have eY : limA B i = ((B / 2 ^ (64 * i) % 18446744073709551616 : Nat) : Int) := rfl
    rw [eL, eX, eY, h]
    omega
  · rw [e2]
    omega
/-! ## which one is below -/
theorem lim_ext {a b : Nat} (h : ∀ j, limA a j = limA b j) : a = b := by
  have key : ∀ n, a % 2 ^ (64 * n) = b % 2 ^ (64 * n) := fun n => by
    induction n with
    | zero => simp [Nat.mod_one]
    | succ n ih => rw [mod_limb, mod_limb, ih, h n]
  have h1 := lim_lt a
  have h2 := lim_lt b
  have := key (max (lim a).length (lim b).length)
  rwa [Nat.mod_eq_of_lt (Nat.lt_of_lt_of_le h1 (Nat.pow_le_pow_right (by decide) (by omega))), Nat.mod_eq_of_lt (Nat.lt_of_lt_of_le h2 (Nat.pow_le_pow_right (by decide) (by omega)))] at this
theorem limA_div (a k j : Nat) : limA (a / 2 ^ (64 * k)) j = limA a (k + j) := by
  unfold limA
  rw [Nat.div_div_eq_div_mul, ← Nat.pow_add, Nat.mul_add]
theorem limA_step (a i : Nat) : a / 2 ^ (64 * i) = 18446744073709551616 * (a / 2 ^ (64 * (i + 1))) + (limA a i).toNat := by
  unfold limA
  rw [Int.toNat_natCast, show 64 * (i + 1) = 64 * i + 64 by omega, Nat.pow_add, ← Nat.div_div_eq_div_mul]
  omega
theorem lt_of_lims {a b i : Nat} (h : ∀ j : Nat, i < j → limA a j = limA b j) (hd : limA a i < limA b i) : a < b := by
  have e : a / 2 ^ (64 * (i + 1)) = b / 2 ^ (64 * (i + 1)) := lim_ext fun j => by rw [limA_div, limA_div]; exact h _ (by omega)
  have h1 := limA_step a i
  have h2 := limA_step b i
  rw [e] at h1
  have h3 := limA_rng a i
  have h4 : a / 2 ^ (64 * i) < b / 2 ^ (64 * i) := by omega
  rcases Nat.lt_or_ge a b with h | h
  · exact h
  · have := Nat.div_le_div_right (c := 2 ^ (64 * i)) h
    omega
theorem lim_bit1 (a : Nat) {n : Int} (hn : 0 ≤ n) (hn2 : n ≤ 9223372036854775807) : cmpR .eql (arithR .and .u64 (arithR .shr .u64 (limZ a (n / 64)) (n % 64)) 1) 1 = a.testBit n.toNat := by
  have hr := limZ_rng a (n / 64)
  rw [shr_u64 hr (by omega)]
  have hs : ((limZ a (n / 64)).toNat >>> (n % 64).toNat) < 18446744073709551616 := by
    rw [Nat.shiftRight_eq_div_pow]
    exact Nat.lt_of_le_of_lt (Nat.div_le_self _ _) (by omega)
  have e := limZ_bit a (n / 64) (n % 64).toNat
  rw [show 64 * (n / 64).toNat + (n % 64).toNat = n.toNat by omega, decide_eq_true (show (n % 64).toNat < 64 by omega), decide_eq_true (show (0 : Int) ≤ n / 64 by omega), Bool.true_and, Bool.true_and] at e
  rw [← e]
  generalize hx : (limZ a (n / 64)).toNat >>> (n % 64).toNat = x at *
  rw [and_u64 (nat_rng hs) (by decide), Int.toNat_natCast, show (1 : Int).toNat = 1 from rfl, Nat.and_one_is_mod, ← hx, Nat.shiftRight_eq_div_pow, ← Nat.toNat_testBit]
  cases (limZ a (n / 64)).toNat.testBit (n % 64).toNat <;> rfl
end Go.LE
namespace Go.LE
open Go
/-! ## lists of binary digits -/
def rng2 (l : List Int) : Prop := ∀ x ∈ l, x = 0 ∨ x = 1
theorem rng2_cons {x : Int} {l : List Int} (h : rng2 (x :: l)) : (x = 0 ∨ x = 1) ∧ rng2 l := ⟨h x (by simp), fun y hy => h y (by simp [hy])⟩
theorem rng2_take {l : List Int} (h : rng2 l) (k : Nat) : rng2 (l.take k) := fun x hx => h x (List.mem_of_mem_take hx)
theorem rng2_drop {l : List Int} (h : rng2 l) (k : Nat) : rng2 (l.drop k) := fun x hx => h x (List.mem_of_mem_drop hx)
theorem rng2_app {l m : List Int} (h : rng2 l) (k : rng2 m) : rng2 (l ++ m) := fun x hx => (List.mem_append.1 hx).elim (h x) (k x)
def val2 : List Int → Nat
  | [] => 0
  | x :: l => x.toNat + 2 * val2 l
theorem val2_append : ∀ (l m : List Int), val2 (l ++ m) = val2 l + 2 ^ l.length * val2 m
  | [], m => by simp [val2]
  | x :: l, m => by
    rw [List.cons_append, val2, val2_append l m, val2, List.length_cons, Nat.pow_succ, Nat.mul_comm (2 ^ l.length) 2, Nat.mul_add, Nat.mul_assoc, Nat.add_assoc]
theorem val2_lt : ∀ (l : List Int), rng2 l → val2 l < 2 ^ l.length
  | [], _ => by simp [val2]
  | x :: l, h => by
    obtain ⟨hx, hr⟩ := rng2_cons h
    have := val2_lt l hr
    rw [val2, List.length_cons, Nat.pow_succ]
    omega
/-- a number's digit -/
def bitI (n j : Nat) : Int := bif n.testBit j then 1 else 0
theorem bitI_mod (n j : Nat) : bitI n j = ((n / 2 ^ j % 2 : Nat) : Int) := by
  unfold bitI
  rw [Nat.testBit_eq_decide_div_mod_eq]
  rcases Nat.mod_two_eq_zero_or_one (n / 2 ^ j) with h | h <;> rw [h] <;> rfl
theorem bitI_rng (n j : Nat) : bitI n j = 0 ∨ bitI n j = 1 := by unfold bitI; cases n.testBit j <;> simp
theorem val2_get : ∀ (l : List Int) (i : Nat), rng2 l → l.getD i 0 = bitI (val2 l) i
  | [], i, _ => by simp [bitI, val2]
  | x :: l, 0, h => by
    obtain ⟨hx, _⟩ := rng2_cons h
    rw [bitI_mod]
    simp only [List.getD_cons_zero, val2, Nat.pow_zero, Nat.div_one]
    omega
  | x :: l, i + 1, h => by
    obtain ⟨hx, hr⟩ := rng2_cons h
    rw [List.getD_cons_succ, val2_get l i hr, bitI_mod, bitI_mod, val2, Nat.pow_succ, Nat.mul_comm (2 ^ i) 2, ← Nat.div_div_eq_div_mul]
    have : (x.toNat + 2 * val2 l) / 2 = val2 l := by omega
    rw [this]
theorem val2_zero : ∀ (l : List Int), (∀ i, l.getD i 0 = 0) → val2 l = 0
  | [], _ => rfl
  | x :: l, h => by
    have h0 := h 0
    rw [val2, val2_zero l fun i => by have := h (i + 1); simpa using this]
    simp at h0; subst h0; rfl
theorem val2_take (l : List Int) (k : Nat) (h : ∀ i, k ≤ i → l.getD i 0 = 0) : val2 (l.take k) = val2 l := by
  conv => rhs; rw [← List.take_append_drop k l, val2_append]
  rw [val2_zero (l.drop k) fun i => by
    have := h (k + i) (by omega)
    rw [List.getD_eq_getElem?_getD] at this ⊢
    rwa [List.getElem?_drop]]
  simp
theorem val2_drop (l : List Int) (hr : rng2 l) (k : Nat) (hk : k ≤ l.length) : val2 (l.drop k) = val2 l / 2 ^ k := by
  have h1 := val2_append (l.take k) (l.drop k)
  rw [List.take_append_drop, List.length_take, Nat.min_eq_left hk] at h1
  have h2 := val2_lt _ (rng2_take hr k)
  rw [List.length_take, Nat.min_eq_left hk] at h2
  rw [h1, Nat.add_mul_div_left _ _ (Nat.two_pow_pos k), Nat.div_eq_of_lt h2, Nat.zero_add]
theorem val2_nought (n : Nat) : val2 (List.replicate n 0) = 0 := val2_zero _ fun i => by
  rw [List.getD_eq_getElem?_getD, List.getElem?_replicate]
  split <;> rfl
theorem rng2_nought (n : Nat) : rng2 (List.replicate n 0) := fun x hx => .inl (List.mem_replicate.1 hx).2
theorem val2_take_succ (l : List Int) (i : Nat) (h : i < l.length) : val2 (l.take (i + 1)) = val2 (l.take i) + 2 ^ i * (l.getD i 0).toNat := by
  rw [List.take_add_one, List.getElem?_eq_getElem h, Option.toList_some, val2_append, List.length_take, Nat.min_eq_left (by omega)]
  simp [val2, List.getD_eq_getElem?_getD, h]
theorem mod_bit (n i : Nat) : n % 2 ^ (i + 1) = n % 2 ^ i + 2 ^ i * (bitI n i).toNat := by
  rw [bitI_mod, Int.toNat_natCast, Nat.pow_succ, Nat.mod_mul]
theorem val2_bits {l : List Int} {n : Nat} (h : ∀ j, j < l.length → l.getD j 0 = bitI n j) : val2 l = n % 2 ^ l.length := by
  have key : ∀ k, k ≤ l.length → val2 (l.take k) = n % 2 ^ k := fun k => by
    induction k with
    | zero => intro _; simp [val2, Nat.mod_one]
    | succ k ih =>
      intro hk
      rw [val2_take_succ l k (by omega), ih (by omega), mod_bit, h k (by omega)]
  have := key l.length (Nat.le_refl _)
  rwa [List.take_length] at this
/-- a number's digits, without noughts at the end -/
def biss : Nat → Nat → List Int
  | 0, _ => []
  | f + 1, n => if n = 0 then [] else ((n % 2 : Nat) : Int) :: biss f (n / 2)
def bis (n : Nat) : List Int := biss n n
theorem biss_eq : ∀ (f g n : Nat), n ≤ f → n ≤ g → biss f n = biss g n
  | 0, 0, n, _, _ => rfl
  | 0, g + 1, n, h, _ => by
    have : n = 0 := by omega
    subst this; simp [biss]
  | f + 1, 0, n, _, h => by
    have : n = 0 := by omega
    subst this; simp [biss]
  | f + 1, g + 1, n, h1, h2 => by
    unfold biss
    split
    · rfl
    · rename_i hn
      rw [biss_eq f g (n / 2) (by omega) (by omega)]
theorem bis_zero : bis 0 = [] := rfl
theorem bis_rec {n : Nat} (h : n ≠ 0) : bis n = ((n % 2 : Nat) : Int) :: bis (n / 2) := by
  have e : bis n = biss ((n - 1) + 1) n := by unfold bis; rw [show n - 1 + 1 = n by omega]
  rw [e]
  conv => lhs; unfold biss
  rw [if_neg h, biss_eq (n - 1) (n / 2) _ (by omega) (Nat.le_refl _)]
  rfl
theorem val2_bis (n : Nat) : val2 (bis n) = n := by
  induction n using Nat.strongRecOn with
  | _ n ih =>
    by_cases h : n = 0
    · subst h; rfl
    · rw [bis_rec h, val2, ih (n / 2) (by omega)]
      simp only [Int.toNat_natCast]
      omega
theorem rng2_bis (n : Nat) : rng2 (bis n) := by
  induction n using Nat.strongRecOn with
  | _ n ih =>
    by_cases h : n = 0
    · subst h; intro x hx; simp [bis_zero] at hx
    · rw [bis_rec h]
      intro x hx
      rcases List.mem_cons.1 hx with rfl | hx
      · omega
      · exact ih _ (by omega) x hx
theorem bis_ne {n : Nat} (h : n ≠ 0) : bis n ≠ [] := by rw [bis_rec h]; simp
theorem bis_val : ∀ (l : List Int), rng2 l → (∀ h : l ≠ [], l.getLast h ≠ 0) → bis (val2 l) = l
  | [], _, _ => rfl
  | x :: l, hr, hl => by
    obtain ⟨hx, hr⟩ := rng2_cons hr
    have ih := bis_val l hr fun h => by have := hl (by simp); rwa [List.getLast_cons h] at this
    have hv : val2 (x :: l) ≠ 0 := by
      rw [val2]
      by_cases h : l = []
      · subst h
        have := hl (by simp)
        simp at this
        omega
      · have : val2 l ≠ 0 := fun h0 => by rw [h0] at ih; exact h ih.symm
        omega
    rw [bis_rec hv, val2]
    have e1 : (x.toNat + 2 * val2 l) % 2 = x.toNat := by omega
    have e2 : (x.toNat + 2 * val2 l) / 2 = val2 l := by omega
    rw [e1, e2, ih, Int.toNat_of_nonneg (by omega)]
theorem trim_bis {l : List Int} (hr : rng2 l) {k : Nat} (hk : k ≤ l.length) (h : ∀ i, k ≤ i → l.getD i 0 = 0) (hl : k = 0 ∨ l.getD (k - 1) 0 ≠ 0) : l.take k = bis (val2 l) := by
  rw [← val2_take l k h]
  refine (bis_val _ (rng2_take hr k) fun hne => ?_).symm
  have hk0 : k ≠ 0 := fun e => by subst e; simp at hne
  have hl := hl.resolve_left hk0
  rw [List.getD_eq_getElem?_getD] at hl
  rw [List.getLast_eq_getElem]
  simp only [List.length_take, List.getElem_take, Nat.min_eq_left hk]
  rw [List.getElem?_eq_getElem (by omega)] at hl
  simpa using hl
theorem bis_len (k : Nat) : ∀ (n : Nat), (bis n).length ≤ k ↔ n < 2 ^ k := by
  induction k with
  | zero =>
    intro n
    by_cases h : n = 0
    · subst h; simp [bis_zero]
    · rw [bis_rec h]; simp; omega
  | succ k ih =>
    intro n
    by_cases h : n = 0
    · subst h; simp [bis_zero, Nat.pow_pos]
    · rw [bis_rec h, List.length_cons, Nat.add_le_add_iff_right, ih, Nat.div_lt_iff_lt_mul (by decide), Nat.pow_succ]
theorem bis_bitN (n : Nat) : (bis n).length = bitN n := by
  have h1 := (bis_len (bitN n) n).2 (bitN_le.1 (Nat.le_refl _))
  have h2 := bitN_le.2 ((bis_len _ n).1 (Nat.le_refl _))
  omega
theorem bis_get (n i : Nat) : (bis n).getD i 0 = bitI n i := by rw [val2_get _ _ (rng2_bis n), val2_bis]
theorem lim_bitN (n : Nat) : (lim n).length = (bitN n + 63) / 64 := by
  have h1 := (lim_len ((bitN n + 63) / 64) n).2 (bitN_le.1 (by omega))
  have h2 : bitN n ≤ 64 * (lim n).length := bitN_le.2 (lim_lt n)
  omega
/-- a list of limbs as long as it needs to be -/
theorem lim_of {l : List Int} {n : Nat} (hr : rng64 l) (hl : l.length = (lim n).length) (hv : val64 l = n) : l = lim n := by
  refine List.ext_getElem hl fun j a b => ?_
  have h1 := val64_get l j hr
  have h2 := lim_get n j
  rw [hv, ← h2, List.getD_eq_getElem?_getD, List.getD_eq_getElem?_getD, List.getElem?_eq_getElem a, List.getElem?_eq_getElem b] at h1
  simpa using h1
theorem val64_set : ∀ (l : List Int) (j : Nat) (y : Int), j < l.length → val64 (l.set j y) + 2 ^ (64 * j) * (l.getD j 0).toNat = val64 l + 2 ^ (64 * j) * y.toNat
  | [], j, y, h => by simp at h
  | x :: l, 0, y, _ => by simp [val64]; omega
  | x :: l, j + 1, y, h => by
    have ih := val64_set l j y (by simpa using h)
    rw [List.set_cons_succ, val64, val64, List.getD_cons_succ, show 64 * (j + 1) = 64 + 64 * j by omega, Nat.pow_add, Nat.mul_assoc, Nat.mul_assoc, show 2 ^ 64 = 18446744073709551616 by rfl]
    omega
def bitP (V : Nat) (l : List Int) : Prop := rng2 l ∧ ∀ j, j < l.length → l.getD j 0 = bitI V j
theorem bitP_nil (V : Nat) : bitP V [] := ⟨fun x hx => by simp at hx, fun j hj => by simp at hj⟩
theorem bitP_app {V : Nat} {l : List Int} {x : Int} (h : bitP V l) (hx : x = bitI V l.length) : bitP V (l ++ [x]) := by
  subst hx
  refine ⟨rng2_app h.1 fun y hy => ?_, fun j hj => ?_⟩
  · have : y = bitI V l.length := by simpa using hy
    rw [this]; exact bitI_rng _ _
  · rw [List.getD_eq_getElem?_getD]
    by_cases e : j < l.length
    · rw [List.getElem?_append_left e, ← List.getD_eq_getElem?_getD]
      exact h.2 j e
    · have : j = l.length := by simp at hj; omega
      subst this
      simp
theorem bitP_end {V : Nat} {l : List Int} (h : bitP V l) (hV : V < 2 ^ l.length) : val2 l = V := by
  rw [val2_bits h.2, Nat.mod_eq_of_lt hV]
/-- a limb's digit -/
theorem limA_digit (V i : Nat) {k : Nat} (hk : k < 64) : (limA V i).toNat / 2 ^ k % 2 = V / 2 ^ (64 * i + k) % 2 := by
  have h := limA_bit V i k
  rw [decide_eq_true hk, Bool.true_and, Nat.testBit_eq_decide_div_mod_eq, Nat.testBit_eq_decide_div_mod_eq] at h
  have h := decide_eq_decide.1 h
  omega
/-! ## limbs, out of digits -/
def limP (n : Nat) (l : List Int) (i : Nat) : Prop := rng64 l ∧ l.length = (i + 63) / 64 ∧ val64 l = n % 2 ^ i
def limQ (n : Nat) (l : List Int) (i : Nat) : Prop := rng64 l ∧ l.length = i / 64 + 1 ∧ val64 l = n % 2 ^ i
theorem limP_zero (n : Nat) : limP n [] 0 := ⟨fun x hx => by simp at hx, rfl, by simp [val64, Nat.mod_one]⟩
theorem limQ_grow {n i : Nat} {l : List Int} (h : limP n l i) (hi : i % 64 = 0) : limQ n (l ++ [0]) i := by
  obtain ⟨h1, h2, h3⟩ := h
  refine ⟨fun x hx => ?_, by simp; omega, ?_⟩
  · rcases List.mem_append.1 hx with hx | hx
    · exact h1 x hx
    · have : x = 0 := by simpa using hx
      omega
  · rw [val64_append, h3]; simp [val64]
theorem limQ_same {n i : Nat} {l : List Int} (h : limP n l i) (hi : i % 64 ≠ 0) : limQ n l i := ⟨h.1, by rw [h.2.1]; omega, h.2.2⟩
theorem limQ_no {n i : Nat} {l : List Int} (h : limQ n l i) (hb : bitI n i = 0) : limP n l (i + 1) := by
  refine ⟨h.1, by rw [h.2.1]; omega, ?_⟩
  rw [h.2.2, mod_bit, hb]; simp
theorem limQ_yes {n i : Nat} {l : List Int} (h : limQ n l i) (hb : bitI n i = 1) : (0 ≤ l.getD (i / 64) 0 ∧ l.getD (i / 64) 0 + ((2 ^ (i % 64) : Nat) : Int) < 18446744073709551616) ∧ limP n (l.set (i / 64) (l.getD (i / 64) 0 + ((2 ^ (i % 64) : Nat) : Int))) (i + 1) := by
  obtain ⟨h1, h2, h3⟩ := h
  have hr := rng64_get h1 (i / 64)
  have he := val64_get l (i / 64) h1
  have hlt : n % 2 ^ i < 2 ^ i := Nat.mod_lt _ (Nat.two_pow_pos i)
  have hq : n % 2 ^ i / 2 ^ (64 * (i / 64)) < 2 ^ (i % 64) := by
    rw [Nat.div_lt_iff_lt_mul (Nat.two_pow_pos _), ← Nat.pow_add]
    rwa [show i % 64 + 64 * (i / 64) = i by omega]
  have hp : 2 ^ (i % 64) ≤ 2 ^ 63 := Nat.pow_le_pow_right (by decide) (by omega)
  have hsm : (l.getD (i / 64) 0).toNat < 2 ^ (i % 64) := by
    rw [he, h3]
    unfold limA
    rw [Int.toNat_natCast]
    exact Nat.lt_of_le_of_lt (Nat.mod_le _ _) hq
  have hb2 : l.getD (i / 64) 0 + ((2 ^ (i % 64) : Nat) : Int) < 18446744073709551616 := by omega
  refine ⟨⟨hr.1, hb2⟩, rng64_set h1 ⟨by omega, hb2⟩ _, by rw [List.length_set, h2]; omega, ?_⟩
  have hs := val64_set l (i / 64) (l.getD (i / 64) 0 + ((2 ^ (i % 64) : Nat) : Int)) (by omega)
  rw [show (l.getD (i / 64) 0 + ((2 ^ (i % 64) : Nat) : Int)).toNat = (l.getD (i / 64) 0).toNat + 2 ^ (i % 64) by omega, Nat.mul_add, ← Nat.pow_add, show 64 * (i / 64) + i % 64 = i by omega] at hs
  rw [mod_bit, hb, ← h3]
  have : (1 : Int).toNat = 1 := rfl
  rw [this, Nat.mul_one]
  omega
theorem limP_end {n : Nat} {l : List Int} (h : limP n l (bitN n)) : l = lim n := by
  obtain ⟨h1, h2, h3⟩ := h
  refine lim_of h1 (by rw [h2, lim_bitN]) ?_
  rw [h3, Nat.mod_eq_of_lt (bitN_le.1 (Nat.le_refl _))]
end Go.LE