import Derived.Test.YtcmicmbpcgminaaGreatDoorLeT
import Derived.Test.YtcmicmbpcgminaaGreatDoorLeU
set_option linter.unusedVariables false
set_option linter.unusedSimpArgs false
namespace Go.LE
open Go
/-! ## division, digit by digit -/
def dvP (n d q l : Nat) (i : Int) : Prop := q = n / (d * 2 ^ (i + 1).toNat) ∧ l = n % (d * 2 ^ (i + 1).toNat)
theorem dv_zero {n d : Nat} (h : n < d * 2 ^ 128) : dvP n d 0 n 127 := by
  unfold dvP
  rw [show ((127 : Int) + 1).toNat = 128 by rfl]
  exact ⟨(Nat.div_eq_of_lt h).symm, (Nat.mod_eq_of_lt h).symm⟩
theorem dv_two {n d q l : Nat} {i : Int} (hd : d ≠ 0) (hi : 0 ≤ i) (h : dvP n d q l i) : n = 2 * (d * 2 ^ i.toNat) * q + l ∧ l < 2 * (d * 2 ^ i.toNat) ∧ 0 < d * 2 ^ i.toNat := by
  unfold dvP at h
  have e : d * 2 ^ (i + 1).toNat = 2 * (d * 2 ^ i.toNat) := by
    rw [show (i + 1).toNat = i.toNat + 1 by omega, Nat.pow_succ]
    rw [← Nat.mul_assoc, Nat.mul_comm]
  have hp : 0 < d * 2 ^ i.toNat := Nat.mul_pos (by omega) (Nat.two_pow_pos _)
  rw [e] at h
  obtain ⟨rfl, rfl⟩ := h
  exact ⟨(Nat.div_add_mod n _).symm, Nat.mod_lt _ (by omega), hp⟩
theorem dv_at {n d q l : Nat} {i : Int} (hd : d ≠ 0) (h1 : n = d * 2 ^ i.toNat * q + l) (h2 : l < d * 2 ^ i.toNat) (hi : 0 ≤ i) : dvP n d q l (i - 1) := by
  unfold dvP
  rw [show (i - 1 + 1).toNat = i.toNat by omega]
  have hp : 0 < d * 2 ^ i.toNat := Nat.mul_pos (by omega) (Nat.two_pow_pos _)
  obtain ⟨a, b⟩ := (Nat.div_mod_unique (a := n) (c := l) (d := q) hp).2 ⟨by omega, h2⟩
  exact ⟨a.symm, b.symm⟩
theorem dv_hit {n d q l : Nat} {i : Int} (hd : d ≠ 0) (hi : 0 ≤ i) (h : dvP n d q l i) (hl : d * 2 ^ i.toNat ≤ l) : dvP n d (q + q + 1) (l - d * 2 ^ i.toNat) (i - 1) := by
  obtain ⟨h1, h2, h3⟩ := dv_two hd hi h
  generalize hD : d * 2 ^ i.toNat = D at *
  refine dv_at hd ?_ (by rw [hD]; omega) hi
  rw [hD, h1, Nat.mul_add, Nat.mul_add, Nat.mul_one, Nat.mul_assoc, Nat.two_mul]
  omega
theorem dv_miss {n d q l : Nat} {i : Int} (hd : d ≠ 0) (hi : 0 ≤ i) (h : dvP n d q l i) (hl : l < d * 2 ^ i.toNat) : dvP n d (q + q) l (i - 1) := by
  obtain ⟨h1, h2, h3⟩ := dv_two hd hi h
  generalize hD : d * 2 ^ i.toNat = D at *
  refine dv_at hd ?_ (by rw [hD]; omega) hi
  rw [hD, h1, Nat.mul_add, Nat.mul_assoc, Nat.two_mul]
theorem dv_end {n d q l : Nat} {i : Int} (hi : i < 0) (h : dvP n d q l i) : q = n / d ∧ l = n % d := by
  unfold dvP at h
  rw [show (i + 1).toNat = 0 by omega, Nat.pow_zero, Nat.mul_one] at h
  exact h
theorem dv_qlt {n d q l : Nat} {i : Int} (hd : d ≠ 0) (hn : n < d * 2 ^ 128) (hi : -1 ≤ i) (h : dvP n d q l i) : q < 2 ^ 128 := by
  unfold dvP at h
  rw [h.1]
  have hp : 0 < d * 2 ^ (i + 1).toNat := Nat.mul_pos (by omega) (Nat.two_pow_pos _)
  rw [Nat.div_lt_iff_lt_mul hp]
  refine Nat.lt_of_lt_of_le hn ?_
  rw [Nat.mul_comm (2 ^ 128)]
  refine Nat.mul_le_mul_right _ ?_
  exact Nat.le_mul_of_pos_right _ (Nat.two_pow_pos _)
end Go.LE
namespace Go.LE
open Go
/-! ## what a division leaves -/
theorem md_scale {y : Nat} (hy : 0 < y) (A n : Nat) : (A * 2 ^ n) % y = ((A % y) * 2 ^ n) % y ∧ (A * 2 ^ n) / y = (A / y) * 2 ^ n + ((A % y) * 2 ^ n) / y := by
  have h := Nat.div_add_mod A y
  have e : A * 2 ^ n = (A % y) * 2 ^ n + y * ((A / y) * 2 ^ n) := by
    conv => lhs; rw [← h]
    rw [Nat.add_mul, Nat.mul_assoc, Nat.add_comm]
  constructor
  · rw [e, Nat.add_mul_mod_self_left]
  · rw [e, Nat.add_mul_div_left _ _ hy, Nat.add_comm]
theorem md_odd {y : Nat} (hy : 0 < y) (A : Nat) {n : Nat} (hn : 1 ≤ n) : ((A * 2 ^ n) / y) % 2 = (((A % y) * 2 ^ n) / y) % 2 := by
  rw [(md_scale hy A n).2]
  have : 2 ^ n = 2 * 2 ^ (n - 1) := by rw [show n = n - 1 + 1 by omega, Nat.pow_succ, Nat.mul_comm]; simp
  rw [this, ← Nat.mul_assoc, Nat.mul_comm (A / y) 2, Nat.mul_assoc, Nat.add_comm, Nat.add_mul_mod_self_left]
/-- of two numbers: by one lowest digit -/
def lfE (xe ye : Int) : Int := min xe ye
def lfA (xs : Nat) (xe ye : Int) : Nat := xs * 2 ^ (xe - lfE xe ye).toNat
def lfD (ys : Nat) (xe ye : Int) : Nat := ys * 2 ^ (ye - lfE xe ye).toNat
def lfR (xs : Nat) (xe : Int) (ys : Nat) (ye : Int) : Nat := lfA xs xe ye % lfD ys xe ye
def lfQ (xs : Nat) (xe : Int) (ys : Nat) (ye : Int) : Nat := lfA xs xe ye / lfD ys xe ye
/-- a divisor shifted up leaves the same, by a lower digit -/
theorem lf_scale {xs ys k : Nat} {xe ye : Int} : ∃ j : Nat, lfE xe ye = lfE xe (ye - (k : Int)) + (j : Int) ∧
    lfA xs xe (ye - (k : Int)) = lfA xs xe ye * 2 ^ j ∧ lfD (ys * 2 ^ k) xe (ye - (k : Int)) = lfD ys xe ye * 2 ^ j ∧
    lfR xs xe (ys * 2 ^ k) (ye - (k : Int)) = lfR xs xe ys ye * 2 ^ j ∧ lfQ xs xe (ys * 2 ^ k) (ye - (k : Int)) = lfQ xs xe ys ye := by
  refine ⟨(lfE xe ye - lfE xe (ye - (k : Int))).toNat, ?_⟩
  have h0 : lfE xe (ye - (k : Int)) ≤ lfE xe ye := by unfold lfE; omega
  have hA : lfA xs xe (ye - (k : Int)) = lfA xs xe ye * 2 ^ (lfE xe ye - lfE xe (ye - (k : Int))).toNat := by
    unfold lfA
    rw [Nat.mul_assoc, ← Nat.pow_add]
    congr 2
    unfold lfE
    omega
  have hD : lfD (ys * 2 ^ k) xe (ye - (k : Int)) = lfD ys xe ye * 2 ^ (lfE xe ye - lfE xe (ye - (k : Int))).toNat := by
    unfold lfD
    rw [Nat.mul_assoc, Nat.mul_assoc, ← Nat.pow_add, ← Nat.pow_add]
    congr 2
    unfold lfE
    omega
  refine ⟨by omega, hA, hD, ?_, ?_⟩
  · unfold lfR; rw [hA, hD, Nat.mul_mod_mul_right]
  · unfold lfQ; rw [hA, hD, Nat.mul_div_mul_right _ _ (Nat.two_pow_pos _)]
/-- what is left is below the divisor, and isn't above the dividend -/
theorem lf_below {xs ys : Nat} {xe ye : Int} (hy : ys ≠ 0) : lfR xs xe ys ye < lfD ys xe ye ∧ lfR xs xe ys ye ≤ lfA xs xe ye ∧ 0 < lfD ys xe ye := by
  have hd : 0 < lfD ys xe ye := Nat.mul_pos (by omega) (Nat.two_pow_pos _)
  exact ⟨Nat.mod_lt _ hd, Nat.mod_le _ _, hd⟩
/-- the nearest: what is left, or what is lacking -/
def nrT (R D : Nat) (odd : Bool) : Bool := decide (D < 2 * R) || (decide (2 * R = D) && odd)
def nrR (R D : Nat) (odd : Bool) : Nat := bif nrT R D odd then D - R else R
theorem nr_le {R D : Nat} {odd : Bool} (h : R < D) : nrR R D odd ≤ R ∧ 2 * nrR R D odd ≤ D := by
  unfold nrR
  cases ht : nrT R D odd with
  | false =>
    unfold nrT at ht
    simp only [Bool.or_eq_false_iff, decide_eq_false_iff_not] at ht
    simp only [cond_false]
    omega
  | true =>
    unfold nrT at ht
    simp only [Bool.or_eq_true, Bool.and_eq_true, decide_eq_true_eq] at ht
    simp only [cond_true]
    omega
/-- what is left is a word's number -/
theorem lf_fits {f : Int} {a b : BitVec 128} (ha : wFin f a = true) (hb : wFin f b = true) (hz : (vSig f b).toNat ≠ 0) {R : Nat} (h1 : R ≤ lfR (vSig f a).toNat (vExp f a) (vSig f b).toNat (vExp f b)) :
    ∃ M, M < infN f ∧ sizeN (vSig f (wM f M)).toNat (vExp f (wM f M)) R (lfE (vExp f a) (vExp f b)) = 0 := by
  obtain ⟨l1, l2, _⟩ := lf_below (xs := (vSig f a).toNat) (xe := vExp f a) (ye := vExp f b) hz
  obtain ⟨hF, hf⟩ := fin_fits ha
  by_cases h0 : R = 0
  · refine ⟨0, by have := inf_pos hf; omega, ?_⟩
    subst h0
    refine (size_of hf (m := 0) (by have := inf_pos hf; omega) false (k := min (expO f) (lfE (vExp f a) (vExp f b))) (by omega) (by omega)).1.2 ?_
    rw [magV_zero, Nat.zero_mul, Nat.zero_mul]
  · by_cases he : vExp f a ≤ vExp f b
    · have e : lfE (vExp f a) (vExp f b) = vExp f a := by unfold lfE; omega
      have eA : lfA (vSig f a).toNat (vExp f a) (vExp f b) = (vSig f a).toNat := by unfold lfA; rw [e, show (vExp f a - vExp f a).toNat = 0 by omega, Nat.pow_zero, Nat.mul_one]
      rw [e]
      exact sub_fits ha h0 (by omega)
    · have e : lfE (vExp f a) (vExp f b) = vExp f b := by unfold lfE; omega
      have eD : lfD (vSig f b).toNat (vExp f a) (vExp f b) = (vSig f b).toNat := by unfold lfD; rw [e, show (vExp f b - vExp f b).toNat = 0 by omega, Nat.pow_zero, Nat.mul_one]
      rw [e]
      exact sub_fits hb h0 (by omega)
end Go.LE
namespace Go.LE
open Go
/-! ## a word's number is rounded to that word -/
theorem ex_round {f m : Int} {b : Bool} {e : Int} {s : W} {M : Nat} (ho : rOk f m e s false = true) (hM : M < infN f) (h : sizeN (vSig f (wM f M)).toNat (vExp f (wM f M)) s.toNat e = 0) :
    rW f m b e s false = fWordOf f b M ∧ rX f m b e s false = 0 := by
  have hx := ho
  unfold rOk at hx
  simp only [Bool.and_eq_true] at hx
  have hf : 1 ≤ f ∧ f ≤ 4 := of_decide_eq_true hx.1
  have hm : isM m = true := hx.2.1
  obtain ⟨w1, w2, w3, w4⟩ := of_fin hf hM b
  have h' := size_sgn hf hM h b
  by_cases hs : s = 0
  · have hz : s.toNat = 0 := by rw [← w_zero]; exact hs
    have e1 := findM_eq hf hM h
    rw [hz] at e1
    have e2 : M = 0 := by rw [← e1]; exact find_zero hf _
    unfold rW rX
    rw [ho, cond_true, cond_true, if_pos hs, if_pos hs, e2]
    exact ⟨rfl, rfl⟩
  · have hn : s.toNat ≠ 0 := fun hh => hs (by rw [w_zero]; exact hh)
    have hv : (vSig f (fWordOf f b M)).toNat ≠ 0 := fun hh => by
      rw [hh] at h'
      unfold sizeN at h'
      rw [if_pos (.inl rfl), if_pos rfl, if_neg hn] at h'
      omega
    have hvz : vSig f (fWordOf f b M) ≠ 0 := fun hh => hv (by rw [← w_zero]; exact hh)
    have hvn : vNeg f (fWordOf f b M) = b := by unfold vNeg; rw [w1]; exact w2
    obtain ⟨o1, o2, _⟩ := own_round w1 hm
    have oo : rOk f m (vExp f (fWordOf f b M)) (vSig f (fWordOf f b M)) false = true := own_right w1 hm
    unfold rW at o1
    unfold rX at o2
    rw [oo, cond_true, if_neg hvz, hvn] at o1 o2
    obtain ⟨s1, s2⟩ := rd_same hv hn h' f m b
    have c1 : rdW f m b (moreA (vSig f (fWordOf f b M)).toNat false) (moreG (vExp f (fWordOf f b M)) false) = rdW f m b s.toNat e := by
      show fWordOf f b (rdMag f m b (vSig f (fWordOf f b M)).toNat (vExp f (fWordOf f b M))) = fWordOf f b (rdMag f m b s.toNat e)
      rw [s1]
    have c2 : rdX f m b (moreA (vSig f (fWordOf f b M)).toNat false) (moreG (vExp f (fWordOf f b M)) false) = rdX f m b s.toNat e := s2
    rw [c1] at o1
    rw [c2] at o2
    unfold rW rX
    rw [ho, cond_true, cond_true, if_neg hs, if_neg hs]
    exact ⟨o1, o2⟩
/-! ## the steps of a small division -/
theorem dv_from {n d : Nat} {i : Int} (h : n < d * 2 ^ (i + 1).toNat) : dvP n d 0 n i := by
  unfold dvP
  exact ⟨(Nat.div_eq_of_lt h).symm, (Nat.mod_eq_of_lt h).symm⟩
theorem dv_start {n d : Nat} (hd : d ≠ 0) : n < d * 2 ^ (((bitN n : Nat) : Int) - (bitN d : Nat) + 1).toNat := by
  by_cases hn : n = 0
  · subst hn; exact Nat.mul_pos (by omega) (Nat.two_pow_pos _)
  obtain ⟨n1, n2, n3⟩ := bitN_rng hn
  obtain ⟨d1, d2, d3⟩ := bitN_rng hd
  by_cases h : bitN d ≤ bitN n
  · have : 2 ^ (bitN d - 1) * 2 ^ (((bitN n : Nat) : Int) - (bitN d : Nat) + 1).toNat = 2 ^ bitN n := by rw [← Nat.pow_add]; congr 1; omega
    exact Nat.lt_of_lt_of_le (by rw [this]; exact n2) (Nat.mul_le_mul_right _ d1)
  · have h2 : n < 2 ^ (bitN d - 1) := Nat.lt_of_lt_of_le n2 (Nat.pow_le_pow_right (by decide) (by omega))
    exact Nat.lt_of_lt_of_le (Nat.lt_of_lt_of_le h2 d1) (Nat.le_mul_of_pos_right _ (Nat.two_pow_pos _))
end Go.LE
namespace Go.LE
open Go
/-! ## what a division of words leaves, told by the unpacked divisor -/
theorem size_up {x R j : Nat} {q e : Int} (h : sizeN x q R e = 0) : sizeN x q (R * 2 ^ j) (e - (j : Int)) = 0 := by
  have h1 := (sizeN_at (k := min q (e - (j : Int))) (by omega) (by omega)).1.1 h
  refine (sizeN_at (k := min q (e - (j : Int))) (by omega) (by omega)).1.2 ?_
  rw [h1, Nat.mul_assoc, ← Nat.pow_add]
  congr 2
  omega
theorem nr_scale {R D : Nat} {o : Bool} (j : Nat) : nrT (R * 2 ^ j) (D * 2 ^ j) o = nrT R D o ∧ nrR (R * 2 ^ j) (D * 2 ^ j) o = nrR R D o * 2 ^ j := by
  have hp := Nat.two_pow_pos j
  have ht : nrT (R * 2 ^ j) (D * 2 ^ j) o = nrT R D o := by
    unfold nrT
    have e : 2 * (R * 2 ^ j) = 2 * R * 2 ^ j := by rw [Nat.mul_assoc]
    rw [e]
    have e1 : decide (D * 2 ^ j < 2 * R * 2 ^ j) = decide (D < 2 * R) := decide_eq_decide.2 ⟨fun h => Nat.lt_of_mul_lt_mul_right h, fun h => Nat.mul_lt_mul_of_pos_right h hp⟩
    have e2 : decide (2 * R * 2 ^ j = D * 2 ^ j) = decide (2 * R = D) := decide_eq_decide.2 ⟨fun h => Nat.eq_of_mul_eq_mul_right hp h, fun h => by rw [h]⟩
    rw [e1, e2]
  refine ⟨ht, ?_⟩
  unfold nrR
  rw [ht]
  cases nrT R D o
  · rfl
  · simp only [cond_true]
    rw [Nat.sub_mul]
/-- the unpacked divisor: the same number, with more digits -/
theorem u_scale {f : Int} {w : BitVec 128} (h : uOk f w = true) : ∃ k : Nat, (uSig f w).toNat = (vSig f w).toNat * 2 ^ k ∧ uExp f w = vExp f w - (k : Int) ∧ wFin f w = true ∧ (vSig f w).toNat ≠ 0 ∧ (uSig f w).toNat < 2 ^ 113 := by
  obtain ⟨p1, p2, _⟩ := u_parts h
  obtain ⟨hfin, ub, us, _⟩ := u_own h
  obtain ⟨hF, hf⟩ := fin_fits hfin
  have hp := p_rng f hf
  have hlt := vSig_lt hfin
  have hne : (vSig f w).toNat ≠ 0 := by
    unfold uOk at h
    simp only [Bool.and_eq_true, Bool.not_eq_true', decide_eq_false_iff_not] at h
    exact fun hh => h.2 (by rw [w_zero]; exact hh)
  have hb : bitN (vSig f w).toNat ≤ (fPrec f).toNat := bitN_le.2 hlt
  have hl := bitN_wLen (vSig f w)
  refine ⟨(fPrec f - wLen (vSig f w)).toNat, ?_, by rw [p2]; omega, hfin, hne, ?_⟩
  · have hs := (sizeN_at (k := uExp f w) (by rw [p2]; omega) (Int.le_refl _)).1.1 us
    rw [show (uExp f w - uExp f w).toNat = 0 by omega, Nat.pow_zero, Nat.mul_one] at hs
    rw [← hs]
    congr 2
    rw [p2]; omega
  · have := bitN_le.1 (show bitN (uSig f w).toNat ≤ 113 by omega)
    exact this
def rmR (f : Int) (a b : BitVec 128) : Nat := lfR (vSig f a).toNat (vExp f a) (vSig f b).toNat (vExp f b)
def rmD (f : Int) (a b : BitVec 128) : Nat := lfD (vSig f b).toNat (vExp f a) (vExp f b)
def rmO (f : Int) (a b : BitVec 128) : Bool := decide (lfQ (vSig f a).toNat (vExp f a) (vSig f b).toNat (vExp f b) % 2 = 1)
def rmE (f : Int) (a b : BitVec 128) : Int := lfE (vExp f a) (vExp f b)
/-- what is told by the unpacked divisor -/
theorem rm_unpacked {f : Int} {a b : BitVec 128} (ha : wFin f a = true) (hb : uOk f b = true) : ∃ j : Nat, rmE f a b = lfE (vExp f a) (uExp f b) + (j : Int) ∧
    lfR (vSig f a).toNat (vExp f a) (uSig f b).toNat (uExp f b) = rmR f a b * 2 ^ j ∧ lfD (uSig f b).toNat (vExp f a) (uExp f b) = rmD f a b * 2 ^ j ∧
    decide (lfQ (vSig f a).toNat (vExp f a) (uSig f b).toNat (uExp f b) % 2 = 1) = rmO f a b ∧
    lfR (vSig f a).toNat (vExp f a) (uSig f b).toNat (uExp f b) < 2 ^ 113 ∧ lfR (vSig f a).toNat (vExp f a) (uSig f b).toNat (uExp f b) < lfD (uSig f b).toNat (vExp f a) (uExp f b) := by
  obtain ⟨k, k1, k2, k3, k4, k5⟩ := u_scale hb
  obtain ⟨hF, hf⟩ := fin_fits ha
  have hp := p_rng f hf
  obtain ⟨j, j1, j2, j3, j4, j5⟩ := lf_scale (xs := (vSig f a).toNat) (ys := (vSig f b).toNat) (k := k) (xe := vExp f a) (ye := vExp f b)
  have hun : (uSig f b).toNat ≠ 0 := by
    rw [k1]
    have := Nat.mul_pos (show 0 < (vSig f b).toNat by omega) (Nat.two_pow_pos k)
    omega
  obtain ⟨l1, l2, _⟩ := lf_below (xs := (vSig f a).toNat) (ys := (uSig f b).toNat) (xe := vExp f a) (ye := uExp f b) hun
  refine ⟨j, by unfold rmE; rw [k2]; exact j1, by rw [k1, k2]; exact j4, by rw [k1, k2]; exact j3, ?_, ?_, l1⟩
  · unfold rmO; rw [k1, k2, j5]
  · by_cases he : vExp f a ≤ uExp f b
    · have hA : lfA (vSig f a).toNat (vExp f a) (uExp f b) = (vSig f a).toNat := by
        unfold lfA lfE
        rw [show (vExp f a - min (vExp f a) (uExp f b)).toNat = 0 by omega, Nat.pow_zero, Nat.mul_one]
      have hlt := vSig_lt ha
      have h2 : 2 ^ (fPrec f).toNat ≤ 2 ^ 113 := Nat.pow_le_pow_right (by decide) (by omega)
      omega
    · have hD : lfD (uSig f b).toNat (vExp f a) (uExp f b) = (uSig f b).toNat := by
        unfold lfD lfE
        rw [show (uExp f b - min (vExp f a) (uExp f b)).toNat = 0 by omega, Nat.pow_zero, Nat.mul_one]
      omega
/-- a number that isn't above what is left, rounded -/
theorem rm_round {f m : Int} {a b : BitVec 128} (ha : wFin f a = true) (hb : uOk f b = true) {R j : Nat} (hR : R ≤ rmR f a b) {s : W} (hs : s.toNat = R * 2 ^ j) {e : Int} (he : rmE f a b = e + (j : Int))
    {neg : Bool} (ho : rOk f m e s false = true) : rW f m neg e s false = fWordOf f neg (findM f R (rmE f a b)) ∧ rX f m neg e s false = 0 := by
  obtain ⟨k, _, _, k3, k4, _⟩ := u_scale hb
  obtain ⟨hF, hf⟩ := fin_fits ha
  obtain ⟨M, m1, m2⟩ := lf_fits ha k3 k4 hR
  have e1 : findM f R (rmE f a b) = M := findM_eq hf m1 m2
  rw [e1]
  refine ex_round ho m1 ?_
  rw [hs, show e = rmE f a b - (j : Int) by omega]
  exact size_up m2
end Go.LE
namespace Go.LE
open Go
/-! ## the document's division: the dividend's digits taken in one by one -/
def mdP (A D B : Nat) (odd : Bool) (i : Int) : Prop := B = A / 2 ^ (i + 1).toNat % D ∧ odd = decide (A / 2 ^ (i + 1).toNat / D % 2 = 1)
theorem mdP_zero {A D : Nat} {i : Int} (h : A < 2 ^ (i + 1).toNat) : mdP A D 0 false i := by
  unfold mdP
  rw [Nat.div_eq_of_lt h, Nat.zero_mod, Nat.zero_div]
  exact ⟨rfl, rfl⟩
theorem mdP_step {A D B : Nat} {odd : Bool} {i : Int} (hD : 0 < D) (hi : 0 ≤ i) (h : mdP A D B odd i) :
    B < D ∧ (D ≤ 2 * B + A / 2 ^ i.toNat % 2 → mdP A D (2 * B + A / 2 ^ i.toNat % 2 - D) true (i - 1)) ∧ (2 * B + A / 2 ^ i.toNat % 2 < D → mdP A D (2 * B + A / 2 ^ i.toNat % 2) false (i - 1)) := by
  obtain ⟨h1, _⟩ := h
  have hB : B < D := by rw [h1]; exact Nat.mod_lt _ hD
  have e1 : A / 2 ^ (i + 1).toNat = A / 2 ^ i.toNat / 2 := by
    rw [show (i + 1).toNat = i.toNat + 1 by omega, Nat.pow_succ, Nat.div_div_eq_div_mul]
  have e2 : (i - 1 + 1).toNat = i.toNat := by omega
  rw [e1] at h1
  generalize hP : A / 2 ^ i.toNat = P at *
  have hq := Nat.div_add_mod (P / 2) D
  rw [← h1] at hq
  generalize P / 2 / D = Q at *
  have hP2 : P = 2 * (D * Q) + (2 * B + P % 2) := by omega
  refine ⟨hB, fun hc => ?_, fun hc => ?_⟩
  · unfold mdP
    rw [e2, hP]
    obtain ⟨d1, d2⟩ := (Nat.div_mod_unique (a := P) (b := D) (d := 2 * Q + 1) (c := 2 * B + P % 2 - D) hD).2 ⟨by
      rw [Nat.mul_add, Nat.mul_one, Nat.mul_left_comm]; omega, by omega⟩
    rw [d1, d2]
    exact ⟨rfl, (decide_eq_true (by omega)).symm⟩
  · unfold mdP
    rw [e2, hP]
    obtain ⟨d1, d2⟩ := (Nat.div_mod_unique (a := P) (b := D) (d := 2 * Q) (c := 2 * B + P % 2) hD).2 ⟨by
      rw [Nat.mul_left_comm]; omega, hc⟩
    rw [d1, d2]
    exact ⟨rfl, (decide_eq_false (by omega)).symm⟩
theorem mdP_end {A D B : Nat} {odd : Bool} {i : Int} (hi : i < 0) (h : mdP A D B odd i) : B = A % D ∧ odd = decide (A / D % 2 = 1) := by
  unfold mdP at h
  rw [show (i + 1).toNat = 0 by omega, Nat.pow_zero, Nat.div_one] at h
  exact h
/-- a digit of a shifted number -/
theorem md_bit {n sh : Nat} {i : Int} (hi : 0 ≤ i) : (0 ≤ i - (sh : Int) → n * 2 ^ sh / 2 ^ i.toNat = n / 2 ^ (i - (sh : Int)).toNat) ∧ (i - (sh : Int) < 0 → n * 2 ^ sh / 2 ^ i.toNat % 2 = 0) := by
  constructor
  · intro h
    have e : 2 ^ i.toNat = 2 ^ (i - (sh : Int)).toNat * 2 ^ sh := by rw [← Nat.pow_add]; congr 1; omega
    rw [e, Nat.mul_div_mul_right _ _ (Nat.two_pow_pos _)]
  · intro h
    have e : 2 ^ sh = 2 ^ (sh - i.toNat) * 2 ^ i.toNat := by rw [← Nat.pow_add]; congr 1; omega
    rw [e, ← Nat.mul_assoc, Nat.mul_div_cancel _ (Nat.two_pow_pos _), show sh - i.toNat = (sh - i.toNat - 1) + 1 by omega, Nat.pow_succ, ← Nat.mul_assoc, Nat.mul_mod_left]
theorem md_start (n sh : Nat) : n * 2 ^ sh < 2 ^ (((bitN n : Nat) : Int) + (sh : Int) - 1 + 1).toNat := by
  by_cases hn : n = 0
  · subst hn; rw [Nat.zero_mul]; exact Nat.two_pow_pos _
  · obtain ⟨_, n2, _⟩ := bitN_rng hn
    have e : 2 ^ (((bitN n : Nat) : Int) + (sh : Int) - 1 + 1).toNat = 2 ^ bitN n * 2 ^ sh := by rw [← Nat.pow_add]; congr 1; omega
    rw [e]
    exact Nat.mul_lt_mul_of_pos_right n2 (Nat.two_pow_pos _)
end Go.LE
namespace Go.LE
open Go
/-! ## what a division leaves, as a word; with the other sign -/
theorem sgn_v {f : Int} {w : BitVec 128} (h : fFits f w = true) (b : Bool) : wFin f (sgn f w b) = wFin f w ∧ vSig f (sgn f w b) = vSig f w ∧ vExp f (sgn f w b) = vExp f w ∧ uOk f (sgn f w b) = uOk f w := by
  have hf := (fits_lt h).1
  have e1 : wFin f (sgn f w b) = wFin f w := by unfold wFin; rw [sgn_cls h]
  obtain ⟨e2, e3⟩ := sgn_fld hf w b
  have e4 : vSig f (sgn f w b) = vSig f w := by unfold vSig; rw [e1, e2, e3]
  have e5 : vExp f (sgn f w b) = vExp f w := by unfold vExp; rw [e1, e2]
  exact ⟨e1, e4, e5, by unfold uOk; rw [e1, e4]⟩
theorem rm_sgn {f : Int} {a b : BitVec 128} (h : fFits f b = true) (s : Bool) : rmR f a (sgn f b s) = rmR f a b ∧ rmD f a (sgn f b s) = rmD f a b ∧ rmO f a (sgn f b s) = rmO f a b ∧ rmE f a (sgn f b s) = rmE f a b := by
  obtain ⟨_, e2, e3, _⟩ := sgn_v h s
  unfold rmR rmD rmO rmE
  rw [e2, e3]
  exact ⟨rfl, rfl, rfl, rfl⟩
theorem rm_below {f : Int} {a b : BitVec 128} (hz : (vSig f b).toNat ≠ 0) : rmR f a b < rmD f a b := (lf_below hz).1
theorem lf_word {f : Int} {a b : BitVec 128} (ha : wFin f a = true) (hb : wFin f b = true) (hz : (vSig f b).toNat ≠ 0) {R : Nat} (h1 : R ≤ rmR f a b) :
    findM f R (rmE f a b) < infN f ∧ sizeN (vSig f (wM f (findM f R (rmE f a b)))).toNat (vExp f (wM f (findM f R (rmE f a b)))) R (rmE f a b) = 0 := by
  obtain ⟨M, m1, m2⟩ := lf_fits ha hb hz h1
  obtain ⟨_, hf⟩ := fin_fits ha
  have e : findM f R (rmE f a b) = M := findM_eq hf m1 m2
  rw [e]
  exact ⟨m1, m2⟩
theorem rm_size {f : Int} {a b : BitVec 128} {x : Nat} {xe : Int} {R : Nat} (h : sizeN x xe R (rmE f a b) = 0) : (R < rmD f a b → sizeN x xe (vSig f b).toNat (vExp f b) < 0) ∧ (2 * R ≤ rmD f a b → sizeN x (xe + 1) (vSig f b).toNat (vExp f b) ≤ 0) := by
  have hE : rmE f a b ≤ vExp f b := by unfold rmE lfE; omega
  have eD : ∀ k, k ≤ rmE f a b → (vSig f b).toNat * 2 ^ (vExp f b - k).toNat = rmD f a b * 2 ^ (rmE f a b - k).toNat := fun k hk => by
    show _ = (vSig f b).toNat * 2 ^ (vExp f b - rmE f a b).toNat * _
    rw [Nat.mul_assoc, ← Nat.pow_add]
    congr 2
    omega
  have a1 := (sizeN_at (k := min xe (rmE f a b)) (by omega) (by omega)).1.1 h
  have hp := Nat.two_pow_pos (rmE f a b - min xe (rmE f a b)).toNat
  constructor
  · intro hR
    refine (sizeN_at (k := min xe (rmE f a b)) (by omega) (by omega)).2.2 ?_
    rw [a1, eD _ (by omega)]
    exact Nat.mul_lt_mul_of_pos_right hR hp
  · intro hR
    obtain ⟨z1, z2⟩ := sizeN_at (a := x) (b := (vSig f b).toNat) (e := xe + 1) (g := vExp f b) (k := min xe (rmE f a b)) (by omega) (by omega)
    have e2 : x * 2 ^ (xe + 1 - min xe (rmE f a b)).toNat = 2 * R * 2 ^ (rmE f a b - min xe (rmE f a b)).toNat := by
      rw [show (xe + 1 - min xe (rmE f a b)).toNat = (xe - min xe (rmE f a b)).toNat + 1 by omega, Nat.pow_succ, ← Nat.mul_assoc, a1, Nat.mul_comm _ 2, Nat.mul_assoc 2]
    rw [e2, eD _ (by omega)] at z1 z2
    have h3 := Nat.mul_le_mul_right (2 ^ (rmE f a b - min xe (rmE f a b)).toNat) hR
    rcases Nat.lt_or_eq_of_le h3 with h4 | h4
    · have := z2.2 h4; omega
    · have := z1.2 h4; omega
/-- what is left, divided again, leaves itself -/
theorem rm_again {f : Int} {b m : BitVec 128} {M : Nat} {s : Bool} (hf : 1 ≤ f ∧ f ≤ 4) (hM : M < infN f) (hm : m = fWordOf f s M) (h : sizeN (vSig f m).toNat (vExp f m) (vSig f b).toNat (vExp f b) < 0) : findM f (rmR f m b) (rmE f m b) = M := by
  have a1 := (sizeN_at (k := min (vExp f m) (vExp f b)) (by omega) (by omega)).2.1 h
  have e1 : rmR f m b = (vSig f m).toNat * 2 ^ (vExp f m - lfE (vExp f m) (vExp f b)).toNat := Nat.mod_eq_of_lt a1
  have z : sizeN (vSig f m).toNat (vExp f m) (rmR f m b) (rmE f m b) = 0 := by
    have hE : rmE f m b ≤ vExp f m := by unfold rmE lfE; omega
    refine (sizeN_at (k := rmE f m b) hE (Int.le_refl _)).1.2 ?_
    rw [e1, show (rmE f m b - rmE f m b).toNat = 0 by omega, Nat.pow_zero, Nat.mul_one]
    rfl
  subst hm
  have k1 : min (expO f) (rmE f (fWordOf f s M) b) ≤ expO f := by omega
  have k2 : min (expO f) (rmE f (fWordOf f s M) b) ≤ rmE f (fWordOf f s M) b := by omega
  exact findM_eq hf hM ((size_of hf hM false k1 k2).1.2 ((size_of hf hM s k1 k2).1.1 z))
/-- the digits of 32 bits of a number that isn't 0 -/
theorem dig_pos (n : Nat) : ((dig n).length : Int) > 0 ↔ n ≠ 0 := by
  cases n with
  | zero => simp [dig, digs]
  | succ n =>
    unfold dig digs
    rw [if_neg (by omega)]
    simp
end Go.LE