import Derived.Test.YtnanihpaifaceaaGreatDoorLeS
set_option linter.unusedVariables false
set_option linter.unusedSimpArgs false
namespace Go.LE
open Go
/-! ## division, digit by digit -/
def dvP (n d q l : Nat) (i : Int) : Prop := q = n / (d * 2 ^ (i + 1).toNat) ∧ l = n % (d * 2 ^ (i + 1).toNat)
theorem dv_zero {n d : Nat} (h : n < d * 2 ^ 128) : dvP n d 0 n 127 := by
  unfold dvP
  rw [show ((127 : Int) + 1).toNat = 128 by rfl]
  exact ⟨(Nat.div_eq_of_lt h).symm, (Nat.mod_eq_of_lt h).symm⟩
theorem dv_two {n d q l : Nat} {i : Int} (hd : d ≠ 0) (hi : 0 ≤ i) (h : dvP n d q l i) : n = 2 * (d * 2 ^ i.toNat) * q + l ∧ l < 2 * (d * 2 ^ i.toNat) ∧ 0 < d * 2 ^ i.toNat := by
  unfold dvP at h
  have e : d * 2 ^ (i + 1).toNat = 2 * (d * 2 ^ i.toNat) := by
    rw [show (i + 1).toNat = i.toNat + 1 by omega, Nat.pow_succ]
    rw [← Nat.mul_assoc, Nat.mul_comm]
  have hp : 0 < d * 2 ^ i.toNat := Nat.mul_pos (by omega) (Nat.two_pow_pos _)
  rw [e] at h
  obtain ⟨rfl, rfl⟩ := h
  exact ⟨(Nat.div_add_mod n _).symm, Nat.mod_lt _ (by omega), hp⟩
theorem dv_at {n d q l : Nat} {i : Int} (hd : d ≠ 0) (h1 : n = d * 2 ^ i.toNat * q + l) (h2 : l < d * 2 ^ i.toNat) (hi : 0 ≤ i) : dvP n d q l (i - 1) := by
  unfold dvP
  rw [show (i - 1 + 1).toNat = i.toNat by omega]
  have hp : 0 < d * 2 ^ i.toNat := Nat.mul_pos (by omega) (Nat.two_pow_pos _)
  obtain ⟨a, b⟩ := (Nat.div_mod_unique (a := n) (c := l) (d := q) hp).2 ⟨by omega, h2⟩
  exact ⟨a.symm, b.symm⟩
theorem dv_hit {n d q l : Nat} {i : Int} (hd : d ≠ 0) (hi : 0 ≤ i) (h : dvP n d q l i) (hl : d * 2 ^ i.toNat ≤ l) : dvP n d (q + q + 1) (l - d * 2 ^ i.toNat) (i - 1) := by
  obtain ⟨h1, h2, h3⟩ := dv_two hd hi h
  generalize hD : d * 2 ^ i.toNat = D at *
  refine dv_at hd ?_ (by rw [hD]; omega) hi
  rw [hD, h1, Nat.mul_add, Nat.mul_add, Nat.mul_one, Nat.mul_assoc, Nat.two_mul]
  omega
theorem dv_miss {n d q l : Nat} {i : Int} (hd : d ≠ 0) (hi : 0 ≤ i) (h : dvP n d q l i) (hl : l < d * 2 ^ i.toNat) : dvP n d (q + q) l (i - 1) := by
  obtain ⟨h1, h2, h3⟩ := dv_two hd hi h
  generalize hD : d * 2 ^ i.toNat = D at *
  refine dv_at hd ?_ (by rw [hD]; omega) hi
  rw [hD, h1, Nat.mul_add, Nat.mul_assoc, Nat.two_mul]
theorem dv_end {n d q l : Nat} {i : Int} (hi : i < 0) (h : dvP n d q l i) : q = n / d ∧ l = n % d := by
  unfold dvP at h
  rw [show (i + 1).toNat = 0 by omega, Nat.pow_zero, Nat.mul_one] at h
  exact h
theorem dv_qlt {n d q l : Nat} {i : Int} (hd : d ≠ 0) (hn : n < d * 2 ^ 128) (hi : -1 ≤ i) (h : dvP n d q l i) : q < 2 ^ 128 := by
  unfold dvP at h
  rw [h.1]
  have hp : 0 < d * 2 ^ (i + 1).toNat := Nat.mul_pos (by omega) (Nat.two_pow_pos _)
  rw [Nat.div_lt_iff_lt_mul hp]
  refine Nat.lt_of_lt_of_le hn ?_
  rw [Nat.mul_comm (2 ^ 128)]
  refine Nat.mul_le_mul_right _ ?_
  exact Nat.le_mul_of_pos_right _ (Nat.two_pow_pos _)
end Go.LE
namespace Go.LE
open Go
/-! ## what a division leaves -/
end Go.LE
namespace Go.LE
open Go
/-! ## a word's number is rounded to that word -/
theorem ex_round {f m : Int} {b : Bool} {e : Int} {s : W} {M : Nat} (ho : rOk f m e s false = true) (hM : M < infN f) (h : sizeN (vSig f (wM f M)).toNat (vExp f (wM f M)) s.toNat e = 0) :
    rW f m b e s false = fWordOf f b M ∧ rX f m b e s false = 0 := by
  have hx := ho
  unfold rOk at hx
  simp only [Bool.and_eq_true] at hx
  have hf : 1 ≤ f ∧ f ≤ 4 := of_decide_eq_true hx.1
  have hm : isM m = true := hx.2.1
  obtain ⟨w1, w2, w3, w4⟩ := of_fin hf hM b
  have h' := size_sgn hf hM h b
  by_cases hs : s = 0
  · have hz : s.toNat = 0 := by rw [← w_zero]; exact hs
    have e1 := findM_eq hf hM h
    rw [hz] at e1
    have e2 : M = 0 := by rw [← e1]; exact find_zero hf _
    unfold rW rX
    rw [ho, cond_true, cond_true, if_pos hs, if_pos hs, e2]
    exact ⟨rfl, rfl⟩
  · have hn : s.toNat ≠ 0 := fun hh => hs (by rw [w_zero]; exact hh)
    have hv : (vSig f (fWordOf f b M)).toNat ≠ 0 := fun hh => by
      rw [hh] at h'
      unfold sizeN at h'
      rw [if_pos (.inl rfl), if_pos rfl, if_neg hn] at h'
      omega
    have hvz : vSig f (fWordOf f b M) ≠ 0 := fun hh => hv (by rw [← w_zero]; exact hh)
    have hvn : vNeg f (fWordOf f b M) = b := by unfold vNeg; rw [w1]; exact w2
    obtain ⟨o1, o2, _⟩ := own_round w1 hm
    have oo : rOk f m (vExp f (fWordOf f b M)) (vSig f (fWordOf f b M)) false = true := own_right w1 hm
    unfold rW at o1
    unfold rX at o2
    rw [oo, cond_true, if_neg hvz, hvn] at o1 o2
    obtain ⟨s1, s2⟩ := rd_same hv hn h' f m b
    have c1 : rdW f m b (moreA (vSig f (fWordOf f b M)).toNat false) (moreG (vExp f (fWordOf f b M)) false) = rdW f m b s.toNat e := by
      show fWordOf f b (rdMag f m b (vSig f (fWordOf f b M)).toNat (vExp f (fWordOf f b M))) = fWordOf f b (rdMag f m b s.toNat e)
      rw [s1]
    have c2 : rdX f m b (moreA (vSig f (fWordOf f b M)).toNat false) (moreG (vExp f (fWordOf f b M)) false) = rdX f m b s.toNat e := s2
    rw [c1] at o1
    rw [c2] at o2
    unfold rW rX
    rw [ho, cond_true, cond_true, if_neg hs, if_neg hs]
    exact ⟨o1, o2⟩
/-! ## the steps of a small division -/
end Go.LE
namespace Go.LE
open Go
/-! ## what a division of words leaves, told by the unpacked divisor -/
theorem size_up {x R j : Nat} {q e : Int} (h : sizeN x q R e = 0) : sizeN x q (R * 2 ^ j) (e - (j : Int)) = 0 := by
  have h1 := (sizeN_at (k := min q (e - (j : Int))) (by omega) (by omega)).1.1 h
  refine (sizeN_at (k := min q (e - (j : Int))) (by omega) (by omega)).1.2 ?_
  rw [h1, Nat.mul_assoc, ← Nat.pow_add]
  congr 2
  omega
end Go.LE
namespace Go.LE
open Go
/-! ## the document's division: the dividend's digits taken in one by one -/
end Go.LE
namespace Go.LE
open Go
/-! ## what a division leaves, as a word; with the other sign -/
theorem sgn_v {f : Int} {w : BitVec 128} (h : fFits f w = true) (b : Bool) : wFin f (sgn f w b) = wFin f w ∧ vSig f (sgn f w b) = vSig f w ∧ vExp f (sgn f w b) = vExp f w ∧ uOk f (sgn f w b) = uOk f w := by
  have hf := (fits_lt h).1
  have e1 : wFin f (sgn f w b) = wFin f w := by unfold wFin; rw [sgn_cls h]
  obtain ⟨e2, e3⟩ := sgn_fld hf w b
  have e4 : vSig f (sgn f w b) = vSig f w := by unfold vSig; rw [e1, e2, e3]
  have e5 : vExp f (sgn f w b) = vExp f w := by unfold vExp; rw [e1, e2]
  exact ⟨e1, e4, e5, by unfold uOk; rw [e1, e4]⟩
end Go.LE
namespace Go.LE
open Go
set_option exponentiation.threshold 600
/-! ## square roots, digit by digit -/
theorem rt_ex (n : Nat) : ∃ s : Nat, s * s ≤ n ∧ n < (s + 1) * (s + 1) := by
  induction n with
  | zero => exact ⟨0, by omega, by omega⟩
  | succ n ih =>
    obtain ⟨s, h1, h2⟩ := ih
    by_cases h : (s + 1) * (s + 1) ≤ n + 1
    · refine ⟨s + 1, h, ?_⟩
      have : (s + 1) * (s + 1) < (s + 1 + 1) * (s + 1 + 1) := Nat.mul_lt_mul_of_lt_of_lt (by omega) (by omega)
      omega
    · exact ⟨s, by omega, by omega⟩
noncomputable def rtN (n : Nat) : Nat := Classical.choose (rt_ex n)
theorem rtN_is (n : Nat) : rtN n * rtN n ≤ n ∧ n < (rtN n + 1) * (rtN n + 1) := Classical.choose_spec (rt_ex n)
theorem sq_le {a b : Nat} : a * a ≤ b * b ↔ a ≤ b := by
  constructor
  · intro h
    rcases Nat.lt_or_ge b a with g | g
    · have := Nat.mul_lt_mul_of_lt_of_lt g g
      omega
    · exact g
  · intro h; exact Nat.mul_le_mul h h
theorem sq_lt {a b : Nat} : a * a < b * b ↔ a < b := by
  have := @sq_le b a
  omega
theorem rtN_eq {n s : Nat} (h1 : s * s ≤ n) (h2 : n < (s + 1) * (s + 1)) : s = rtN n := by
  obtain ⟨g1, g2⟩ := rtN_is n
  have a : s < rtN n + 1 := sq_lt.1 (by omega)
  have b : rtN n < s + 1 := sq_lt.1 (by omega)
  omega
def rtP (n s l t : Nat) (i : Int) : Prop := t = 2 * (s * 2 ^ (i + 1).toNat) ∧ l + (s * 2 ^ (i + 1).toNat) * (s * 2 ^ (i + 1).toNat) = n ∧
  n < (s * 2 ^ (i + 1).toNat + 2 ^ (i + 1).toNat) * (s * 2 ^ (i + 1).toNat + 2 ^ (i + 1).toNat) ∧ s * 2 ^ (i + 1).toNat + 2 ^ (i + 1).toNat ≤ 2 ^ 128
theorem rt_zero {n : Nat} (h : n < 2 ^ 256) : rtP n 0 n 0 127 := by
  unfold rtP
  rw [show ((127 : Int) + 1).toNat = 128 by rfl, Nat.zero_mul]
  refine ⟨rfl, by omega, ?_, by omega⟩
  rw [Nat.zero_add, ← Nat.pow_add]
  exact h
theorem rt_two {s : Nat} {i : Int} (hi : 0 ≤ i) : s * 2 ^ (i + 1).toNat = (s + s) * 2 ^ i.toNat ∧ 2 ^ (i + 1).toNat = 2 ^ i.toNat + 2 ^ i.toNat := by
  rw [show (i + 1).toNat = i.toNat + 1 by omega, Nat.pow_succ]
  refine ⟨?_, by omega⟩
  rw [← Nat.mul_assoc, Nat.add_mul]
  omega
theorem rt_trial (R p : Nat) : 2 * R * p + p * p + R * R = (R + p) * (R + p) := by
  rw [Nat.add_mul, Nat.mul_add, Nat.mul_add, Nat.mul_comm p R, Nat.mul_assoc]
  omega
theorem rt_bound {n s l t : Nat} {i : Int} (hi : 0 ≤ i) (h : rtP n s l t i) : t * 2 ^ i.toNat + 2 ^ (2 * i).toNat < 2 ^ 257 ∧ t + 2 ^ (i + 1).toNat ≤ 2 ^ 129 ∧ s + s + 1 < 2 ^ 129 ∧ t < 2 ^ 129 := by
  obtain ⟨h1, h2, h3, h4⟩ := h
  obtain ⟨e1, e2⟩ := @rt_two s i hi
  have hp : 0 < 2 ^ i.toNat := Nat.two_pow_pos _
  have hi2 : 2 ^ (2 * i).toNat = 2 ^ i.toNat * 2 ^ i.toNat := by rw [← Nat.pow_add]; congr 1; omega
  have hs1 : s ≤ s * 2 ^ (i + 1).toNat := Nat.le_mul_of_pos_right _ (Nat.two_pow_pos _)
  have e128 : 2 ^ 129 = 2 * 2 ^ 128 := by decide
  refine ⟨?_, by omega, by omega, by omega⟩
  generalize s * 2 ^ (i + 1).toNat = R at *
  rw [hi2, h1]
  generalize 2 ^ i.toNat = p at *
  have h5 := rt_trial R p
  have h6 : (R + p) * (R + p) ≤ 2 ^ 128 * 2 ^ 128 := Nat.mul_le_mul (by omega) (by omega)
  have h7 : 2 ^ 257 = 2 * (2 ^ 128 * 2 ^ 128) := by decide
  have : 0 < (2 ^ 128 * 2 ^ 128 : Nat) := by rw [← Nat.pow_add]; exact Nat.two_pow_pos _
  omega
theorem rt_hit {n s l t : Nat} {i : Int} (hi : 0 ≤ i) (h : rtP n s l t i) (hl : t * 2 ^ i.toNat + 2 ^ (2 * i).toNat ≤ l) : rtP n (s + s + 1) (l - (t * 2 ^ i.toNat + 2 ^ (2 * i).toNat)) (t + 2 ^ (i + 1).toNat) (i - 1) := by
  obtain ⟨h1, h2, h3, h4⟩ := h
  obtain ⟨e1, e2⟩ := @rt_two s i hi
  have hi2 : 2 ^ (2 * i).toNat = 2 ^ i.toNat * 2 ^ i.toNat := by rw [← Nat.pow_add]; congr 1; omega
  unfold rtP
  rw [show (i - 1 + 1).toNat = i.toNat by omega, Nat.add_mul, ← e1, Nat.one_mul]
  rw [hi2] at hl ⊢
  clear e1
  generalize s * 2 ^ (i + 1).toNat = R at *
  rw [e2] at h3 h4 ⊢
  clear e2 hi2
  generalize 2 ^ i.toNat = p at *
  have h5 := rt_trial R p
  rw [h1] at hl ⊢
  refine ⟨by omega, by omega, ?_, by omega⟩
  rw [Nat.add_assoc]; exact h3
theorem rt_miss {n s l t : Nat} {i : Int} (hi : 0 ≤ i) (h : rtP n s l t i) (hl : l < t * 2 ^ i.toNat + 2 ^ (2 * i).toNat) : rtP n (s + s) l t (i - 1) := by
  obtain ⟨h1, h2, h3, h4⟩ := h
  obtain ⟨e1, e2⟩ := @rt_two s i hi
  have hi2 : 2 ^ (2 * i).toNat = 2 ^ i.toNat * 2 ^ i.toNat := by rw [← Nat.pow_add]; congr 1; omega
  unfold rtP
  rw [show (i - 1 + 1).toNat = i.toNat by omega, ← e1]
  rw [hi2] at hl
  clear e1
  generalize s * 2 ^ (i + 1).toNat = R at *
  rw [e2] at h3 h4
  clear e2 hi2
  generalize 2 ^ i.toNat = p at *
  have h5 := rt_trial R p
  rw [h1] at hl ⊢
  exact ⟨rfl, h2, by omega, by omega⟩
theorem rt_end {n s l t : Nat} {i : Int} (hi : i < 0) (h : rtP n s l t i) : s = rtN n ∧ l = n - rtN n * rtN n := by
  obtain ⟨h1, h2, h3, h4⟩ := h
  rw [show (i + 1).toNat = 0 by omega, Nat.pow_zero, Nat.mul_one] at h2 h3
  have := rtN_eq (n := n) (s := s) (by omega) h3
  subst this
  exact ⟨rfl, by omega⟩
theorem rtN_lt {n k : Nat} (h : n < 2 ^ (2 * k)) : rtN n < 2 ^ k := by
  refine sq_lt.1 (Nat.lt_of_le_of_lt (rtN_is n).1 ?_)
  rw [← Nat.pow_add, ← Nat.two_mul]
  exact h
end Go.LE
namespace Go.LE
open Go
set_option exponentiation.threshold 600
/-! ## quotients of words, and how they are rounded -/
def qvN (f : Int) (a : BitVec 128) : Nat := (uSig f a).toNat * 2 ^ (fPrec f + 2).toNat
def qvQ (f : Int) (a b : BitVec 128) : Nat := qvN f a / (uSig f b).toNat
def qvR (f : Int) (a b : BitVec 128) : Nat := qvN f a % (uSig f b).toNat
def qvE (f : Int) (a b : BitVec 128) : Int := uExp f a - uExp f b - fPrec f - 2
def qvW (f : Int) (a b : BitVec 128) : W := BitVec.ofNat 512 (qvQ f a b)
def qvM (f : Int) (a b : BitVec 128) : Bool := !decide (qvR f a b = 0)
theorem uOk_parts {f : Int} {w : BitVec 128} (h : uOk f w = true) : wFin f w = true ∧ (1 ≤ f ∧ f ≤ 4) ∧ vSig f w ≠ 0 := by
  unfold uOk at h
  simp only [Bool.and_eq_true, Bool.not_eq_true', decide_eq_false_iff_not] at h
  exact ⟨h.1, (fin_fits h.1).2, h.2⟩
theorem uSig_rng {f : Int} {w : BitVec 128} (h : uOk f w = true) : 2 ^ (fPrec f - 1).toNat ≤ (uSig f w).toNat ∧ (uSig f w).toNat < 2 ^ (fPrec f).toNat := by
  obtain ⟨hfin, ub, _⟩ := u_own h
  obtain ⟨_, hf, _⟩ := uOk_parts h
  have hp := p_rng f hf
  have := (bitN_iff (n := (uSig f w).toNat) (k := (fPrec f).toNat) (by omega)).1 (by omega)
  rw [show (fPrec f - 1).toNat = (fPrec f).toNat - 1 by omega]
  exact this
theorem uExp_rng {f : Int} {w : BitVec 128} (h : uOk f w = true) : -16700 ≤ uExp f w ∧ uExp f w ≤ 16384 := by
  obtain ⟨hfin, hf, hne⟩ := uOk_parts h
  have hp := p_rng f hf
  have hv := vExp_rng hfin
  have hl := bitN_wLen (vSig f w)
  have hb := bitN_le.2 (vSig_lt hfin)
  obtain ⟨_, p2, _⟩ := u_parts h
  have h0 : 1 ≤ bitN (vSig f w).toNat := bitN_pos (fun hh => hne (by rw [w_zero]; exact hh))
  rw [p2]
  omega
theorem qv_rng {f : Int} {a b : BitVec 128} (ha : uOk f a = true) (hb : uOk f b = true) : 2 ^ (fPrec f + 1).toNat ≤ qvQ f a b ∧ qvQ f a b < 2 ^ (fPrec f + 3).toNat ∧ (uSig f b).toNat ≠ 0 ∧ qvN f a < 2 ^ 228 := by
  obtain ⟨_, hf, _⟩ := uOk_parts ha
  have hp := p_rng f hf
  obtain ⟨a1, a2⟩ := uSig_rng ha
  obtain ⟨b1, b2⟩ := uSig_rng hb
  have hb0 : 0 < (uSig f b).toNat := by have := Nat.two_pow_pos (fPrec f - 1).toNat; omega
  have eP : 2 ^ (fPrec f).toNat = 2 * 2 ^ (fPrec f - 1).toNat := by rw [show (fPrec f).toNat = (fPrec f - 1).toNat + 1 by omega, Nat.pow_succ]; omega
  have e1 : 2 ^ (fPrec f + 1).toNat = 2 * 2 ^ (fPrec f).toNat := by rw [show (fPrec f + 1).toNat = (fPrec f).toNat + 1 by omega, Nat.pow_succ]; omega
  have e2 : 2 ^ (fPrec f + 2).toNat = 4 * 2 ^ (fPrec f).toNat := by rw [show (fPrec f + 2).toNat = (fPrec f).toNat + 2 by omega, Nat.pow_add]; omega
  have e3 : 2 ^ (fPrec f + 3).toNat = 8 * 2 ^ (fPrec f).toNat := by rw [show (fPrec f + 3).toNat = (fPrec f).toNat + 3 by omega, Nat.pow_add]; omega
  refine ⟨?_, ?_, by omega, ?_⟩
  · unfold qvQ qvN
    rw [Nat.le_div_iff_mul_le hb0, e1, e2, Nat.mul_comm (uSig f a).toNat]
    rw [eP] at b2 ⊢
    generalize 2 ^ (fPrec f - 1).toNat = P at *
    calc 2 * (2 * P) * (uSig f b).toNat ≤ 2 * (2 * P) * (2 * P) := Nat.mul_le_mul_left _ (by omega)
      _ = 4 * (2 * P) * P := by rw [← Nat.mul_assoc, Nat.mul_comm (2 * (2 * P)) 2, ← Nat.mul_assoc]
      _ ≤ 4 * (2 * P) * (uSig f a).toNat := Nat.mul_le_mul_left _ a1
  · unfold qvQ qvN
    rw [Nat.div_lt_iff_lt_mul hb0, e3, e2, Nat.mul_comm (uSig f a).toNat]
    rw [eP] at a2 ⊢
    generalize 2 ^ (fPrec f - 1).toNat = P at *
    have hP : 0 < P := by omega
    calc 4 * (2 * P) * (uSig f a).toNat < 4 * (2 * P) * (2 * P) := Nat.mul_lt_mul_of_pos_left a2 (by omega)
      _ = 8 * (2 * P) * P := by rw [← Nat.mul_assoc, Nat.mul_comm (4 * (2 * P)) 2, ← Nat.mul_assoc]
      _ ≤ 8 * (2 * P) * (uSig f b).toNat := Nat.mul_le_mul_left _ b1
  · unfold qvN
    calc (uSig f a).toNat * 2 ^ (fPrec f + 2).toNat < 2 ^ (fPrec f).toNat * 2 ^ (fPrec f + 2).toNat := Nat.mul_lt_mul_of_pos_right a2 (Nat.two_pow_pos _)
      _ = 2 ^ ((fPrec f).toNat + (fPrec f + 2).toNat) := (Nat.pow_add _ _ _).symm
      _ ≤ 2 ^ 228 := Nat.pow_le_pow_right (by decide) (by omega)
theorem qvW_nat {f : Int} {a b : BitVec 128} (ha : uOk f a = true) (hb : uOk f b = true) : (qvW f a b).toNat = qvQ f a b := by
  obtain ⟨_, h, _⟩ := qv_rng ha hb
  obtain ⟨_, hf, _⟩ := uOk_parts ha
  have hp := p_rng f hf
  unfold qvW
  rw [BitVec.toNat_ofNat, Nat.mod_eq_of_lt]
  exact Nat.lt_of_lt_of_le h (Nat.pow_le_pow_right (by decide) (by omega))
theorem qv_len {f : Int} {a b : BitVec 128} (ha : uOk f a = true) (hb : uOk f b = true) : fPrec f + 2 ≤ wLen (qvW f a b) ∧ wLen (qvW f a b) ≤ fPrec f + 3 := by
  obtain ⟨h1, h2, _⟩ := qv_rng ha hb
  obtain ⟨_, hf, _⟩ := uOk_parts ha
  have hp := p_rng f hf
  rw [← bitN_wLen, qvW_nat ha hb]
  have a1 := bitN_le.2 h2
  have a2 : ¬ bitN (qvQ f a b) ≤ (fPrec f + 1).toNat := fun h => by
    have := bitN_le.1 h
    omega
  omega
/-- a quotient may be rounded -/
theorem qv_ok {f m : Int} {a b : BitVec 128} (hm : isM m = true) (ha : uOk f a = true) (hb : uOk f b = true) (more : Bool) : rOk f m (qvE f a b) (qvW f a b) more = true ∧ qvW f a b ≠ 0 := by
  obtain ⟨_, hf, _⟩ := uOk_parts ha
  have hp := p_rng f hf
  obtain ⟨l1, l2⟩ := qv_len ha hb
  have xa := uExp_rng ha
  have xb := uExp_rng hb
  refine ⟨?_, fun h => by rw [h] at l1; have h0 := bitN_wLen (0 : W); have hz : (0 : W).toNat = 0 := w_zero.mp rfl; rw [hz, bitN_zero] at h0; omega⟩
  unfold rOk rightN rgtE
  rw [hm]
  simp only [fOk, Bool.and_eq_true, decide_eq_true_eq, Bool.true_and, Bool.or_eq_true]
  unfold qvE
  refine ⟨hf, by omega, by omega, by omega, .inr (by omega)⟩
/-! ## mirrors -/
def mirM (m : Int) : Int := if 4 ≤ m then 9 - m else m
theorem mir_is (m : Int) (h : isM m = true) : isM (mirM m) = true := by
  unfold isM mirM at *
  rw [decide_eq_true_eq] at *
  split <;> omega
theorem grows_mir {m : Int} (h : isM m = true) (neg odd : Bool) (r : Int) : growsM (mirM m) (!neg) odd r = growsM m neg odd r := by
  unfold isM at h
  rw [decide_eq_true_eq] at h
  have : m = 1 ∨ m = 2 ∨ m = 3 ∨ m = 4 ∨ m = 5 := by omega
  unfold growsM
  rcases this with rfl | rfl | rfl | rfl | rfl <;> simp [mirM]
theorem up_mir {m : Int} (h : isM m = true) (neg : Bool) (a : Nat) (g p : Int) : upQ (mirM m) (!neg) a g p = upQ m neg a g p := by
  unfold upQ
  rw [grows_mir h]
theorem rd_mir {f m : Int} (h : isM m = true) (neg : Bool) (a : Nat) (g : Int) : rdMag f (mirM m) (!neg) a g = rdMag f m neg a g ∧ rdX f (mirM m) (!neg) a g = rdX f m neg a g := by
  have hU : rdU f (mirM m) (!neg) a g = rdU f m neg a g := up_mir h _ _ _ _
  have hT : rdT f (mirM m) (!neg) a g = rdT f m neg a g := by unfold rdT; rw [hU]
  have hO : overInf (mirM m) (!neg) = overInf m neg := by
    unfold overInf
    rw [grows_mir h]
    unfold isM at h
    rw [decide_eq_true_eq] at h
    congr 1
    · exact decide_eq_decide.2 (by unfold mirM; split <;> omega)
    · congr 1
      exact decide_eq_decide.2 (by unfold mirM; split <;> omega)
  unfold rdMag rdX
  rw [hT, hU, hO, up_mir h]
  exact ⟨rfl, rfl⟩
theorem rOk_mode {f m n e : Int} {s : W} {more : Bool} (h : rOk f m e s more = true) (hn : isM n = true) : rOk f n e s more = true := by
  unfold rOk at *
  simp only [Bool.and_eq_true] at *
  exact ⟨h.1, hn, h.2.2⟩
/-- the other sign, and the mirrored mode -/
theorem r_mir {f m e : Int} {s : W} {more : Bool} (h : rOk f m e s more = true) (hs : s ≠ 0) (b : Bool) :
    rW f (mirM m) (!b) e s more = sgn f (rW f m b e s more) (!wNeg f (rW f m b e s more)) ∧ rX f (mirM m) (!b) e s more = rX f m b e s more ∧ fFits f (rW f m b e s more) = true ∧ 3 ≤ cls f (rW f m b e s more) := by
  obtain ⟨hf, hm, _⟩ := ro_parts h
  have h2 := rOk_mode h (mir_is m hm)
  unfold rW rX
  rw [h, h2, cond_true, cond_true, cond_true, cond_true, if_neg hs, if_neg hs, if_neg hs, if_neg hs]
  unfold rdW
  obtain ⟨e1, e2⟩ := rd_mir (f := f) hm b (moreA s.toNat more) (moreG e more)
  rw [e1, e2]
  have ha : moreA s.toNat more ≠ 0 := (more_top (fun hh => hs (by rw [w_zero]; exact hh)) e more).2
  have hi := rd_inf hf ha (moreG e more) m b
  have hh := inf_pos hf
  have hlt : rdMag f m b (moreA s.toNat more) (moreG e more) < halfN f := by omega
  have hF := wOf_fits hf hlt b
  refine ⟨(turn_word hf hlt b).symm, rfl, hF, ?_⟩
  obtain ⟨c1, _⟩ := cls_mag hF
  rw [wOf_mag hf hlt] at c1
  omega
end Go.LE
namespace Go.LE
open Go
set_option exponentiation.threshold 600
/-! ## what is rounded without flags is exact -/
theorem size_tr0 {a b c : Nat} {e g h : Int} (h1 : sizeN a e b g = 0) (h2 : sizeN b g c h = 0) : sizeN a e c h = 0 := by
  have a1 := (sizeN_at (k := min e (min g h)) (by omega) (by omega)).1.1 h1
  have a2 := (sizeN_at (k := min e (min g h)) (by omega) (by omega)).1.1 h2
  exact (sizeN_at (k := min e (min g h)) (by omega) (by omega)).1.2 (a1.trans a2)
theorem up_floor {m : Int} {neg : Bool} {a : Nat} {g p : Int} (h : restQ a g p = 0) : upQ m neg a g p = floorQ a g p := by
  unfold upQ
  rw [h, grows_zero]
  rfl
theorem mag_size {f : Int} (hf : 1 ≤ f ∧ f ≤ 4) {M u D : Nat} (hM : M < infN f) (h : magV f M = u * 2 ^ D) (b : Bool) : sizeN (vSig f (fWordOf f b M)).toNat (vExp f (fWordOf f b M)) u (expO f + (D : Int)) = 0 := by
  obtain ⟨w1, w2, w3, w4⟩ := of_fin hf hM b
  obtain ⟨e1, e2⟩ := vMag w1
  rw [w3, h] at e2
  refine (sizeN_at (k := expO f) e1 (by omega)).1.2 ?_
  rw [e2]
  congr 2
  omega
theorem rd_exact0 {f : Int} (hf : 1 ≤ f ∧ f ≤ 4) {a : Nat} (ha : a ≠ 0) {g m : Int} {neg : Bool} (h : rdX f m neg a g = 0) (b : Bool) :
    rdMag f m neg a g < infN f ∧ sizeN (vSig f (fWordOf f b (rdMag f m neg a g))).toNat (vExp f (fWordOf f b (rdMag f m neg a g))) a g = 0 := by
  have hp := p_rng f hf
  have he := e_rng f hf
  have hx : expO f = 2 - fEMax f - fPrec f := rfl
  unfold rdX at h
  by_cases c1 : fEMax f < rdT f m neg a g
  · rw [if_pos c1] at h; omega
  · rw [if_neg c1] at h
    by_cases c2 : rdT f m neg a g < 1 - fEMax f
    · rw [if_pos c2] at h
      by_cases c3 : restQ a g (expO f) = 0
      · obtain ⟨k1, k2, k3, _⟩ := rd_sub hf ha c2
        have hm := magV_sub f k2
        refine ⟨k3, ?_⟩
        have s1 := mag_size hf k3 (u := rdMag f m neg a g) (D := 0) (by rw [hm]; simp) b
        refine size_tr0 s1 ?_
        rw [k1, up_floor c3]
        rw [show expO f + ((0 : Nat) : Int) = expO f by omega]
        exact floorQ_eq.2 c3
      · rw [if_neg c3] at h; omega
    · rw [if_neg c2] at h
      by_cases c3 : restQ a g (topQ a g - fPrec f + 1) = 0
      · obtain ⟨k1, _, _, _⟩ := rd_normal hf ha (g := g) (m := m) (neg := neg) (by omega) (by omega)
        have hU : rdU f m neg a g = floorQ a g (topQ a g - fPrec f + 1) := up_floor c3
        obtain ⟨u1, u2⟩ := rdU_rng hf ha g m neg
        have hfl := floor_top ha g (P := (fPrec f).toNat) (by omega)
        rw [show (((fPrec f).toNat : Nat) : Int) = fPrec f by omega, ← hU] at hfl
        have hT : rdT f m neg a g = topQ a g := by
          rcases rdT_two hf ha g m neg with t | t
          · exact t.2
          · omega
        have hmag : rdMag f m neg a g = (topQ a g - (1 - fEMax f)).toNat * 2 ^ (fPrec f - 1).toNat + rdU f m neg a g := by
          unfold rdMag
          rw [if_neg c1, if_neg c2]
          have : (topQ a g - (1 - fEMax f)) * ((2 ^ (fPrec f - 1).toNat : Nat) : Int) = (((topQ a g - (1 - fEMax f)).toNat * 2 ^ (fPrec f - 1).toNat : Nat) : Int) := by
            rw [Int.natCast_mul]
            congr 1
            omega
          rw [this]
          omega
        have h2 := two_prec hf
        have hv := magV_at f (D := (topQ a g - (1 - fEMax f)).toNat) u1 (by omega)
        rw [← hmag] at hv
        refine ⟨k1, size_tr0 (mag_size hf k1 hv b) ?_⟩
        rw [hU, show expO f + ((topQ a g - (1 - fEMax f)).toNat : Int) = topQ a g - fPrec f + 1 by omega]
        exact floorQ_eq.2 c3
      · rw [if_neg c3] at h; omega
theorem rest_odd {s : Nat} {e p : Int} (hp : e ≤ p) : restQ (2 * s + 1) (e - 1) p ≠ 0 := by
  intro h
  have h1 := floorQ_eq.2 h
  have h2 := (sizeN_at (k := e - 1) (by omega) (Int.le_refl _)).1.1 h1
  rw [show (e - 1 - (e - 1)).toNat = 0 by omega, Nat.pow_zero, Nat.mul_one, show (p - (e - 1)).toNat = (p - e).toNat + 1 by omega, Nat.pow_succ] at h2
  generalize floorQ (2 * s + 1) (e - 1) p = F at h2
  rw [← Nat.mul_assoc] at h2
  omega
/-- a rounding that tells no flag: nothing was left, and the word's number is what was rounded -/
theorem r_exact {f m e : Int} {s : W} {more b : Bool} (ho : rOk f m e s more = true) (hs : s ≠ 0) (h : rX f m b e s more = 0) (hl : more = true → fPrec f < wLen s) :
    more = false ∧ ∃ M, M < infN f ∧ rW f m b e s more = fWordOf f b M ∧ sizeN (vSig f (fWordOf f b M)).toNat (vExp f (fWordOf f b M)) s.toNat e = 0 := by
  obtain ⟨hf, hm, _⟩ := ro_parts ho
  have hp := p_rng f hf
  have hsn : s.toNat ≠ 0 := fun hh => hs (by rw [w_zero]; exact hh)
  unfold rX at h
  rw [ho, cond_true, if_neg hs] at h
  obtain ⟨ht, ha⟩ := more_top hsn e more
  obtain ⟨x1, x2⟩ := rd_exact0 hf ha h b
  have hmore : more = false := by
    cases hm2 : more with
    | false => rfl
    | true =>
      rw [hm2] at h ht
      have hl2 := hl hm2
      have hw := bitN_wLen s
      simp only [moreA, moreG, cond_true] at h ht
      have htop : topQ s.toNat e = e + (bitN s.toNat : Int) - 1 := rfl
      unfold rdX at h
      by_cases c1 : fEMax f < rdT f m b (2 * s.toNat + 1) (e - 1)
      · rw [if_pos c1] at h; omega
      · rw [if_neg c1] at h
        by_cases c2 : rdT f m b (2 * s.toNat + 1) (e - 1) < 1 - fEMax f
        · rw [if_pos c2] at h
          obtain ⟨_, _, _, _, k5⟩ := rd_sub hf (a := 2 * s.toNat + 1) (by omega) c2
          have hx : expO f = 2 - fEMax f - fPrec f := rfl
          rw [if_neg (rest_odd (by omega))] at h
          omega
        · rw [if_neg c2, if_neg (rest_odd (by omega))] at h
          omega
  refine ⟨hmore, _, x1, ?_, ?_⟩
  · unfold rW rdW
    rw [ho, cond_true, if_neg hs]
  · rw [hmore] at x2 ⊢
    exact x2
end Go.LE
namespace Go.LE
open Go
set_option exponentiation.threshold 600
/-! ## roots of words -/
def rtBy (f : Int) (a : BitVec 128) : Int := fPrec f + 4 + (uExp f a - (fPrec f + 4)) % 2
def rtn (f : Int) (a : BitVec 128) : Nat := (uSig f a).toNat * 2 ^ (rtBy f a).toNat
def rtE (f : Int) (a : BitVec 128) : Int := (uExp f a - rtBy f a) / 2
noncomputable def rtS (f : Int) (a : BitVec 128) : W := BitVec.ofNat 512 (rtN (rtn f a))
noncomputable def rtM (f : Int) (a : BitVec 128) : Bool := !decide (rtn f a - rtN (rtn f a) * rtN (rtn f a) = 0)
theorem rt_by {f : Int} {a : BitVec 128} (h : uOk f a = true) : fPrec f + 4 ≤ rtBy f a ∧ rtBy f a ≤ fPrec f + 5 ∧ uExp f a = rtBy f a + 2 * rtE f a := by
  unfold rtE rtBy
  omega
theorem rtn_rng {f : Int} {a : BitVec 128} (h : uOk f a = true) : 2 ^ (2 * (fPrec f + 1).toNat) ≤ rtn f a ∧ rtn f a < 2 ^ (2 * (fPrec f + 3).toNat) := by
  obtain ⟨_, hf, _⟩ := uOk_parts h
  have hp := p_rng f hf
  obtain ⟨a1, a2⟩ := uSig_rng h
  obtain ⟨b1, b2, _⟩ := rt_by h
  unfold rtn
  constructor
  · calc 2 ^ (2 * (fPrec f + 1).toNat) ≤ 2 ^ ((fPrec f - 1).toNat + (rtBy f a).toNat) := Nat.pow_le_pow_right (by decide) (by omega)
      _ = 2 ^ (fPrec f - 1).toNat * 2 ^ (rtBy f a).toNat := Nat.pow_add _ _ _
      _ ≤ _ := Nat.mul_le_mul_right _ a1
  · calc (uSig f a).toNat * 2 ^ (rtBy f a).toNat < 2 ^ (fPrec f).toNat * 2 ^ (rtBy f a).toNat := Nat.mul_lt_mul_of_pos_right a2 (Nat.two_pow_pos _)
      _ = 2 ^ ((fPrec f).toNat + (rtBy f a).toNat) := (Nat.pow_add _ _ _).symm
      _ ≤ _ := Nat.pow_le_pow_right (by decide) (by omega)
theorem rtn_lt {f : Int} {a : BitVec 128} (h : uOk f a = true) : rtn f a < 2 ^ 256 := by
  obtain ⟨_, hf, _⟩ := uOk_parts h
  have hp := p_rng f hf
  exact Nat.lt_of_lt_of_le (rtn_rng h).2 (Nat.pow_le_pow_right (by decide) (by omega))
theorem rts_rng {f : Int} {a : BitVec 128} (h : uOk f a = true) : 2 ^ (fPrec f + 1).toNat ≤ rtN (rtn f a) ∧ rtN (rtn f a) < 2 ^ (fPrec f + 3).toNat ∧ (rtS f a).toNat = rtN (rtn f a) := by
  obtain ⟨_, hf, _⟩ := uOk_parts h
  have hp := p_rng f hf
  obtain ⟨h1, h2⟩ := rtn_rng h
  have a2 := rtN_lt h2
  refine ⟨?_, a2, ?_⟩
  · rw [Nat.two_mul, Nat.pow_add] at h1
    have := (rtN_is (rtn f a)).2
    have := sq_lt.1 (Nat.lt_of_le_of_lt h1 this)
    omega
  · unfold rtS
    rw [BitVec.toNat_ofNat, Nat.mod_eq_of_lt]
    exact Nat.lt_of_lt_of_le a2 (Nat.pow_le_pow_right (by decide) (by omega))
theorem rt_len {f : Int} {a : BitVec 128} (h : uOk f a = true) : fPrec f + 2 ≤ wLen (rtS f a) ∧ wLen (rtS f a) ≤ fPrec f + 3 := by
  obtain ⟨_, hf, _⟩ := uOk_parts h
  have hp := p_rng f hf
  obtain ⟨h1, h2, h3⟩ := rts_rng h
  rw [← bitN_wLen, h3]
  have a1 := bitN_le.2 h2
  have a2 : ¬ bitN (rtN (rtn f a)) ≤ (fPrec f + 1).toNat := fun h => by
    have := bitN_le.1 h
    omega
  omega
theorem len_pos {s : W} {k : Int} (h : k ≤ wLen s) (hk : 0 < k) : s ≠ 0 := fun h0 => by
  rw [h0] at h
  have e := bitN_wLen (0 : W)
  have hz : (0 : W).toNat = 0 := w_zero.mp rfl
  rw [hz, bitN_zero] at e
  omega
theorem rt_ok {f m : Int} {a : BitVec 128} (hm : isM m = true) (ha : uOk f a = true) (more : Bool) : rOk f m (rtE f a) (rtS f a) more = true ∧ rtS f a ≠ 0 := by
  obtain ⟨_, hf, _⟩ := uOk_parts ha
  have hp := p_rng f hf
  obtain ⟨l1, l2⟩ := rt_len ha
  have xa := uExp_rng ha
  obtain ⟨b1, b2, b3⟩ := rt_by ha
  refine ⟨?_, len_pos l1 (by omega)⟩
  unfold rOk rightN rgtE
  rw [hm]
  simp only [fOk, Bool.and_eq_true, decide_eq_true_eq, Bool.true_and, Bool.or_eq_true]
  exact ⟨hf, by omega, by omega, by omega, .inr (by omega)⟩
/-! ## what is divided by itself, and by 1 -/
theorem one_facts {f : Int} (hf : 1 ≤ f ∧ f ≤ 4) : uOk f (fOne f) = true ∧ vSig f (fOne f) = wPower (fPrec f - 1) ∧ vExp f (fOne f) = 1 - fPrec f ∧ wNeg f (fOne f) = false := by
  rcases f_cases hf with rfl | rfl | rfl | rfl <;> decide +kernel
theorem oneM {f : Int} (hf : 1 ≤ f ∧ f ≤ 4) : (2 ^ (fField f - 1).toNat - 1) * 2 ^ (fPrec f - 1).toNat < infN f := by
  rcases f_cases hf with rfl | rfl | rfl | rfl <;> decide +kernel
theorem pow_nat {n : Int} (h : 0 ≤ n) (h2 : n < 512) : (wPower n).toNat = 2 ^ n.toNat := by
  exact power_toNat ⟨h, h2⟩
theorem q_exact {f : Int} {a b : BitVec 128} (hb : uOk f b = true) {k : Nat} (h : qvN f a = k * (uSig f b).toNat) (ha : uOk f a = true) : qvM f a b = false ∧ (qvW f a b).toNat = k := by
  have hb0 := (qv_rng ha hb).2.2.1
  rw [qvW_nat ha hb]
  unfold qvM qvR qvQ
  rw [h, Nat.mul_mod_left, Nat.mul_div_cancel _ (by omega)]
  exact ⟨rfl, rfl⟩
theorem self_a {f m : Int} {a : BitVec 128} (hm : isM m = true) (ha : uOk f a = true) : rW f m (dvNeg f a a) (qvE f a a) (qvW f a a) (qvM f a a) = fOne f ∧ rX f m (dvNeg f a a) (qvE f a a) (qvW f a a) (qvM f a a) = 0 := by
  obtain ⟨_, hf, _⟩ := uOk_parts ha
  have hp := p_rng f hf
  obtain ⟨h1, h2⟩ := q_exact ha (k := 2 ^ (fPrec f + 2).toNat) (by unfold qvN; exact Nat.mul_comm _ _) ha
  have hn : dvNeg f a a = false := by unfold dvNeg; simp
  rw [h1, hn]
  refine ex_round (qv_ok hm ha ha false).1 (oneM hf) ?_
  obtain ⟨_, o2, o3, _⟩ := one_facts hf
  show sizeN (vSig f (fOne f)).toNat (vExp f (fOne f)) _ _ = 0
  rw [o2, o3, h2, pow_nat (by omega) (by omega)]
  unfold qvE
  refine (sizeN_at (k := - fPrec f - 2) (by omega) (by omega)).1.2 ?_
  rw [← Nat.pow_add, ← Nat.pow_add]
  congr 1
  omega
theorem word_of {f : Int} {w : BitVec 128} (h : wFin f w = true) : fWordOf f (wNeg f w) (magN f w) = w ∧ magN f w < infN f ∧ sizeN (vSig f (wM f (magN f w))).toNat (vExp f (wM f (magN f w))) (vSig f w).toNat (vExp f w) = 0 := by
  obtain ⟨hF, hf⟩ := fin_fits h
  have hM : magN f w < infN f := (cls_mag hF).2.2.1.1 ((fin_iff f w).1 h)
  refine ⟨(w_own hF).symm, hM, ?_⟩
  have e := (w_own hF).symm
  have := size_sgn hf hM (a := (vSig f (wM f (magN f w))).toNat) (e := vExp f (wM f (magN f w))) ((sizeN_at (k := vExp f (wM f (magN f w))) (Int.le_refl _) (Int.le_refl _)).1.2 rfl) (wNeg f w)
  rw [e] at this
  exact size_sym this
theorem self_one {f m : Int} {a : BitVec 128} (hm : isM m = true) (ha : uOk f a = true) :
    rW f m (dvNeg f a (fOne f)) (qvE f a (fOne f)) (qvW f a (fOne f)) (qvM f a (fOne f)) = a ∧ rX f m (dvNeg f a (fOne f)) (qvE f a (fOne f)) (qvW f a (fOne f)) (qvM f a (fOne f)) = 0 := by
  obtain ⟨hfin, hf, _⟩ := uOk_parts ha
  have hp := p_rng f hf
  obtain ⟨o1, o2, o3, o4⟩ := one_facts hf
  have ho := pow_nat (n := fPrec f - 1) (by omega) (by omega)
  obtain ⟨p1, p2, _⟩ := u_parts o1
  have hl : wLen (vSig f (fOne f)) = fPrec f := by
    rw [← bitN_wLen, o2, ho, bitN_pow]; omega
  rw [hl] at p1 p2
  have u1 : (uSig f (fOne f)).toNat = 2 ^ (fPrec f - 1).toNat := by
    rw [p1, show fPrec f - fPrec f = 0 by omega, shl_exact (n := 0) (k := 512) (by omega) (by omega) (by omega) (by rw [show (0 : Int).toNat = 0 by rfl, Nat.pow_zero, Nat.mul_one]; exact (vSig f (fOne f)).isLt), o2, ho]
    rw [show (0 : Int).toNat = 0 by rfl, Nat.pow_zero, Nat.mul_one]
  obtain ⟨h1, h2⟩ := q_exact o1 (a := a) (k := (uSig f a).toNat * 2 ^ 3) (by
    unfold qvN
    rw [u1, Nat.mul_assoc, ← Nat.pow_add]
    congr 2
    omega) ha
  obtain ⟨w1, w2, w3⟩ := word_of hfin
  have hn : dvNeg f a (fOne f) = wNeg f a := by unfold dvNeg; rw [o4]; cases wNeg f a <;> rfl
  rw [h1, hn]
  obtain ⟨_, _, us, _⟩ := u_own ha
  have := ex_round (b := wNeg f a) (qv_ok hm ha o1 false).1 w2 (by
    rw [h2]
    have e : qvE f a (fOne f) = uExp f a - ((3 : Nat) : Int) := by unfold qvE; rw [p2, o3]; omega
    rw [e]
    exact size_tr0 w3 (size_up us))
  rw [w1] at this
  exact this

/-! ## a root that is just a number -/
theorem fin_uOk {f : Int} {w : BitVec 128} (h : wFin f w = true) (hz : vSig f w ≠ 0) : uOk f w = true := by
  unfold uOk
  rw [h, decide_eq_false hz]
  rfl
theorem size_ne {a b : Nat} {e g : Int} (h : sizeN a e b g = 0) (hb : b ≠ 0) : a ≠ 0 := by
  intro h0
  have := (sizeN_at (k := min e g) (by omega) (by omega)).1.1 h
  rw [h0, Nat.zero_mul] at this
  have := Nat.mul_pos (Nat.pos_of_ne_zero hb) (Nat.two_pow_pos (g - min e g).toNat)
  omega
theorem self_root {f m : Int} {a : BitVec 128} (hm : isM m = true) (ha : uOk f a = true) (hz : rX f m false (rtE f a) (rtS f a) (rtM f a) = 0) {r : BitVec 128} (hr : r = rW f m false (rtE f a) (rtS f a) (rtM f a)) (hn : wNeg f a = false) :
    uOk f r = true ∧ rW f m (dvNeg f a r) (qvE f a r) (qvW f a r) (qvM f a r) = r ∧ rX f m (dvNeg f a r) (qvE f a r) (qvW f a r) (qvM f a r) = 0 := by
  obtain ⟨_, hf, _⟩ := uOk_parts ha
  have hp := p_rng f hf
  obtain ⟨l1, l2⟩ := rt_len ha
  obtain ⟨k1, k2⟩ := rt_ok (m := m) hm ha (rtM f a)
  obtain ⟨x1, M, x2, x3, x4⟩ := r_exact k1 k2 hz (fun _ => by omega)
  rw [← hr] at x3
  rw [← x3] at x4
  obtain ⟨w1, w2, w3, w4⟩ := of_fin hf x2 false
  rw [← x3] at w1 w2 w3 w4
  obtain ⟨s1, s2, s3⟩ := rts_rng ha
  have hs0 : (rtS f a).toNat ≠ 0 := by rw [s3]; have := Nat.two_pow_pos (fPrec f + 1).toNat; omega
  have hv0 : vSig f r ≠ 0 := fun h0 => size_ne x4 hs0 (by rw [← w_zero]; exact h0)
  have hu : uOk f r = true := fin_uOk w1 hv0
  refine ⟨hu, ?_⟩
  obtain ⟨_, _, us, _⟩ := u_own hu
  -- r's digits, squared, are a's digits
  have t1 := size_tr0 (size_sym us) x4
  rw [s3] at t1
  have hsq : rtN (rtn f a) * rtN (rtn f a) = rtn f a := by
    have h1 := (rtN_is (rtn f a)).1
    have h2 : rtn f a - rtN (rtn f a) * rtN (rtn f a) = 0 := by
      unfold rtM at x1
      simpa using x1
    omega
  obtain ⟨b1, b2, b3⟩ := rt_by ha
  obtain ⟨c1, c2⟩ := uSig_rng hu
  obtain ⟨d1, d2⟩ := uSig_rng ha
  have xe := uExp_rng hu
  generalize hX : rtN (rtn f a) = X at *
  generalize hU : (uSig f r).toNat = U at *
  have t2 := (sizeN_at (k := min (uExp f r) (rtE f a)) (by omega) (by omega)).1.1 t1
  -- X has three digits more than its precision at most: uExp r is above rtE
  have hge : rtE f a ≤ uExp f r := by
    rcases Int.lt_or_le (uExp f r) (rtE f a) with h | h
    · exfalso
      rw [show min (uExp f r) (rtE f a) = uExp f r by omega, show (uExp f r - uExp f r).toNat = 0 by omega, Nat.pow_zero, Nat.mul_one] at t2
      have h2 : X ≤ X * 2 ^ (rtE f a - uExp f r).toNat := Nat.le_mul_of_pos_right _ (Nat.two_pow_pos _)
      have h3 : 2 ^ (fPrec f).toNat ≤ 2 ^ (fPrec f + 1).toNat := Nat.pow_le_pow_right (by decide) (by omega)
      omega
    · exact h
  rw [show min (uExp f r) (rtE f a) = rtE f a by omega, show (rtE f a - rtE f a).toNat = 0 by omega, Nat.pow_zero, Nat.mul_one] at t2
  obtain ⟨j, hj⟩ : ∃ j : Nat, uExp f r = rtE f a + (j : Int) := ⟨(uExp f r - rtE f a).toNat, by omega⟩
  rw [show (uExp f r - rtE f a).toNat = j by omega] at t2
  have hA : (uSig f a).toNat * 2 ^ (rtBy f a).toNat = U * U * 2 ^ (2 * j) := by
    have : rtn f a = (uSig f a).toNat * 2 ^ (rtBy f a).toNat := rfl
    rw [← this, ← hsq, ← t2, Nat.two_mul, Nat.pow_add, Nat.mul_assoc, Nat.mul_assoc, Nat.mul_left_comm (2 ^ j)]
  -- how far: 2 j isn't more than rtBy
  have hP : 0 < 2 ^ (fPrec f - 1).toNat := Nat.two_pow_pos _
  have hjb : 2 * j ≤ (rtBy f a).toNat := by
    rcases Nat.lt_or_ge (rtBy f a).toNat (2 * j) with h | h
    · exfalso
      have e1 : 2 ^ (2 * j) = 2 ^ (2 * j - (rtBy f a).toNat) * 2 ^ (rtBy f a).toNat := by rw [← Nat.pow_add]; congr 1; omega
      rw [e1, ← Nat.mul_assoc] at hA
      have hA2 := Nat.eq_of_mul_eq_mul_right (Nat.two_pow_pos _) hA
      have g1 : U * U ≤ U * U * 2 ^ (2 * j - (rtBy f a).toNat) := Nat.le_mul_of_pos_right _ (Nat.two_pow_pos _)
      have g2 : 2 ^ (fPrec f - 1).toNat * 2 ^ (fPrec f - 1).toNat ≤ U * U := Nat.mul_le_mul c1 c1
      have g3 : 2 ^ (fPrec f - 1).toNat * 4 ≤ 2 ^ (fPrec f - 1).toNat * 2 ^ (fPrec f - 1).toNat := Nat.mul_le_mul_left _ (by
        have : 2 ^ 2 ≤ 2 ^ (fPrec f - 1).toNat := Nat.pow_le_pow_right (by decide) (by omega)
        omega)
      have g4 := two_prec hf
      omega
    · exact h
  obtain ⟨i, hi⟩ : ∃ i : Nat, (rtBy f a).toNat = 2 * j + i := ⟨(rtBy f a).toNat - 2 * j, by omega⟩
  have hA2 : (uSig f a).toNat * 2 ^ i = U * U := by
    rw [hi, Nat.pow_add, Nat.mul_comm (2 ^ (2 * j)), ← Nat.mul_assoc] at hA
    exact Nat.eq_of_mul_eq_mul_right (Nat.two_pow_pos _) hA
  have hip : i ≤ (fPrec f + 2).toNat := by
    rcases Nat.lt_or_ge (fPrec f + 2).toNat i with h | h
    · exfalso
      have g1 : U * U < 2 ^ (fPrec f).toNat * 2 ^ (fPrec f).toNat := Nat.mul_lt_mul_of_lt_of_lt c2 c2
      have g2 : 2 ^ (fPrec f - 1).toNat * 2 ^ i ≤ (uSig f a).toNat * 2 ^ i := Nat.mul_le_mul_right _ d1
      rw [← Nat.pow_add] at g1 g2
      have g3 : 2 ^ ((fPrec f).toNat + (fPrec f).toNat) ≤ 2 ^ ((fPrec f - 1).toNat + i) := Nat.pow_le_pow_right (by decide) (by omega)
      omega
    · exact h
  obtain ⟨q1, q2⟩ := q_exact hu (a := a) (k := U * 2 ^ ((fPrec f + 2).toNat - i)) (by
    unfold qvN
    rw [hU, show (2 : Nat) ^ (fPrec f + 2).toNat = 2 ^ i * 2 ^ ((fPrec f + 2).toNat - i) by rw [← Nat.pow_add]; congr 1; omega, ← Nat.mul_assoc, hA2, Nat.mul_assoc, Nat.mul_assoc, Nat.mul_comm U (2 ^ _)]) ha
  have hdn : dvNeg f a r = false := by unfold dvNeg; rw [hn, w2]; rfl
  rw [q1, hdn]
  have hE : qvE f a r = uExp f r - (((fPrec f + 2).toNat - i : Nat) : Int) := by unfold qvE; omega
  have hzz : sizeN (vSig f (wM f M)).toNat (vExp f (wM f M)) (qvW f a r).toNat (qvE f a r) = 0 := by
    rw [q2, hE]
    have hrM : r = wM f M := x3
    rw [← hrM]
    rw [← hU] at us ⊢
    exact size_up us
  have := ex_round (b := false) (qv_ok hm ha hu false).1 x2 hzz
  rw [← x3] at this
  exact this
end Go.LE
namespace Go.LE
open Go
set_option exponentiation.threshold 600
/-! ## bits of words, halves of even numbers -/
theorem and1_i64 (n : Int) : arithR .and .i64 n 1 = n % 2 := by
  show IntKind.i64.wrap ((BitVec.ofInt 64 n &&& BitVec.ofInt 64 1).toNat : Int) = _
  have h2 : BitVec.ofInt 64 1 = BitVec.twoPow 64 0 := by decide
  have h1 : (BitVec.ofInt 64 n).getLsbD 0 = decide (n % 2 = 1) := by
    rw [BitVec.getLsbD, BitVec.toNat_ofInt, Nat.testBit_eq_decide_div_mod_eq]
    apply decide_eq_decide.2
    simp
    omega
  rw [h2, BitVec.and_twoPow, h1]
  by_cases h : n % 2 = 1
  · rw [if_pos (by simp [h]), h]; decide
  · rw [if_neg (by simp [h]), show n % 2 = 0 by omega]; decide
theorem half_i64 {n : Int} (h : n % 2 = 0) (h1 : -9223372036854775808 ≤ n) (h2 : n ≤ 9223372036854775807) : arithR .quo .i64 n 2 = n / 2 := by
  show IntKind.i64.wrap (n.tdiv 2) = n / 2
  have e : n.tdiv 2 = n / 2 := Int.tdiv_eq_ediv_of_dvd (by omega)
  rw [e, IntKind.wrap_i64]
  omega
theorem or_nat {n k : Nat} (hn : n < 2 ^ 64) (hk : k < 64) : (n / 2 ^ k % 2 = 0 → n ||| 2 ^ k = n + 2 ^ k) ∧ (n / 2 ^ k % 2 = 1 → n ||| 2 ^ k = n) := by
  have hb : (BitVec.ofNat 64 n).getLsbD k = decide (n / 2 ^ k % 2 = 1) := by
    rw [BitVec.getLsbD, BitVec.toNat_ofNat, Nat.mod_eq_of_lt hn, Nat.testBit_eq_decide_div_mod_eq]
  have ht : (BitVec.twoPow 64 k).toNat = 2 ^ k := by
    rw [BitVec.toNat_twoPow, Nat.mod_eq_of_lt (Nat.pow_lt_pow_right (by decide) hk)]
  have hor : (BitVec.ofNat 64 n ||| BitVec.twoPow 64 k).toNat = n ||| 2 ^ k := by
    rw [BitVec.toNat_or, ht, BitVec.toNat_ofNat, Nat.mod_eq_of_lt hn]
  constructor
  · intro h
    have hz : BitVec.ofNat 64 n &&& BitVec.twoPow 64 k = 0#64 := by
      rw [BitVec.and_twoPow, hb, if_neg (by simp; omega)]
    have ha := BitVec.add_eq_or_of_and_eq_zero _ _ hz
    rw [← hor, ← ha, BitVec.toNat_add, ht, BitVec.toNat_ofNat, Nat.mod_eq_of_lt hn]
    refine Nat.mod_eq_of_lt ?_
    have e1 : 2 ^ 64 = 2 ^ (k + 1) * 2 ^ (63 - k) := by rw [← Nat.pow_add]; congr 1; omega
    have e2 : n / 2 ^ (k + 1) < 2 ^ (63 - k) := by
      rw [Nat.div_lt_iff_lt_mul (Nat.two_pow_pos _), Nat.mul_comm, ← e1]; exact hn
    have e3 : n = 2 ^ (k + 1) * (n / 2 ^ (k + 1)) + n % 2 ^ (k + 1) := (Nat.div_add_mod _ _).symm
    have e4 : n % 2 ^ (k + 1) < 2 ^ k := by
      rw [Nat.pow_succ, Nat.mod_mul, h, Nat.mul_zero, Nat.add_zero]
      exact Nat.mod_lt _ (Nat.two_pow_pos _)
    have e5 : 2 ^ (k + 1) * (n / 2 ^ (k + 1)) + 2 ^ (k + 1) ≤ 2 ^ 64 := by
      rw [e1, ← Nat.mul_succ]; exact Nat.mul_le_mul_left _ e2
    have e6 : 2 ^ (k + 1) = 2 ^ k + 2 ^ k := by rw [Nat.pow_succ]; omega
    omega
  · intro h
    have : BitVec.ofNat 64 n ||| BitVec.twoPow 64 k = BitVec.ofNat 64 n := by
      apply BitVec.eq_of_getLsbD_eq
      intro i hi
      rw [BitVec.getLsbD_or, BitVec.getLsbD_twoPow]
      by_cases hik : k = i
      · subst hik; rw [hb, h]; simp
      · simp [hik]
    rw [← hor, this, BitVec.toNat_ofNat, Nat.mod_eq_of_lt hn]
theorem zshl_one {j : Int} (hj : 0 ≤ j ∧ j < 64) : arithR .shl .u64 1 j = ((2 ^ j.toNat : Nat) : Int) := by
  rw [shl_u64 (by omega) (by omega)]
  congr 1
  rw [Nat.shiftLeft_eq, show (1 : Int).toNat = 1 by rfl, Nat.one_mul, Nat.mod_eq_of_lt (Nat.pow_lt_pow_right (by decide) (by omega))]
theorem or_bit {x j : Int} (hx : 0 ≤ x ∧ x < 18446744073709551616) (hj : 0 ≤ j ∧ j < 64) : (x.toNat / 2 ^ j.toNat % 2 = 0 → arithR .or .u64 x (arithR .shl .u64 1 j) = arithR .add .u64 x (arithR .shl .u64 1 j)) ∧
    (x.toNat / 2 ^ j.toNat % 2 = 1 → arithR .or .u64 x (arithR .shl .u64 1 j) = x) := by
  have hp : 2 ^ j.toNat < 2 ^ 64 := Nat.pow_lt_pow_right (by decide) (by omega)
  obtain ⟨a, b⟩ := or_nat (n := x.toNat) (k := j.toNat) (by omega) (by omega)
  rw [zshl_one hj]
  generalize 2 ^ j.toNat = P at *
  rw [or_u64 hx (by omega), Int.toNat_natCast]
  constructor
  · intro h
    rw [a h]
    have hlt : x.toNat ||| P < 2 ^ 64 := Nat.or_lt_two_pow (by omega) hp
    rw [a h] at hlt
    symm
    show IntKind.u64.wrap _ = _
    rw [wrap_u64_of (by omega) (by omega)]
    omega
  · intro h
    rw [b h]
    omega
theorem zhi_rng (w : BitVec 128) : 0 ≤ hiR w ∧ hiR w < 18446744073709551616 := by
  unfold hiR
  have := w.isLt
  have h : w.toNat / 2 ^ 64 < 2 ^ 64 := by rw [Nat.div_lt_iff_lt_mul (by decide)]; omega
  omega
theorem zlo_rng (w : BitVec 128) : 0 ≤ loR w ∧ loR w < 18446744073709551616 := by
  unfold loR
  have := Nat.mod_lt w.toNat (show 2 ^ 64 > 0 by decide)
  omega
theorem zmk_own (w : BitVec 128) : mkWordR (hiR w) (loR w) = w := by
  unfold mkWordR hiR loR
  apply BitVec.eq_of_toNat_eq
  rw [Int.toNat_natCast, Int.toNat_natCast, BitVec.toNat_ofNat]
  have h := Nat.mod_add_div w.toNat (2 ^ 64)
  rw [Nat.mul_comm (w.toNat / 2 ^ 64), h, Nat.mod_eq_of_lt w.isLt]
theorem hi_bit (w : BitVec 128) {j : Int} (hj : 0 ≤ j) : (hiR w).toNat / 2 ^ j.toNat % 2 = w.toNat / 2 ^ (64 + j).toNat % 2 := by
  unfold hiR
  rw [Int.toNat_natCast, Nat.div_div_eq_div_mul, ← Nat.pow_add]
  congr 3
  omega
theorem lo_bit (w : BitVec 128) {j : Int} (hj : 0 ≤ j ∧ j < 64) : (loR w).toNat / 2 ^ j.toNat % 2 = w.toNat / 2 ^ j.toNat % 2 := by
  unfold loR
  rw [Int.toNat_natCast]
  have e2 : (2 : Nat) ^ 64 = 2 ^ j.toNat * 2 ^ (64 - j.toNat) := by rw [← Nat.pow_add]; congr 1; omega
  rw [e2, Nat.mod_mul_right_div_self]
  have e3 : 2 ^ (64 - j.toNat) = 2 * 2 ^ (63 - j.toNat) := by rw [show 64 - j.toNat = (63 - j.toNat) + 1 by omega, Nat.pow_succ]; omega
  rw [e3, Nat.mod_mul_right_mod]
theorem cls2_bit {f : Int} {w : BitVec 128} (h : cls f w = 2) : fFits f w = true ∧ w.toNat / 2 ^ (fPrec f - 2).toNat % 2 = 1 := by
  have hF : fFits f w = true := by
    cases e : fFits f w with
    | true => rfl
    | false => unfold cls at h; rw [e] at h; simp at h
  refine ⟨hF, ?_⟩
  unfold cls clsN at h
  rw [hF, cond_true] at h
  split at h
  · split at h
    · omega
    · split at h
      · rename_i hb
        rw [Nat.testBit_eq_decide_div_mod_eq] at hb
        exact of_decide_eq_true hb
      · omega
  · split at h
    · split at h <;> omega
    · omega
/-- a word of a NaN, its highest fraction bit set -/
theorem quiet_or {f : Int} {w : BitVec 128} (h : cls f w = 1 ∨ cls f w = 2) : (1 ≤ f ∧ f ≤ 4) ∧
    (64 ≤ fPrec f - 2 → mkWordR (arithR .or .u64 (hiR w) (arithR .shl .u64 1 (fPrec f - 2 - 64))) (loR w) = qW f w) ∧
    (fPrec f - 2 < 64 → mkWordR (hiR w) (arithR .or .u64 (loR w) (arithR .shl .u64 1 (fPrec f - 2))) = qW f w) := by
  have hF : fFits f w = true := by
    rcases h with h | h
    · exact (cls1 h).1
    · exact (cls2_bit h).1
  have hf := (fits_lt hF).1
  have hp := p_rng f hf
  refine ⟨hf, fun h64 => ?_, fun h64 => ?_⟩
  · have hj : 0 ≤ fPrec f - 2 - 64 ∧ fPrec f - 2 - 64 < 64 := by omega
    have e6 : (64 + (fPrec f - 2 - 64)).toNat = (fPrec f - 2).toNat := by omega
    have hb := hi_bit w hj.1
    rw [e6] at hb
    obtain ⟨o1, o2⟩ := or_bit (zhi_rng w) hj
    rcases h with h | h
    · obtain ⟨_, _, e3⟩ := q_nat h
      rw [o1 (by rw [hb]; exact e3)]
      have := hi_add w hj (by rw [e6]; exact e3)
      rw [e6] at this
      rw [this]
      unfold qW; rw [if_pos h]
    · rw [o2 (by rw [hb]; exact (cls2_bit h).2), zmk_own]
      exact (q_other (by omega)).symm
  · have hj : 0 ≤ fPrec f - 2 ∧ fPrec f - 2 < 64 := by omega
    have hb := lo_bit w hj
    obtain ⟨o1, o2⟩ := or_bit (zlo_rng w) hj
    rcases h with h | h
    · obtain ⟨_, _, e3⟩ := q_nat h
      rw [o1 (by rw [hb]; exact e3), lo_add w hj e3]
      unfold qW; rw [if_pos h]
    · rw [o2 (by rw [hb]; exact (cls2_bit h).2), zmk_own]
      exact (q_other (by omega)).symm
end Go.LE
namespace Go.LE
open Go
set_option exponentiation.threshold 600
/-! ## what the processor answers: quotients and roots -/
theorem cls_uOk {f : Int} {w : BitVec 128} (h : cls f w = 4 ∨ cls f w = 5) : uOk f w = true := by
  have hfin : wFin f w = true := (fin_iff f w).2 (by omega)
  obtain ⟨hF, hf⟩ := fin_fits hfin
  refine fin_uOk hfin fun h0 => ?_
  obtain ⟨_, e⟩ := vMag hfin
  have hz : (vSig f w).toNat = 0 := by rw [← w_zero]; exact h0
  rw [hz, Nat.zero_mul] at e
  have hm : magN f w = 0 := by
    rcases Nat.eq_zero_or_pos (magN f w) with g | g
    · exact g
    · have := magV_mono f g
      omega
  have := (cls_mag hF).2.2.2.2 hm
  omega
theorem uOk_cls {f : Int} {w : BitVec 128} (h : uOk f w = true) : cls f w = 4 ∨ cls f w = 5 := by
  obtain ⟨hfin, hf, hne⟩ := uOk_parts h
  obtain ⟨hF, _⟩ := fin_fits hfin
  have h4 := (fin_iff f w).1 hfin
  have h6 : cls f w ≠ 6 := fun h6 => by
    have hm := (cls_mag hF).2.2.2.1 h6
    obtain ⟨_, e⟩ := vMag hfin
    rw [hm, magV_zero] at e
    have hz : (vSig f w).toNat = 0 := by
      rcases Nat.eq_zero_or_pos (vSig f w).toNat with g | g
      · exact g
      · have := Nat.mul_pos g (Nat.two_pow_pos (vExp f w - expO f).toNat)
        omega
    exact hne (by rw [w_zero]; exact hz)
  have := cls_fits hF
  omega
theorem kind4 {f : Int} {w : BitVec 128} (h : kindOf2 f w = 4) : uOk f w = true := by
  refine cls_uOk ?_
  unfold kindOf2 kindK at h
  split at h
  · omega
  · split at h
    · omega
    · split at h
      · omega
      · split at h
        · assumption
        · omega
theorem kind_fits {f : Int} {w : BitVec 128} (h : fFits f w = true) : 1 ≤ kindOf2 f w ∧ kindOf2 f w ≤ 4 ∧ (kindOf2 f w = 1 → wNaN f w = true) := by
  have hc := cls_fits h
  unfold kindOf2 kindK wNaN
  split
  · rename_i g; exact ⟨by omega, by omega, fun _ => by simpa using g⟩
  · split
    · exact ⟨by omega, by omega, fun h => by omega⟩
    · split
      · exact ⟨by omega, by omega, fun h => by omega⟩
      · split
        · exact ⟨by omega, by omega, fun h => by omega⟩
        · exact ⟨by omega, by omega, fun h => by omega⟩
theorem div_finite {f : Int} {a b : BitVec 128} (ha : fFits f a = true) (hb : fFits f b = true) (h : divOk f a b = false) : uOk f a = true ∧ uOk f b = true := by
  obtain ⟨a1, a2, a3⟩ := kind_fits ha
  obtain ⟨b1, b2, b3⟩ := kind_fits hb
  unfold divOk divC ruleC at h
  by_cases n1 : kindOf2 f a = 1 ∨ kindOf2 f b = 1
  · rw [if_neg (show ¬ (kindOf2 f a = 0 ∨ kindOf2 f b = 0) by omega), if_pos n1, if_pos rfl] at h
    exfalso
    unfold nanIs at h
    rcases n1 with g | g
    · simp [a3 g] at h
    · simp [b3 g] at h
  · rw [if_neg (show ¬ (kindOf2 f a = 0 ∨ kindOf2 f b = 0) by omega), if_neg n1] at h
    by_cases n2 : kindOf2 f a = kindOf2 f b ∧ kindOf2 f a ≠ 4
    · rw [if_pos n2] at h; simp at h
    · rw [if_neg n2] at h
      by_cases n3 : kindOf2 f a = 2
      · rw [if_pos n3] at h; simp at h
      · rw [if_neg n3] at h
        by_cases n4 : kindOf2 f b = 3
        · rw [if_pos n4] at h; simp at h
        · rw [if_neg n4] at h
          by_cases n5 : kindOf2 f b = 2 ∨ kindOf2 f a = 3
          · rw [if_pos n5] at h; simp at h
          · exact ⟨kind4 (by omega), kind4 (by omega)⟩
theorem fin_div {f : Int} {a b : BitVec 128} (ha : uOk f a = true) (hb : uOk f b = true) : divOk f a b = false := by
  have ka : kindOf2 f a = 4 := by
    have := uOk_cls ha
    unfold kindOf2 kindK
    rw [if_neg (by omega), if_neg (by omega), if_neg (by omega), if_pos this]
  have kb : kindOf2 f b = 4 := by
    have := uOk_cls hb
    unfold kindOf2 kindK
    rw [if_neg (by omega), if_neg (by omega), if_neg (by omega), if_pos this]
  unfold divOk divC ruleC
  rw [ka, kb]
  simp
theorem sqrt_finite {f : Int} {a : BitVec 128} (ha : fFits f a = true) (h : sqrOk f a = false) : uOk f a = true ∧ wNeg f a = false := by
  obtain ⟨a1, a2, a3⟩ := kind_fits ha
  unfold sqrOk sqrC rootC at h
  rw [if_neg (show ¬ kindOf2 f a = 0 by omega)] at h
  by_cases n1 : kindOf2 f a = 1
  · rw [if_pos n1, if_pos rfl] at h
    exfalso
    unfold nanIs at h
    simp [a3 n1] at h
  · rw [if_neg n1] at h
    by_cases n3 : kindOf2 f a = 3
    · rw [if_pos n3] at h; simp at h
    · rw [if_neg n3] at h
      by_cases n2 : kindOf2 f a = 2
      · rw [if_pos n2] at h
        cases hn : wNeg f a <;> rw [hn] at h <;> simp at h
      · rw [if_neg n2, if_pos (show kindOf2 f a = 4 by omega)] at h
        refine ⟨kind4 (by omega), ?_⟩
        cases hn : wNeg f a with
        | false => rfl
        | true => rw [hn] at h; simp at h
theorem fin_sqrt {f : Int} {a : BitVec 128} (ha : uOk f a = true) (hn : wNeg f a = false) : sqrOk f a = false := by
  have ka : kindOf2 f a = 4 := by
    have := uOk_cls ha
    unfold kindOf2 kindK
    rw [if_neg (by omega), if_neg (by omega), if_neg (by omega), if_pos this]
  unfold sqrOk sqrC rootC
  rw [ka, hn]
  simp
/-- a quotient: the word, and the flags -/
def dvW (f m : Int) (a b : BitVec 128) : BitVec 128 := bif divOk f a b then divW f a b else rW f m (dvNeg f a b) (qvE f a b) (qvW f a b) (qvM f a b)
def dvX (f m : Int) (a b : BitVec 128) : Int := bif divOk f a b then divX f a b else rX f m (dvNeg f a b) (qvE f a b) (qvW f a b) (qvM f a b)
/-- a root: the word, and the flags -/
noncomputable def sqW (f m : Int) (a : BitVec 128) : BitVec 128 := bif sqrOk f a then sqrW f a else rW f m false (rtE f a) (rtS f a) (rtM f a)
noncomputable def sqX (f m : Int) (a : BitVec 128) : Int := bif sqrOk f a then sqrX f a else rX f m false (rtE f a) (rtS f a) (rtM f a)
end Go.LE
namespace Go.LE
open Go
set_option exponentiation.threshold 600
/-! ## 1 by 3, and the root of 2, in single precision -/
theorem awk_div : dvW 2 1 1065353216#128 1077936128#128 = 1051372203#128 ∧ dvX 2 1 1065353216#128 1077936128#128 = 16 := by decide +kernel
theorem awk_n : rtn 2 1073741824#128 = 2251799813685248 := by decide +kernel
theorem awk_s : rtN 2251799813685248 = 47453132 := (rtN_eq (n := 2251799813685248) (s := 47453132) (by decide) (by decide)).symm
theorem awk_sqrt : sqW 2 1 1073741824#128 = 1068827891#128 ∧ sqX 2 1 1073741824#128 = 16 := by
  unfold sqW sqX rtS rtM
  rw [awk_n, awk_s]
  decide +kernel
theorem awk_fits : fFits 2 1065353216#128 = true ∧ fFits 2 1077936128#128 = true ∧ fFits 2 1073741824#128 = true ∧ isM 1 = true := by decide +kernel
end Go.LE
namespace Go.LE
open Go
set_option exponentiation.threshold 600
/-! ## a quotient with one sign turned -/
theorem u_sgn {f : Int} {w : BitVec 128} (h : fFits f w = true) (b : Bool) : uSig f (sgn f w b) = uSig f w ∧ uExp f (sgn f w b) = uExp f w ∧ uOk f (sgn f w b) = uOk f w := by
  obtain ⟨_, e2, e3, e4⟩ := sgn_v h b
  unfold uSig uExp
  rw [e4, e2, e3]
  exact ⟨rfl, rfl, rfl⟩
theorem qv_sgn {f : Int} {a b : BitVec 128} (ha : fFits f a = true) (hb : fFits f b = true) (n : Bool) :
    (qvE f (sgn f a n) b = qvE f a b ∧ qvW f (sgn f a n) b = qvW f a b ∧ qvM f (sgn f a n) b = qvM f a b) ∧
    (qvE f a (sgn f b n) = qvE f a b ∧ qvW f a (sgn f b n) = qvW f a b ∧ qvM f a (sgn f b n) = qvM f a b) := by
  obtain ⟨a1, a2, _⟩ := u_sgn ha n
  obtain ⟨b1, b2, _⟩ := u_sgn hb n
  unfold qvE qvW qvM qvR qvQ qvN
  rw [a1, a2, b1, b2]
  exact ⟨⟨rfl, rfl, rfl⟩, rfl, rfl, rfl⟩
theorem neg_sgn {f : Int} {w : BitVec 128} (h : fFits f w = true) (n : Bool) : wNeg f (sgn f w n) = n ∧ fFits f (sgn f w n) = true := by
  obtain ⟨hf, _⟩ := fits_lt h
  have hlt : w.toNat % 2 ^ (fBits f - 1).toNat < halfN f := Nat.mod_lt _ (Nat.two_pow_pos _)
  exact ⟨wOf_neg hf hlt n, wOf_fits hf hlt n⟩
theorem mir_div {f m : Int} {a b : BitVec 128} (hm : isM m = true) (ha : uOk f a = true) (hb : uOk f b = true) :
    (fFits f (sgn f a (!wNeg f a)) = true ∧ dvW f (mirM m) (sgn f a (!wNeg f a)) b = sgn f (dvW f m a b) (!wNeg f (dvW f m a b)) ∧ dvX f (mirM m) (sgn f a (!wNeg f a)) b = dvX f m a b) ∧
    (fFits f (sgn f b (!wNeg f b)) = true ∧ dvW f (mirM m) a (sgn f b (!wNeg f b)) = sgn f (dvW f m a b) (!wNeg f (dvW f m a b)) ∧ dvX f (mirM m) a (sgn f b (!wNeg f b)) = dvX f m a b) := by
  have hA := (fin_fits (uOk_parts ha).1).1
  have hB := (fin_fits (uOk_parts hb).1).1
  obtain ⟨na, fa⟩ := neg_sgn hA (!wNeg f a)
  obtain ⟨nb, fb⟩ := neg_sgn hB (!wNeg f b)
  have ua : uOk f (sgn f a (!wNeg f a)) = true := by rw [(u_sgn hA _).2.2]; exact ha
  have ub : uOk f (sgn f b (!wNeg f b)) = true := by rw [(u_sgn hB _).2.2]; exact hb
  obtain ⟨⟨p1, p2, p3⟩, _⟩ := qv_sgn (a := a) (b := b) hA hB (!wNeg f a)
  obtain ⟨_, q1, q2, q3⟩ := qv_sgn (a := a) (b := b) hA hB (!wNeg f b)
  have da : dvNeg f (sgn f a (!wNeg f a)) b = !dvNeg f a b := by unfold dvNeg; rw [na]; cases wNeg f a <;> cases wNeg f b <;> rfl
  have db : dvNeg f a (sgn f b (!wNeg f b)) = !dvNeg f a b := by unfold dvNeg; rw [nb]; cases wNeg f a <;> cases wNeg f b <;> rfl
  obtain ⟨ro, rz⟩ := qv_ok hm ha hb (qvM f a b)
  obtain ⟨r1, r2, _⟩ := r_mir ro rz (dvNeg f a b)
  refine ⟨⟨fa, ?_⟩, fb, ?_⟩
  · unfold dvW dvX
    rw [fin_div ua hb, fin_div ha hb, da, p1, p2, p3]
    exact ⟨r1, r2⟩
  · unfold dvW dvX
    rw [fin_div ha ub, fin_div ha hb, db, q1, q2, q3]
    exact ⟨r1, r2⟩
/-! ## words of which one is no number -/
end Go.LE