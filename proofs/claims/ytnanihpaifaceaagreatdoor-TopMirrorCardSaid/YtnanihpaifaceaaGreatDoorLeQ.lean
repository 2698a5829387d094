import Derived.Test.YtnanihpaifaceaaGreatDoorLeP
set_option linter.unusedVariables false
set_option linter.unusedSimpArgs false
namespace Go.LE
open Go
/-! ## the greatest word that isn't above a number, bit by bit -/
def greedy (P : Nat → Bool) : Nat → Nat → Nat
  | 0, m => m
  | i + 1, m => if P (m + 2 ^ i) = true then greedy P i (m + 2 ^ i) else greedy P i m
theorem greedy_spec {P : Nat → Bool} (hP : ∀ m n, m ≤ n → P n = true → P m = true) : ∀ (i m : Nat), P m = true → m ≤ greedy P i m ∧ greedy P i m < m + 2 ^ i ∧ P (greedy P i m) = true ∧ ∀ k, k < m + 2 ^ i → P k = true → k ≤ greedy P i m
  | 0, m, h => ⟨Nat.le_refl _, by unfold greedy; omega, h, fun k hk _ => by unfold greedy; omega⟩
  | i + 1, m, h => by
    unfold greedy
    have h2 : 2 ^ (i + 1) = 2 ^ i + 2 ^ i := by rw [Nat.pow_succ]; omega
    split
    · rename_i hp
      obtain ⟨a, b, c, d⟩ := greedy_spec hP i (m + 2 ^ i) hp
      exact ⟨by omega, by omega, c, fun k hk => d k (by omega)⟩
    · rename_i hp
      obtain ⟨a, b, c, d⟩ := greedy_spec hP i m h
      refine ⟨a, by omega, c, fun k hk hk2 => ?_⟩
      by_cases hkm : k < m + 2 ^ i
      · exact d k hkm hk2
      · exact absurd (hP _ _ (by omega) hk2) hp
def wM (f : Int) (m : Nat) : BitVec 128 := fWordOf f false m
def leM (f : Int) (a : Nat) (e : Int) (m : Nat) : Bool := decide (4 ≤ cls f (wM f m)) && decide (sizeN (vSig f (wM f m)).toNat (vExp f (wM f m)) a e ≤ 0)
def findM (f : Int) (a : Nat) (e : Int) : Nat := greedy (leM f a e) (fBits f - 1).toNat 0
theorem fin_of {f : Int} (hf : 1 ≤ f ∧ f ≤ 4) {m : Nat} (hm : m < halfN f) : 4 ≤ cls f (wM f m) ↔ m < infN f := by
  obtain ⟨_, _, g, _⟩ := cls_mag (wOf_fits hf hm false)
  rw [wOf_mag hf hm] at g
  exact g
/-- what a word of a format stands for, against a number -/
theorem size_of {f : Int} (hf : 1 ≤ f ∧ f ≤ 4) {m : Nat} (hm : m < infN f) (b : Bool) {a : Nat} {e k : Int} (h1 : k ≤ expO f) (h2 : k ≤ e) :
    (sizeN (vSig f (fWordOf f b m)).toNat (vExp f (fWordOf f b m)) a e = 0 ↔ magV f m * 2 ^ (expO f - k).toNat = a * 2 ^ (e - k).toNat) ∧ (sizeN (vSig f (fWordOf f b m)).toNat (vExp f (fWordOf f b m)) a e < 0 ↔ magV f m * 2 ^ (expO f - k).toNat < a * 2 ^ (e - k).toNat) := by
  have hi := inf_pos hf
  have hh : m < halfN f := by omega
  have hfin : wFin f (fWordOf f b m) = true := (fin_iff _ _).2 (by
    obtain ⟨_, _, g, _⟩ := cls_mag (wOf_fits hf hh b)
    rw [wOf_mag hf hh] at g
    exact g.2 hm)
  obtain ⟨g1, g2⟩ := vMag hfin
  rw [wOf_mag hf hh] at g2
  obtain ⟨s1, s2⟩ := sizeN_at (a := (vSig f (fWordOf f b m)).toNat) (b := a) (e := vExp f (fWordOf f b m)) (g := e) (k := k) (by omega) h2
  have e1 : (vExp f (fWordOf f b m) - k).toNat = (vExp f (fWordOf f b m) - expO f).toNat + (expO f - k).toNat := by omega
  rw [e1, Nat.pow_add, ← Nat.mul_assoc, g2] at s1 s2
  exact ⟨s1, s2⟩
theorem leM_mono {f : Int} (hf : 1 ≤ f ∧ f ≤ 4) (a : Nat) (e : Int) : ∀ m n, m ≤ n → n < halfN f → leM f a e n = true → leM f a e m = true := by
  intro m n hmn hn h
  unfold leM at h ⊢
  rw [Bool.and_eq_true, decide_eq_true_eq, decide_eq_true_eq] at h ⊢
  obtain ⟨h1, h2⟩ := h
  rw [fin_of hf hn] at h1
  rw [fin_of hf (by omega)]
  have hk : ∃ k, k ≤ expO f ∧ k ≤ e := ⟨min (expO f) e, by omega, by omega⟩
  obtain ⟨k, k1, k2⟩ := hk
  obtain ⟨s1, s2⟩ := size_of hf h1 false (a := a) k1 k2
  obtain ⟨t1, t2⟩ := size_of hf (show m < infN f by omega) false (a := a) k1 k2
  refine ⟨by omega, ?_⟩
  have hv := (magV_le f (m := m) (n := n)).2 hmn
  have hv2 := Nat.mul_le_mul_right (2 ^ (expO f - k).toNat) hv
  unfold wM at h2 ⊢
  generalize sizeN (vSig f (fWordOf f false n)).toNat (vExp f (fWordOf f false n)) a e = x at *
  generalize sizeN (vSig f (fWordOf f false m)).toNat (vExp f (fWordOf f false m)) a e = y at *
  omega
theorem leM_zero {f : Int} (hf : 1 ≤ f ∧ f ≤ 4) (a : Nat) (e : Int) : leM f a e 0 = true := by
  have hi := inf_pos hf
  unfold leM
  rw [Bool.and_eq_true, decide_eq_true_eq, decide_eq_true_eq, fin_of hf (by omega)]
  obtain ⟨s1, s2⟩ := size_of hf (show 0 < infN f by omega) false (a := a) (e := e) (k := min (expO f) e) (by omega) (by omega)
  rw [magV_zero, Nat.zero_mul] at s1 s2
  refine ⟨by omega, ?_⟩
  unfold wM
  generalize sizeN (vSig f (fWordOf f false 0)).toNat (vExp f (fWordOf f false 0)) a e = y at *
  omega
/-- beyond the words nothing is a word -/
def leH (f : Int) (a : Nat) (e : Int) (m : Nat) : Bool := decide (m < halfN f) && leM f a e m
theorem greedy_congr {P Q : Nat → Bool} : ∀ (i m : Nat), (∀ k, k < m + 2 ^ i → P k = Q k) → greedy P i m = greedy Q i m
  | 0, _, _ => rfl
  | i + 1, m, h => by
    have h2 : 2 ^ (i + 1) = 2 ^ i + 2 ^ i := by rw [Nat.pow_succ]; omega
    rw [h2] at h
    have hpos := Nat.two_pow_pos i
    have g1 := greedy_congr i (m + 2 ^ i) (fun k hk => h k (Nat.lt_of_lt_of_eq hk (Nat.add_assoc _ _ _)))
    have g2 := greedy_congr i m (fun k hk => h k (Nat.lt_of_lt_of_le hk (Nat.add_le_add_left (Nat.le_add_left _ _) _)))
    unfold greedy
    rw [h (m + 2 ^ i) (Nat.add_lt_add_left (Nat.lt_add_of_pos_left hpos) _), g1, g2]
theorem findM_spec {f : Int} (hf : 1 ≤ f ∧ f ≤ 4) (a : Nat) (e : Int) : findM f a e < infN f ∧ leM f a e (findM f a e) = true ∧ ∀ k, k < infN f → leM f a e k = true → k ≤ findM f a e := by
  have hi := inf_pos hf
  have hc : findM f a e = greedy (leH f a e) (fBits f - 1).toNat 0 := greedy_congr _ _ (fun k hk => by
    unfold leH
    have : k < halfN f := by unfold halfN; omega
    rw [decide_eq_true this, Bool.true_and])
  have hz : leH f a e 0 = true := by unfold leH; rw [leM_zero hf, decide_eq_true (by omega)]; rfl
  obtain ⟨_, g2, g3, g4⟩ := greedy_spec (P := leH f a e) (fun m n hmn h => by
    unfold leH at h ⊢
    rw [Bool.and_eq_true, decide_eq_true_eq] at h ⊢
    exact ⟨by omega, leM_mono hf a e m n hmn h.1 h.2⟩) (fBits f - 1).toNat 0 hz
  rw [← hc] at g2 g3 g4
  unfold leH at g3
  rw [Bool.and_eq_true, decide_eq_true_eq] at g3
  obtain ⟨g5, g6⟩ := g3
  have g7 := g6
  unfold leM at g7
  rw [Bool.and_eq_true, decide_eq_true_eq, fin_of hf g5] at g7
  refine ⟨g7.1, g6, fun k hk hk2 => g4 k ?_ ?_⟩
  · have : halfN f = 2 ^ (fBits f - 1).toNat := rfl
    omega
  · unfold leH; rw [hk2, decide_eq_true (by omega)]; rfl
/-- a number that a word stands for -/
theorem findM_eq {f : Int} (hf : 1 ≤ f ∧ f ≤ 4) {a m : Nat} {e : Int} (hm : m < infN f) (h : sizeN (vSig f (wM f m)).toNat (vExp f (wM f m)) a e = 0) : findM f a e = m := by
  obtain ⟨g1, g2, g3⟩ := findM_spec hf a e
  have hle := g3 m hm (by unfold leM; rw [h, decide_eq_true ((fin_of hf (by have := inf_pos hf; omega)).2 hm)]; rfl)
  unfold leM at g2
  rw [Bool.and_eq_true, decide_eq_true_eq, decide_eq_true_eq] at g2
  have k1 : min (expO f) e ≤ expO f := by omega
  have k2 : min (expO f) e ≤ e := by omega
  obtain ⟨s1, s2⟩ := size_of hf hm false (a := a) k1 k2
  obtain ⟨t1, t2⟩ := size_of hf g1 false (a := a) k1 k2
  unfold wM at h g2
  have h1 := s1.1 h
  obtain ⟨_, g2⟩ := g2
  by_cases he : findM f a e = m
  · exact he
  · exfalso
    have hv := magV_mono f (show m < findM f a e by omega)
    have hv2 := Nat.mul_lt_mul_of_pos_right hv (Nat.two_pow_pos (expO f - min (expO f) e).toNat)
    generalize sizeN (vSig f (fWordOf f false (findM f a e))).toNat (vExp f (fWordOf f false (findM f a e))) a e = y at *
    omega
def exOk (f e : Int) (s : W) : Bool := fOk f && (rgtE e && decide (sizeN (vSig f (wM f (findM f s.toNat e))).toNat (vExp f (wM f (findM f s.toNat e))) s.toNat e = 0))
def exW (f : Int) (b : Bool) (e : Int) (s : W) : BitVec 128 := bif exOk f e s then fWordOf f b (findM f s.toNat e) else 0
theorem ex_word {f e : Int} {s : W} (hf : 1 ≤ f ∧ f ≤ 4) (he : rgtE e = true) {m : Nat} (hm : m < infN f) (h : sizeN (vSig f (wM f m)).toNat (vExp f (wM f m)) s.toNat e = 0) (b : Bool) : exOk f e s = true ∧ exW f b e s = fWordOf f b m := by
  have := findM_eq hf hm h
  have ho : exOk f e s = true := by
    unfold exOk
    rw [this, h, he]
    unfold fOk
    rw [decide_eq_true hf]; rfl
  exact ⟨ho, by unfold exW; rw [ho, this]; rfl⟩
end Go.LE
namespace Go.LE
open Go
/-! ## the word of just a number, as it is packed -/
end Go.LE
namespace Go.LE
open Go
/-! ## numbers against each other, as they are unpacked -/
def ucmp (b : Bool) (e : Int) (s : W) (c : Bool) (g : Int) (t : W) : Int := bif rgtE e && rgtE g then cmp7 b s.toNat e c t.toNat g else 0
def usame (b : Bool) (e : Int) (s : W) (c : Bool) (g : Int) (t : W) : Bool := rgtE e && rgtE g && (b == c) && decide (shExp e s = shExp g t) && decide (shSig e s = shSig g t)
/-- a number out of its limbs -/
theorem less8 {a0 a1 a2 a3 a4 a5 a6 a7 b0 b1 b2 b3 b4 b5 b6 b7 : Int} (x0 : 0 ≤ a0 ∧ a0 < 18446744073709551616) (x1 : 0 ≤ a1 ∧ a1 < 18446744073709551616) (x2 : 0 ≤ a2 ∧ a2 < 18446744073709551616) (x3 : 0 ≤ a3 ∧ a3 < 18446744073709551616) (x4 : 0 ≤ a4 ∧ a4 < 18446744073709551616) (x5 : 0 ≤ a5 ∧ a5 < 18446744073709551616) (x6 : 0 ≤ a6 ∧ a6 < 18446744073709551616) (x7 : 0 ≤ a7 ∧ a7 < 18446744073709551616)
    (y0 : 0 ≤ b0 ∧ b0 < 18446744073709551616) (y1 : 0 ≤ b1 ∧ b1 < 18446744073709551616) (y2 : 0 ≤ b2 ∧ b2 < 18446744073709551616) (y3 : 0 ≤ b3 ∧ b3 < 18446744073709551616) (y4 : 0 ≤ b4 ∧ b4 < 18446744073709551616) (y5 : 0 ≤ b5 ∧ b5 < 18446744073709551616) (y6 : 0 ≤ b6 ∧ b6 < 18446744073709551616) (y7 : 0 ≤ b7 ∧ b7 < 18446744073709551616) :
    decide ((ofLimbsR a0 a1 a2 a3 a4 a5 a6 a7).toNat < (ofLimbsR b0 b1 b2 b3 b4 b5 b6 b7).toNat) =
      if a7 ≠ b7 then cmpR .lss a7 b7 else if a6 ≠ b6 then cmpR .lss a6 b6 else if a5 ≠ b5 then cmpR .lss a5 b5 else if a4 ≠ b4 then cmpR .lss a4 b4 else if a3 ≠ b3 then cmpR .lss a3 b3 else if a2 ≠ b2 then cmpR .lss a2 b2 else if a1 ≠ b1 then cmpR .lss a1 b1 else if a0 ≠ b0 then cmpR .lss a0 b0 else false := by
  have h1 := ofLimbs_toNat x0 x1 x2 x3 x4 x5 x6 x7
  have h2 := ofLimbs_toNat y0 y1 y2 y3 y4 y5 y6 y7
  have cl : ∀ x y : Int, cmpR .lss x y = decide (x < y) := fun x y => by
    cases h : cmpR .lss x y with
    | true => rw [c_lss_t] at h; exact (decide_eq_true h).symm
    | false => rw [c_lss_f] at h; exact (decide_eq_false (by omega)).symm
  simp only [cl]
  generalize (ofLimbsR a0 a1 a2 a3 a4 a5 a6 a7).toNat = A at *
  generalize (ofLimbsR b0 b1 b2 b3 b4 b5 b6 b7).toNat = B at *
  repeat' split
  all_goals (first | (rw [decide_eq_decide]; omega) | (refine decide_eq_false ?_; omega))
end Go.LE
namespace Go.LE
open Go
/-! ## the search, as it goes -/
end Go.LE
namespace Go.LE
open Go
/-! ## a word is the word of its own number -/
theorem fin_mag {f : Int} {w : BitVec 128} (h : wFin f w = true) : (1 ≤ f ∧ f ≤ 4) ∧ magN f w < infN f ∧ wFin f (wM f (magN f w)) = true ∧ magN f (wM f (magN f w)) = magN f w := by
  obtain ⟨hF, hf⟩ := fin_fits h
  have hm := ((cls_mag hF).2.2.1).1 ((fin_iff f w).1 h)
  have hl := mag_lt f w
  refine ⟨hf, hm, (fin_iff _ _).2 ((fin_of hf hl).2 hm), ?_⟩
  unfold wM
  exact wOf_mag hf hl false
theorem ex_own {f : Int} {w : BitVec 128} (h : wFin f w = true) {e : Int} {s : W} (he : rgtE e = true) (hs : sizeN (vSig f w).toNat (vExp f w) s.toNat e = 0) : exOk f e s = true ∧ exW f (wNeg f w) e s = w := by
  obtain ⟨hf, hm, hfin, hmag⟩ := fin_mag h
  obtain ⟨g1, g2⟩ := vMag h
  have h1 := (sizeN_at (a := (vSig f w).toNat) (b := s.toNat) (e := vExp f w) (g := e) (k := min (expO f) e) (by omega) (by omega)).1.1 hs
  obtain ⟨r1, r2⟩ := ex_word hf he hm (s := s) (e := e) (by
    unfold wM
    rw [(size_of hf hm false (a := s.toNat) (e := e) (k := min (expO f) e) (by omega) (by omega)).1, ← g2, Nat.mul_assoc, ← Nat.pow_add, ← h1]
    congr 2
    omega) (wNeg f w)
  refine ⟨r1, ?_⟩
  rw [r2]
  exact (w_own (fin_fits h).1).symm
theorem u_parts {f : Int} {w : BitVec 128} (h : uOk f w = true) : uSig f w = wShl (vSig f w) (fPrec f - wLen (vSig f w)) ∧ uExp f w = vExp f w - (fPrec f - wLen (vSig f w)) ∧ uNeg f w = vNeg f w := by
  unfold uSig uExp uNeg
  rw [h]
  exact ⟨rfl, rfl, rfl⟩
set_option exponentiation.threshold 600 in
theorem u_own {f : Int} {w : BitVec 128} (h : uOk f w = true) : wFin f w = true ∧ ((bitN (uSig f w).toNat : Nat) : Int) = fPrec f ∧ sizeN (vSig f w).toNat (vExp f w) (uSig f w).toNat (uExp f w) = 0 ∧ exOk f (uExp f w) (uSig f w) = true ∧ exW f (uNeg f w) (uExp f w) (uSig f w) = w ∧ -1048576 ≤ uExp f w ∧ uExp f w ≤ 1048576 := by
  obtain ⟨p1, p2, p3⟩ := u_parts h
  have hfin : wFin f w = true := by
    unfold uOk at h
    rw [Bool.and_eq_true] at h
    exact h.1
  have hne : (vSig f w).toNat ≠ 0 := by
    unfold uOk at h
    rw [Bool.and_eq_true, Bool.not_eq_true', decide_eq_false_iff_not, w_zero] at h
    exact h.2
  obtain ⟨hf, _⟩ := fin_mag hfin
  have hp := p_rng f hf
  have hr := vExp_rng hfin
  have hlt := vSig_lt hfin
  have hl : wLen (vSig f w) = ((bitN (vSig f w).toNat : Nat) : Int) := (bitN_wLen _).symm
  have hb : bitN (vSig f w).toNat ≤ (fPrec f).toNat := bitN_le.2 hlt
  have hmul := bitN_mul (vSig f w).toNat (fPrec f - wLen (vSig f w)).toNat hne
  have hs : (uSig f w).toNat = (vSig f w).toNat * 2 ^ (fPrec f - wLen (vSig f w)).toNat := by
    rw [p1]
    refine shl_small (by omega) ?_
    refine Nat.lt_of_lt_of_le (bitN_le.1 (Nat.le_refl _)) (Nat.pow_le_pow_right (by decide) ?_)
    rw [hmul]
    omega
  have hsz : sizeN (vSig f w).toNat (vExp f w) (uSig f w).toNat (uExp f w) = 0 := by
    rw [(sizeN_at (k := min (vExp f w) (uExp f w)) (by omega) (by omega)).1, hs, Nat.mul_assoc, ← Nat.pow_add]
    congr 2
    omega
  have ho := ex_own hfin (e := uExp f w) (s := uSig f w) (decide_eq_true (by omega)) hsz
  refine ⟨hfin, ?_, hsz, ho.1, ?_, by omega, by omega⟩
  · skip
    rw [hs, hmul]
    omega
  · rw [p3, show vNeg f w = wNeg f w by unfold vNeg; rw [hfin]; rfl]
    exact ho.2
end Go.LE
namespace Go.LE
open Go
theorem neg_i64 {x : Int} (h : -9223372036854775807 ≤ x ∧ x ≤ 9223372036854775807) : unR .neg .i64 x = -x := wrap_i64_of (by omega) (by omega)
/-! ## words without their signs -/
theorem lss_dec (x y : Int) : cmpR .lss x y = decide (x < y) := by
  cases h : cmpR .lss x y with
  | true => rw [c_lss_t] at h; exact (decide_eq_true h).symm
  | false => rw [c_lss_f] at h; exact (decide_eq_false (by omega)).symm
end Go.LE
namespace Go.LE
open Go
/-! ## places and steps -/
def plI (f : Int) (w : BitVec 128) : Int := bif wNeg f w then -((magN f w : Nat) : Int) - 1 else ((magN f w : Nat) : Int)
def plW (f : Int) (w : BitVec 128) : W := bif fFits f w then BitVec.ofNat 512 (bif wNeg f w then magN f w + 1 else magN f w) else 0
def osg (a : W) (neg : Bool) (b : W) (less : Bool) : Int := if neg = true ∧ less = false then -1 else if less = true ∧ neg = false then 1 else if neg = true then wCmp b a else wCmp a b
def totI (f : Int) (a b : BitVec 128) : Int := bif fFits f a && fFits f b then sgI (plI f a - plI f b) else 0
def kn2 (f : Int) (a b : BitVec 128) : Bool := decide (3 ≤ cls f a) && decide (3 ≤ cls f b)
def cmpO (f : Int) (a b : BitVec 128) : Int := bif kn2 f a b then c28 f a b else 0
def stepN (f : Int) (a b : BitVec 128) : Nat := (sval f a - sval f b).natAbs
def stepW (f : Int) (a b : BitVec 128) : W := bif kn2 f a b then BitVec.ofNat 512 (stepN f a b) else 0
def minO (f : Int) (a b : BitVec 128) : BitVec 128 := bif kn2 f a b then (if plI f a < plI f b then a else b) else 0
def maxO (f : Int) (a b : BitVec 128) : BitVec 128 := bif kn2 f a b then (if plI f b < plI f a then a else b) else 0
end Go.LE
namespace Go.LE
open Go
theorem neq_dec (x y : Int) : cmpR .neq x y = decide (x ≠ y) := by
  cases h : cmpR .neq x y with
  | true => rw [c_neq_t] at h; exact (decide_eq_true h).symm
  | false => rw [c_neq_f] at h; exact (decide_eq_false (by omega)).symm
theorem gtr_dec (x y : Int) : cmpR .gtr x y = decide (y < x) := by
  cases h : cmpR .gtr x y with
  | true => rw [c_gtr_t] at h; exact (decide_eq_true h).symm
  | false => rw [c_gtr_f] at h; exact (decide_eq_false (by omega)).symm
end Go.LE
namespace Go.LE
open Go
/-! ## what needs no engine -/
/-- rules by their numbers: none, nan, invalid, infinite, zero, nought, finite, same -/
def sCode (c : Int) : ByteArray :=
  if c = 1 then bytesOf [110, 97, 110] else if c = 2 then bytesOf [105, 110, 118, 97, 108, 105, 100] else if c = 3 then bytesOf [105, 110, 102, 105, 110, 105, 116, 101]
  else if c = 4 then bytesOf [122, 101, 114, 111] else if c = 5 then bytesOf [110, 111, 117, 103, 104, 116] else if c = 6 then bytesOf [102, 105, 110, 105, 116, 101]
  else if c = 7 then bytesOf [115, 97, 109, 101] else bytesOf []
def kindK (c : Int) : Int := if c = 1 ∨ c = 2 then 1 else if c = 3 then 2 else if c = 6 then 3 else if c = 4 ∨ c = 5 then 4 else 0
def kindOf2 (f : Int) (w : BitVec 128) : Int := kindK (cls f w)
def ruleC (x y : Int) : Int := if x = 0 ∨ y = 0 then 0 else if x = 1 ∨ y = 1 then 1 else if x = y ∧ x ≠ 4 then 2 else if x = 2 then 3 else if y = 3 then 4 else if y = 2 ∨ x = 3 then 5 else 6
def rootC (k : Int) (neg : Bool) : Int := if k = 0 then 0 else if k = 1 then 1 else if k = 3 then 7 else if k = 2 then (bif neg then 2 else 7) else if k = 4 then (bif neg then 2 else 6) else 6
def gS (c : Int) : ByteArray := if c = 1 ∨ c = 2 then bytesOf [110] else if c = 3 then bytesOf [105] else if c = 4 ∨ c = 5 then bytesOf [102] else if c = 6 then bytesOf [122] else bytesOf []
def divC (f : Int) (a b : BitVec 128) : Int := ruleC (kindOf2 f a) (kindOf2 f b)
def sqrC (f : Int) (a : BitVec 128) : Int := rootC (kindOf2 f a) (wNeg f a)
theorem kindK_rng (c : Int) : 0 ≤ kindK c ∧ kindK c ≤ 4 := by unfold kindK; split <;> (try split) <;> (try split) <;> (try split) <;> omega
theorem ruleC_rng (x y : Int) : 0 ≤ ruleC x y ∧ ruleC x y ≤ 6 := by
  unfold ruleC; split <;> (try split) <;> (try split) <;> (try split) <;> (try split) <;> (try split) <;> omega
theorem rootC_rng (x : Int) (b : Bool) : 0 ≤ rootC x b ∧ rootC x b ≤ 7 := by
  unfold rootC; cases b <;> simp only [cond_true, cond_false] <;> split <;> (try split) <;> (try split) <;> (try split) <;> (try split) <;> omega
theorem code_cases {c : Int} (h : 0 ≤ c ∧ c ≤ 7) : c = 0 ∨ c = 1 ∨ c = 2 ∨ c = 3 ∨ c = 4 ∨ c = 5 ∨ c = 6 ∨ c = 7 := by omega
theorem code_is {c k : Int} (h : 0 ≤ c ∧ c ≤ 7) (hk : 0 ≤ k ∧ k ≤ 7) : ((sCode c).toList == (sCode k).toList) = decide (c = k) := by
  rcases code_cases h with rfl | rfl | rfl | rfl | rfl | rfl | rfl | rfl <;> rcases code_cases hk with rfl | rfl | rfl | rfl | rfl | rfl | rfl | rfl <;> decide +kernel
theorem kind_pos {f : Int} {w : BitVec 128} (h : kindOf2 f w ≠ 0) : fFits f w = true := by
  cases hh : fFits f w with
  | true => rfl
  | false =>
    exfalso
    apply h
    unfold kindOf2
    rw [cls_none hh]
    rfl
theorem div_isF {f : Int} {a b : BitVec 128} (h : divC f a b ≠ 0) : 1 ≤ f ∧ f ≤ 4 := by
  have : kindOf2 f a ≠ 0 := fun hh => h (by unfold divC ruleC; rw [if_pos (.inl hh)])
  exact (fits_lt (kind_pos this)).1
theorem sqr_isF {f : Int} {a : BitVec 128} (h : sqrC f a ≠ 0) : 1 ≤ f ∧ f ≤ 4 := by
  have : kindOf2 f a ≠ 0 := fun hh => h (by unfold sqrC rootC; rw [if_pos hh])
  exact (fits_lt (kind_pos this)).1
def dvNeg (f : Int) (a b : BitVec 128) : Bool := !(wNeg f a == wNeg f b)
def divW (f : Int) (a b : BitVec 128) : BitVec 128 := if divC f a b = 1 then nanV f [a, b] else if divC f a b = 2 then fNaN f else if divC f a b = 3 ∨ divC f a b = 4 then fInf f (dvNeg f a b) else if divC f a b = 5 then fNought f (dvNeg f a b) else 0
def divX (f : Int) (a b : BitVec 128) : Int := if divC f a b = 1 then nanX f [a, b] else if divC f a b = 2 then 1 else if divC f a b = 4 then 2 else 0
def divOk (f : Int) (a b : BitVec 128) : Bool := if divC f a b = 1 then nanIs f [a, b] else decide (2 ≤ divC f a b ∧ divC f a b ≤ 5)
def sqrW (f : Int) (a : BitVec 128) : BitVec 128 := if sqrC f a = 1 then nanV f [a] else if sqrC f a = 7 then a else if sqrC f a = 2 then fNaN f else 0
def sqrX (f : Int) (a : BitVec 128) : Int := if sqrC f a = 1 then nanX f [a] else if sqrC f a = 2 then 1 else 0
def sqrOk (f : Int) (a : BitVec 128) : Bool := if sqrC f a = 1 then nanIs f [a] else decide (sqrC f a = 7 ∨ sqrC f a = 2)
end Go.LE