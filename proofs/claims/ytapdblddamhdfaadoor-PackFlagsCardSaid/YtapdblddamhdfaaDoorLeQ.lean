import Derived.Test.YtapdblddamhdfaaDoorLeP
set_option linter.unusedVariables false
set_option linter.unusedSimpArgs false
namespace Go.LE
open Go
/-! ## the greatest word that isn't above a number, bit by bit -/
def greedy (P : Nat → Bool) : Nat → Nat → Nat
  | 0, m => m
  | i + 1, m => if P (m + 2 ^ i) = true then greedy P i (m + 2 ^ i) else greedy P i m
theorem greedy_spec {P : Nat → Bool} (hP : ∀ m n, m ≤ n → P n = true → P m = true) : ∀ (i m : Nat), P m = true → m ≤ greedy P i m ∧ greedy P i m < m + 2 ^ i ∧ P (greedy P i m) = true ∧ ∀ k, k < m + 2 ^ i → P k = true → k ≤ greedy P i m
  | 0, m, h => ⟨Nat.le_refl _, by unfold greedy; omega, h, fun k hk _ => by unfold greedy; omega⟩
  | i + 1, m, h => by
    unfold greedy
    have h2 : 2 ^ (i + 1) = 2 ^ i + 2 ^ i := by rw [Nat.pow_succ]; omega
    split
    · rename_i hp
      obtain ⟨a, b, c, d⟩ := greedy_spec hP i (m + 2 ^ i) hp
      exact ⟨by omega, by omega, c, fun k hk => d k (by omega)⟩
    · rename_i hp
      obtain ⟨a, b, c, d⟩ := greedy_spec hP i m h
      refine ⟨a, by omega, c, fun k hk hk2 => ?_⟩
      by_cases hkm : k < m + 2 ^ i
      · exact d k hkm hk2
      · exact absurd (hP _ _ (by omega) hk2) hp
def wM (f : Int) (m : Nat) : BitVec 128 := fWordOf f false m
def leM (f : Int) (a : Nat) (e : Int) (m : Nat) : Bool := decide (4 ≤ cls f (wM f m)) && decide (sizeN (vSig f (wM f m)).toNat (vExp f (wM f m)) a e ≤ 0)
def findM (f : Int) (a : Nat) (e : Int) : Nat := greedy (leM f a e) (fBits f - 1).toNat 0
theorem fin_of {f : Int} (hf : 1 ≤ f ∧ f ≤ 4) {m : Nat} (hm : m < halfN f) : 4 ≤ cls f (wM f m) ↔ m < infN f := by
  obtain ⟨_, _, g, _⟩ := cls_mag (wOf_fits hf hm false)
  rw [wOf_mag hf hm] at g
  exact g
/-- what a word of a format stands for, against a number -/
theorem size_of {f : Int} (hf : 1 ≤ f ∧ f ≤ 4) {m : Nat} (hm : m < infN f) (b : Bool) {a : Nat} {e k : Int} (h1 : k ≤ expO f) (h2 : k ≤ e) :
    (sizeN (vSig f (fWordOf f b m)).toNat (vExp f (fWordOf f b m)) a e = 0 ↔ magV f m * 2 ^ (expO f - k).toNat = a * 2 ^ (e - k).toNat) ∧ (sizeN (vSig f (fWordOf f b m)).toNat (vExp f (fWordOf f b m)) a e < 0 ↔ magV f m * 2 ^ (expO f - k).toNat < a * 2 ^ (e - k).toNat) := by
  have hi := inf_pos hf
  have hh : m < halfN f := by omega
  have hfin : wFin f (fWordOf f b m) = true := (fin_iff _ _).2 (by
    obtain ⟨_, _, g, _⟩ := cls_mag (wOf_fits hf hh b)
    rw [wOf_mag hf hh] at g
    exact g.2 hm)
  obtain ⟨g1, g2⟩ := vMag hfin
  rw [wOf_mag hf hh] at g2
  obtain ⟨s1, s2⟩ := sizeN_at (a := (vSig f (fWordOf f b m)).toNat) (b := a) (e := vExp f (fWordOf f b m)) (g := e) (k := k) (by omega) h2
  have e1 : (vExp f (fWordOf f b m) - k).toNat = (vExp f (fWordOf f b m) - expO f).toNat + (expO f - k).toNat := by omega
  rw [e1, Nat.pow_add, ← Nat.mul_assoc, g2] at s1 s2
  exact ⟨s1, s2⟩
theorem leM_mono {f : Int} (hf : 1 ≤ f ∧ f ≤ 4) (a : Nat) (e : Int) : ∀ m n, m ≤ n → n < halfN f → leM f a e n = true → leM f a e m = true := by
  intro m n hmn hn h
  unfold leM at h ⊢
  rw [Bool.and_eq_true, decide_eq_true_eq, decide_eq_true_eq] at h ⊢
  obtain ⟨h1, h2⟩ := h
  rw [fin_of hf hn] at h1
  rw [fin_of hf (by omega)]
  have hk : ∃ k, k ≤ expO f ∧ k ≤ e := ⟨min (expO f) e, by omega, by omega⟩
  obtain ⟨k, k1, k2⟩ := hk
  obtain ⟨s1, s2⟩ := size_of hf h1 false (a := a) k1 k2
  obtain ⟨t1, t2⟩ := size_of hf (show m < infN f by omega) false (a := a) k1 k2
  refine ⟨by omega, ?_⟩
  have hv := (magV_le f (m := m) (n := n)).2 hmn
  have hv2 := Nat.mul_le_mul_right (2 ^ (expO f - k).toNat) hv
  unfold wM at h2 ⊢
  generalize sizeN (vSig f (fWordOf f false n)).toNat (vExp f (fWordOf f false n)) a e = x at *
  generalize sizeN (vSig f (fWordOf f false m)).toNat (vExp f (fWordOf f false m)) a e = y at *
  omega
theorem leM_zero {f : Int} (hf : 1 ≤ f ∧ f ≤ 4) (a : Nat) (e : Int) : leM f a e 0 = true := by
  have hi := inf_pos hf
  unfold leM
  rw [Bool.and_eq_true, decide_eq_true_eq, decide_eq_true_eq, fin_of hf (by omega)]
  obtain ⟨s1, s2⟩ := size_of hf (show 0 < infN f by omega) false (a := a) (e := e) (k := min (expO f) e) (by omega) (by omega)
  rw [magV_zero, Nat.zero_mul] at s1 s2
  refine ⟨by omega, ?_⟩
  unfold wM
  generalize sizeN (vSig f (fWordOf f false 0)).toNat (vExp f (fWordOf f false 0)) a e = y at *
  omega
/-- beyond the words nothing is a word -/
def leH (f : Int) (a : Nat) (e : Int) (m : Nat) : Bool := decide (m < halfN f) && leM f a e m
theorem greedy_congr {P Q : Nat → Bool} : ∀ (i m : Nat), (∀ k, k < m + 2 ^ i → P k = Q k) → greedy P i m = greedy Q i m
  | 0, _, _ => rfl
  | i + 1, m, h => by
    have h2 : 2 ^ (i + 1) = 2 ^ i + 2 ^ i := by rw [Nat.pow_succ]; omega
    rw [h2] at h
    have hpos := Nat.two_pow_pos i
    have g1 := greedy_congr i (m + 2 ^ i) (fun k hk => h k (Nat.lt_of_lt_of_eq hk (Nat.add_assoc _ _ _)))
    have g2 := greedy_congr i m (fun k hk => h k (Nat.lt_of_lt_of_le hk (Nat.add_le_add_left (Nat.le_add_left _ _) _)))
    unfold greedy
    rw [h (m + 2 ^ i) (Nat.add_lt_add_left (Nat.lt_add_of_pos_left hpos) _), g1, g2]
theorem findM_spec {f : Int} (hf : 1 ≤ f ∧ f ≤ 4) (a : Nat) (e : Int) : findM f a e < infN f ∧ leM f a e (findM f a e) = true ∧ ∀ k, k < infN f → leM f a e k = true → k ≤ findM f a e := by
  have hi := inf_pos hf
  have hc : findM f a e = greedy (leH f a e) (fBits f - 1).toNat 0 := greedy_congr _ _ (fun k hk => by
    unfold leH
    have : k < halfN f := by unfold halfN; omega
    rw [decide_eq_true this, Bool.true_and])
  have hz : leH f a e 0 = true := by unfold leH; rw [leM_zero hf, decide_eq_true (by omega)]; rfl
  obtain ⟨_, g2, g3, g4⟩ := greedy_spec (P := leH f a e) (fun m n hmn h => by
    unfold leH at h ⊢
    rw [Bool.and_eq_true, decide_eq_true_eq] at h ⊢
    exact ⟨by omega, leM_mono hf a e m n hmn h.1 h.2⟩) (fBits f - 1).toNat 0 hz
  rw [← hc] at g2 g3 g4
  unfold leH at g3
  rw [Bool.and_eq_true, decide_eq_true_eq] at g3
  obtain ⟨g5, g6⟩ := g3
  have g7 := g6
  unfold leM at g7
  rw [Bool.and_eq_true, decide_eq_true_eq, fin_of hf g5] at g7
  refine ⟨g7.1, g6, fun k hk hk2 => g4 k ?_ ?_⟩
  · have : halfN f = 2 ^ (fBits f - 1).toNat := rfl
    omega
  · unfold leH; rw [hk2, decide_eq_true (by omega)]; rfl
/-- a number that a word stands for -/
theorem findM_eq {f : Int} (hf : 1 ≤ f ∧ f ≤ 4) {a m : Nat} {e : Int} (hm : m < infN f) (h : sizeN (vSig f (wM f m)).toNat (vExp f (wM f m)) a e = 0) : findM f a e = m := by
  obtain ⟨g1, g2, g3⟩ := findM_spec hf a e
  have hle := g3 m hm (by unfold leM; rw [h, decide_eq_true ((fin_of hf (by have := inf_pos hf; omega)).2 hm)]; rfl)
  unfold leM at g2
  rw [Bool.and_eq_true, decide_eq_true_eq, decide_eq_true_eq] at g2
  have k1 : min (expO f) e ≤ expO f := by omega
  have k2 : min (expO f) e ≤ e := by omega
  obtain ⟨s1, s2⟩ := size_of hf hm false (a := a) k1 k2
  obtain ⟨t1, t2⟩ := size_of hf g1 false (a := a) k1 k2
  unfold wM at h g2
  have h1 := s1.1 h
  obtain ⟨_, g2⟩ := g2
  by_cases he : findM f a e = m
  · exact he
  · exfalso
    have hv := magV_mono f (show m < findM f a e by omega)
    have hv2 := Nat.mul_lt_mul_of_pos_right hv (Nat.two_pow_pos (expO f - min (expO f) e).toNat)
    generalize sizeN (vSig f (fWordOf f false (findM f a e))).toNat (vExp f (fWordOf f false (findM f a e))) a e = y at *
    omega
def exOk (f e : Int) (s : W) : Bool := fOk f && (rgtE e && decide (sizeN (vSig f (wM f (findM f s.toNat e))).toNat (vExp f (wM f (findM f s.toNat e))) s.toNat e = 0))
def exW (f : Int) (b : Bool) (e : Int) (s : W) : BitVec 128 := bif exOk f e s then fWordOf f b (findM f s.toNat e) else 0
theorem ex_word {f e : Int} {s : W} (hf : 1 ≤ f ∧ f ≤ 4) (he : rgtE e = true) {m : Nat} (hm : m < infN f) (h : sizeN (vSig f (wM f m)).toNat (vExp f (wM f m)) s.toNat e = 0) (b : Bool) : exOk f e s = true ∧ exW f b e s = fWordOf f b m := by
  have := findM_eq hf hm h
  have ho : exOk f e s = true := by
    unfold exOk
    rw [this, h, he]
    unfold fOk
    rw [decide_eq_true hf]; rfl
  exact ⟨ho, by unfold exW; rw [ho, this]; rfl⟩
theorem ex_none {f e : Int} {s : W} (h : ∀ m, (1 ≤ f ∧ f ≤ 4) → rgtE e = true → m < infN f → sizeN (vSig f (wM f m)).toNat (vExp f (wM f m)) s.toNat e ≠ 0) (b : Bool) : exOk f e s = false ∧ exW f b e s = 0 := by
  have ho : exOk f e s = false := by
    cases hh : exOk f e s with
    | false => rfl
    | true =>
      unfold exOk at hh
      rw [Bool.and_eq_true, Bool.and_eq_true, decide_eq_true_eq] at hh
      have hf : 1 ≤ f ∧ f ≤ 4 := by have := hh.1; unfold fOk at this; simpa using this
      exact absurd hh.2.2 (h _ hf hh.2.1 (findM_spec hf _ _).1)
  exact ⟨ho, by unfold exW; rw [ho]; rfl⟩
end Go.LE
namespace Go.LE
open Go
/-! ## the word of just a number, as it is packed -/
theorem sh_val {e : Int} {s : W} (h : topOk e s = true) : (shSig e s).toNat ≠ 0 ∧ s.toNat = (shSig e s).toNat * 2 ^ tzN s.toNat ∧ topE e s = shExp e s + (bitN (shSig e s).toNat : Int) - 1 := by
  obtain ⟨p1, p2, p3, p4, p5⟩ := sh_parts h
  obtain ⟨q1, q2⟩ := tzN_spec s.toNat p1
  rw [← p2] at q1
  have hne : (shSig e s).toNat ≠ 0 := by intro hh; rw [hh] at p3; omega
  refine ⟨hne, q1, ?_⟩
  have hb := bitN_mul (shSig e s).toNat (tzN s.toNat) hne
  rw [← q1] at hb
  unfold topE
  rw [h, cond_true, show wLen s = ((bitN s.toNat : Nat) : Int) from (bitN_wLen s).symm, p4, hb]
  omega
/-- what of a number that a word stands for is so -/
theorem ex_fits {f e : Int} {s : W} (hf : 1 ≤ f ∧ f ≤ 4) (ho : topOk e s = true) {m : Nat} (hm : m < infN f) (h : sizeN (vSig f (wM f m)).toNat (vExp f (wM f m)) s.toNat e = 0) :
    topE e s ≤ fEMax f ∧ max (topE e s) (1 - fEMax f) - fPrec f + 1 ≤ shExp e s := by
  obtain ⟨v1, v2, v3⟩ := sh_val ho
  obtain ⟨p1, p2, p3, p4, p5⟩ := sh_parts ho
  have hi := inf_pos hf
  have hh : m < halfN f := by omega
  have hfin : wFin f (wM f m) = true := (fin_iff _ _).2 ((fin_of hf hh).2 hm)
  obtain ⟨h0, h1, _⟩ := fin_fld hfin
  obtain ⟨s1, s2⟩ := vSig_nat hfin
  have hp := p_rng f hf
  have he := e_rng f hf
  have hsz := sh_size ho
  -- one number
  have hk1 := (sizeN_at (a := (vSig f (wM f m)).toNat) (b := s.toNat) (e := vExp f (wM f m)) (g := e) (k := min (vExp f (wM f m)) e) (by omega) (by omega)).1.1 h
  have hne : (vSig f (wM f m)).toNat ≠ 0 := by
    intro hz
    rw [hz, Nat.zero_mul] at hk1
    have := Nat.mul_pos p1 (Nat.two_pow_pos (e - min (vExp f (wM f m)) e).toNat)
    omega
  have b1 := bitN_mul _ (vExp f (wM f m) - min (vExp f (wM f m)) e).toNat hne
  have b2 := bitN_mul s.toNat (e - min (vExp f (wM f m)) e).toNat (by omega)
  rw [hk1, b2] at b1
  have hT : topE e s = vExp f (wM f m) + (bitN (vSig f (wM f m)).toNat : Int) - 1 := by
    unfold topE
    rw [ho, cond_true, show wLen s = ((bitN s.toNat : Nat) : Int) from (bitN_wLen s).symm]
    omega
  have hodd : vExp f (wM f m) ≤ shExp e s := by
    by_cases hlt : vExp f (wM f m) ≤ shExp e s
    · exact hlt
    · exfalso
      have e1 : s.toNat * 2 ^ (e - min (vExp f (wM f m)) e).toNat = (shSig e s).toNat * 2 ^ (tzN s.toNat + (e - min (vExp f (wM f m)) e).toNat) := by
        rw [Nat.pow_add, ← Nat.mul_assoc, ← v2]
      rw [e1] at hk1
      have e2 : (vExp f (wM f m) - min (vExp f (wM f m)) e).toNat = (vExp f (wM f m) - shExp e s).toNat + (tzN s.toNat + (e - min (vExp f (wM f m)) e).toNat) := by omega
      rw [e2, Nat.pow_add, ← Nat.mul_assoc] at hk1
      have := Nat.eq_of_mul_eq_mul_right (Nat.two_pow_pos _) hk1
      rw [← this, show (vExp f (wM f m) - shExp e s).toNat = ((vExp f (wM f m) - shExp e s).toNat - 1) + 1 by omega, Nat.pow_succ, ← Nat.mul_assoc] at p3
      omega
  have hx : vExp f (wM f m) = (if bFld f (wM f m) > 0 then bFld f (wM f m) - 1 else bFld f (wM f m)) + (1 - fEMax f) - fPrec f + 1 := by
    conv => lhs; unfold vExp
    rw [hfin, cond_true]
  by_cases hz : bFld f (wM f m) > 0
  · rw [if_pos hz] at hx s1
    have hb : bitN (vSig f (wM f m)).toNat = (fPrec f).toNat := by
      rw [bitN_iff (by omega)]
      have e3 : 2 ^ (fPrec f).toNat = 2 ^ (fPrec f - 1).toNat + 2 ^ (fPrec f - 1).toNat := by
        rw [show (fPrec f).toNat = (fPrec f - 1).toNat + 1 by omega, Nat.pow_succ]; omega
      rw [show (fPrec f).toNat - 1 = (fPrec f - 1).toNat by omega]
      omega
    omega
  · rw [if_neg hz] at hx s1
    have hb : bitN (vSig f (wM f m)).toNat ≤ (fPrec f - 1).toNat := bitN_le.2 (by omega)
    omega
set_option exponentiation.threshold 600 in
theorem ex_made {f e : Int} {s : W} (hf : 1 ≤ f ∧ f ≤ 4) (ho : topOk e s = true) (h1 : topE e s ≤ fEMax f) (h2 : max (topE e s) (1 - fEMax f) - fPrec f + 1 ≤ shExp e s) (b : Bool) :
    exOk f e s = true ∧
    (topE e s < 1 - fEMax f → mkOk f 0 (wShl (shSig e s) (shExp e s - (max (topE e s) (1 - fEMax f) - fPrec f + 1))) = true ∧ mkW f b 0 (wShl (shSig e s) (shExp e s - (max (topE e s) (1 - fEMax f) - fPrec f + 1))) = exW f b e s) ∧
    (1 - fEMax f ≤ topE e s → mkOk f (topE e s + fEMax f) (wShl (shSig e s) (shExp e s - (max (topE e s) (1 - fEMax f) - fPrec f + 1)) - wPower (fPrec f - 1)) = true ∧ mkW f b (topE e s + fEMax f) (wShl (shSig e s) (shExp e s - (max (topE e s) (1 - fEMax f) - fPrec f + 1)) - wPower (fPrec f - 1)) = exW f b e s) := by
  obtain ⟨v1, v2, v3⟩ := sh_val ho
  obtain ⟨p1, p2, p3, p4, p5⟩ := sh_parts ho
  have hrg := (topOk_iff e s).1 ho
  have hre : rgtE e = true := decide_eq_true hrg.1
  have hi := inf_pos hf
  have hp := p_rng f hf
  have he := e_rng f hf
  obtain ⟨f1, f2, f3⟩ := fmt_sizes hf
  have hbs := bitN_wide (shSig e s)
  generalize hlow : max (topE e s) (1 - fEMax f) - fPrec f + 1 = low at *
  have hbk := bitN_mul (shSig e s).toNat (shExp e s - low).toNat v1
  have hlen : bitN ((shSig e s).toNat * 2 ^ (shExp e s - low).toNat) ≤ (fPrec f).toNat := by rw [hbk]; omega
  have hlt : (shSig e s).toNat * 2 ^ (shExp e s - low).toNat < 2 ^ (fPrec f).toNat := bitN_le.1 hlen
  have hpow : 2 ^ (fPrec f).toNat ≤ 2 ^ 511 := Nat.pow_le_pow_right (by decide) (by omega)
  have hsh : (wShl (shSig e s) (shExp e s - low)).toNat = (shSig e s).toNat * 2 ^ (shExp e s - low).toNat := shl_small (by omega) (by rw [show (2 : Nat) ^ 512 = 2 ^ 511 * 2 from by rw [← Nat.pow_succ]]; omega)
  generalize wShl (shSig e s) (shExp e s - low) = g at *
  have hval : ∀ m, magV f m = g.toNat * 2 ^ (low - expO f).toNat → m < infN f → exOk f e s = true ∧ exW f b e s = fWordOf f b m := by
    intro m hV hm
    refine ex_word hf hre hm ?_ b
    unfold wM
    rw [(size_of hf hm false (a := s.toNat) (e := e) (k := min (expO f) e) (by omega) (by omega)).1, hV, hsh]
    have hlo : expO f ≤ low := by unfold expO; omega
    rw [Nat.mul_assoc, Nat.mul_assoc, ← Nat.pow_add, ← Nat.pow_add]
    conv => rhs; rw [v2]
    rw [Nat.mul_assoc, ← Nat.pow_add]
    congr 2
    omega
  by_cases hT : topE e s < 1 - fEMax f
  · have hsm : g.toNat < 2 ^ (fPrec f - 1).toNat := by rw [hsh]; exact bitN_le.1 (by rw [hbk]; omega)
    have hle : low = expO f := by unfold expO; omega
    have hm : g.toNat < infN f := by
      unfold infN
      have hF : 2 ≤ 2 ^ (fField f).toNat := by rcases f_cases hf with rfl | rfl | rfl | rfl <;> decide
      have := Nat.mul_le_mul_right (2 ^ (fPrec f - 1).toNat) (show 1 ≤ 2 ^ (fField f).toNat - 1 by omega)
      omega
    obtain ⟨r1, r2⟩ := hval g.toNat (by unfold magV; rw [if_pos (Nat.div_eq_of_lt hsm), hle]; simp) hm
    refine ⟨r1, fun _ => ?_, fun h => by omega⟩
    have hmk : mkOk f 0 g = true := by
      rw [mkOk_iff (by unfold fOk; exact decide_eq_true hf)]
      refine ⟨⟨by omega, by omega⟩, ?_⟩
      rw [show wLen g = ((bitN g.toNat : Nat) : Int) from (bitN_wLen g).symm]
      have := bitN_le.2 hsm
      omega
    refine ⟨hmk, ?_⟩
    rw [r2]
    unfold mkW
    rw [hmk, cond_true]
    simp
  · have hT : 1 - fEMax f ≤ topE e s := by omega
    have hbl : bitN g.toNat = (fPrec f).toNat := by rw [hsh, hbk]; omega
    have hlo := ((bitN_iff (by omega)).1 hbl).1
    rw [show (fPrec f).toNat - 1 = (fPrec f - 1).toNat by omega] at hlo
    rw [← hsh] at hlt
    have e3 : 2 ^ (fPrec f).toNat = 2 ^ (fPrec f - 1).toNat + 2 ^ (fPrec f - 1).toNat := by
      rw [show (fPrec f).toNat = (fPrec f - 1).toNat + 1 by omega, Nat.pow_succ]; omega
    have ew := power_toNat (n := fPrec f - 1) ⟨by omega, by omega⟩
    have hsub : (g - wPower (fPrec f - 1)).toNat = g.toNat - 2 ^ (fPrec f - 1).toNat := by
      rw [BitVec.toNat_sub_of_le (by rw [BitVec.le_def, ew]; exact hlo), ew]
    have hP := Nat.two_pow_pos (fPrec f - 1).toNat
    generalize hPP : 2 ^ (fPrec f - 1).toNat = P at *
    have hd1 : ((topE e s + fEMax f).toNat * P + (g.toNat - P)) / P = (topE e s + fEMax f).toNat := by
      rw [Nat.mul_comm, Nat.mul_add_div hP, Nat.div_eq_of_lt (by omega), Nat.add_zero]
    have hd2 : ((topE e s + fEMax f).toNat * P + (g.toNat - P)) % P = g.toNat - P := by
      rw [Nat.mul_comm, Nat.mul_add_mod, Nat.mod_eq_of_lt (by omega)]
    have hm : (topE e s + fEMax f).toNat * P + (g.toNat - P) < infN f := by
      unfold infN
      rw [hPP]
      have := Nat.mul_le_mul_right P (show (topE e s + fEMax f).toNat + 1 ≤ 2 ^ (fField f).toNat - 1 by omega)
      rw [Nat.add_mul, Nat.one_mul] at this
      omega
    obtain ⟨r1, r2⟩ := hval ((topE e s + fEMax f).toNat * P + (g.toNat - P)) (by
      unfold magV
      rw [hPP, hd1, hd2, if_neg (by omega), show P + (g.toNat - P) = g.toNat by omega]
      congr 2
      unfold expO
      omega) hm
    refine ⟨r1, fun h => by omega, fun _ => ?_⟩
    have hmk : mkOk f (topE e s + fEMax f) (g - wPower (fPrec f - 1)) = true := by
      rw [mkOk_iff (by unfold fOk; exact decide_eq_true hf)]
      refine ⟨⟨by omega, by omega⟩, ?_⟩
      rw [show wLen (g - wPower (fPrec f - 1)) = ((bitN (g - wPower (fPrec f - 1)).toNat : Nat) : Int) from (bitN_wLen _).symm, hsub]
      have := bitN_le (n := g.toNat - P) (k := (fPrec f - 1).toNat).2 (by rw [hPP]; omega)
      omega
    refine ⟨hmk, ?_⟩
    rw [r2]
    unfold mkW
    rw [hmk, cond_true, hsub, hPP]
set_option exponentiation.threshold 600 in
theorem ex_zero {f e : Int} (hf : 1 ≤ f ∧ f ≤ 4) (he : rgtE e = true) (b : Bool) : exOk f e 0 = true ∧ exW f b e 0 = fWordOf f b 0 := by
  have hi := inf_pos hf
  refine ex_word hf he (show 0 < infN f by omega) ?_ b
  unfold wM
  rw [(size_of hf (show 0 < infN f by omega) false (a := (0 : W).toNat) (e := e) (k := min (expO f) e) (by omega) (by omega)).1, magV_zero]
  simp
end Go.LE
namespace Go.LE
open Go
/-! ## numbers against each other, as they are unpacked -/
theorem sgI_rng (x : Int) : -1 ≤ sgI x ∧ sgI x ≤ 1 := by unfold sgI; split <;> (try split) <;> omega
theorem sgI_neg (x : Int) : sgI (-x) = -sgI x := by unfold sgI; split <;> (try split) <;> (try split) <;> (try split) <;> omega
def zo (s : W) : Int := if s = 0 then 0 else 1
theorem size_zero {a b : W} {e g : Int} (h : a = 0 ∨ b = 0) : sgI (sizeN a.toNat e b.toNat g) = sgI (zo a - zo b) := by
  rw [w_zero, w_zero] at h
  unfold sizeN zo
  simp only [w_zero]
  rw [if_pos h]
theorem size_top {a b : W} {e g : Int} (ha : topOk e a = true) (hb : topOk g b = true) (h : topE e a ≠ topE g b) : sgI (sizeN a.toNat e b.toNat g) = sgI (topE e a - topE g b) := by
  have h1 := ((topOk_iff e a).1 ha).2
  have h2 := ((topOk_iff g b).1 hb).2
  rw [Ne, w_zero] at h1 h2
  unfold topE at h ⊢
  rw [ha, hb, cond_true, cond_true, show wLen a = ((bitN a.toNat : Nat) : Int) from (bitN_wLen a).symm, show wLen b = ((bitN b.toNat : Nat) : Int) from (bitN_wLen b).symm] at h ⊢
  unfold sizeN
  rw [if_neg (by omega), if_pos (by omega)]
  congr 1
  omega
set_option exponentiation.threshold 600 in
theorem shl_top (a : W) : (wShl a (512 - wLen a)).toNat = a.toNat * 2 ^ (512 - wLen a).toNat := by
  have hl : wLen a = ((bitN a.toNat : Nat) : Int) := (bitN_wLen a).symm
  have hb := bitN_wide a
  refine shl_small (by omega) ?_
  have h1 : a.toNat < 2 ^ bitN a.toNat := bitN_le.1 (Nat.le_refl _)
  have h2 : (2 : Nat) ^ 512 = 2 ^ bitN a.toNat * 2 ^ (512 - wLen a).toNat := by rw [← Nat.pow_add]; congr 1; omega
  rw [h2]
  exact Nat.mul_lt_mul_of_pos_right h1 (Nat.two_pow_pos _)
theorem size_same {a b : W} {e g : Int} (ha : topOk e a = true) (hb : topOk g b = true) (h : topE e a = topE g b) : sgI (sizeN a.toNat e b.toNat g) = wCmp (wShl a (512 - wLen a)) (wShl b (512 - wLen b)) := by
  have h1 := shl_top a
  have h2 := shl_top b
  have la : wLen a = ((bitN a.toNat : Nat) : Int) := (bitN_wLen a).symm
  have lb : wLen b = ((bitN b.toNat : Nat) : Int) := (bitN_wLen b).symm
  have ba := bitN_wide a
  have bb := bitN_wide b
  have ta : topE e a = e + wLen a - 1 := by unfold topE; rw [ha]; rfl
  have tb : topE g b = g + wLen b - 1 := by unfold topE; rw [hb]; rfl
  obtain ⟨s1, s2⟩ := sizeN_at (a := a.toNat) (b := b.toNat) (e := e) (g := g) (k := e + wLen a - 512) (by omega) (by omega)
  rw [show e - (e + wLen a - 512) = 512 - wLen a by omega, show g - (e + wLen a - 512) = 512 - wLen b by omega, ← h1, ← h2] at s1 s2
  unfold wCmp sgI
  have he : (wShl a (512 - wLen a) = wShl b (512 - wLen b)) = ((wShl a (512 - wLen a)).toNat = (wShl b (512 - wLen b)).toNat) := by
    rw [BitVec.toNat_inj]
  simp only [he]
  generalize (wShl a (512 - wLen a)).toNat = x at *
  generalize (wShl b (512 - wLen b)).toNat = y at *
  generalize sizeN a.toNat e b.toNat g = z at *
  split <;> split <;> (try split) <;> (try split) <;> omega
def rR (e : Int) : Bool := rgtE e
def ucmp (b : Bool) (e : Int) (s : W) (c : Bool) (g : Int) (t : W) : Int := bif rgtE e && rgtE g then cmp7 b s.toNat e c t.toNat g else 0
def usame (b : Bool) (e : Int) (s : W) (c : Bool) (g : Int) (t : W) : Bool := rgtE e && rgtE g && (b == c) && decide (shExp e s = shExp g t) && decide (shSig e s = shSig g t)
theorem sgN_w (b : Bool) (s : W) : sgN b s.toNat = if s = 0 then 0 else bif b then -1 else 1 := by
  unfold sgN; simp only [w_zero]
theorem cmp7_sg (b : Bool) (s : Nat) (e : Int) (c : Bool) (t : Nat) (g : Int) : cmp7 b s e c t g = if sgN b s ≠ sgN c t then sgI (sgN b s - sgN c t) else sgN b s * sgI (sizeN s e t g) := by
  have h1 := sgN_rng b s
  unfold cmp7
  split
  · have h2 := sgN_rng c t
    unfold sgI
    split <;> split <;> (try split) <;> omega
  · have : sgN b s = -1 ∨ sgN b s = 0 ∨ sgN b s = 1 := by omega
    unfold sgI
    rcases this with h | h | h <;> rw [h] <;> split <;> (try split) <;> omega
theorem size_swap (a : Nat) (e : Int) (b : Nat) (g : Int) : sgI (sizeN a e b g) = -sgI (sizeN b g a e) := by
  obtain ⟨s1, s2⟩ := sizeN_at (a := a) (b := b) (e := e) (g := g) (k := min e g) (by omega) (by omega)
  obtain ⟨t1, t2⟩ := sizeN_at (a := b) (b := a) (e := g) (g := e) (k := min e g) (by omega) (by omega)
  unfold sgI
  generalize sizeN a e b g = x at *
  generalize sizeN b g a e = y at *
  split <;> split <;> (try split) <;> (try split) <;> omega
theorem cmp7_swap (b : Bool) (s : Nat) (e : Int) (c : Bool) (t : Nat) (g : Int) : cmp7 c t g b s e = -cmp7 b s e c t g := by
  rw [cmp7_sg, cmp7_sg]
  by_cases h : sgN b s = sgN c t
  · rw [if_neg (by omega), if_neg (by omega), size_swap s e t g, h, Int.mul_neg, Int.neg_neg]
  · rw [if_pos (by omega), if_pos (by omega), ← sgI_neg]
    congr 1; omega
theorem cmp7_self (b : Bool) (s : Nat) (e : Int) : cmp7 b s e b s e = 0 := by
  have := cmp7_swap b s e b s e
  omega
theorem ucmp_swap (b : Bool) (e : Int) (s : W) (c : Bool) (g : Int) (t : W) : ucmp c g t b e s = -ucmp b e s c g t := by
  unfold ucmp
  rw [Bool.and_comm, cmp7_swap]
  cases rgtE e && rgtE g <;> rfl
set_option exponentiation.threshold 600 in
theorem usame_iff {b c : Bool} {e g : Int} {s t : W} (he : rgtE e = true) (hg : rgtE g = true) : usame b e s c g t = (decide (cmp7 b s.toNat e c t.toNat g = 0) && (b == c)) := by
  unfold usame
  rw [he, hg, Bool.true_and, Bool.true_and]
  by_cases hbc : b = c
  · subst hbc
    rw [beq_self_eq_true, Bool.true_and, Bool.and_true]
    by_cases hs : s = 0
    · by_cases ht : t = 0
      · subst hs ht
        rw [cmp7_sg]
        have e1 : shExp e 0 = 0 := by unfold shExp topOk; simp
        have e2 : shExp g 0 = 0 := by unfold shExp topOk; simp
        have e3 : shSig e 0 = 0 := by unfold shSig topOk; simp
        have e4 : shSig g 0 = 0 := by unfold shSig topOk; simp
        rw [e1, e2, e3, e4]
        simp [sgN]
      · have ho : topOk g t = true := (topOk_iff g t).2 ⟨by simpa [rgtE] using hg, ht⟩
        have e3 : shSig e s = 0 := by unfold shSig topOk; simp [hs]
        have hv := (sh_val ho).1
        rw [e3]
        have hne : ¬ (0 : W) = shSig g t := fun h => hv (by rw [← w_zero]; exact h.symm)
        rw [decide_eq_false hne, Bool.and_false]
        refine (decide_eq_false ?_).symm
        rw [cmp7_sg, sgN_w, sgN_w, if_pos hs, if_neg ht]
        cases b <;> simp [sgI]
    · have ho : topOk e s = true := (topOk_iff e s).2 ⟨by simpa [rgtE] using he, hs⟩
      obtain ⟨v1, v2, v3⟩ := sh_val ho
      by_cases ht : t = 0
      · have e3 : shSig g t = 0 := by unfold shSig topOk; simp [ht]
        rw [e3]
        have hne : ¬ shSig e s = (0 : W) := fun h => v1 (by rw [← w_zero]; exact h)
        rw [decide_eq_false hne, Bool.and_false]
        refine (decide_eq_false ?_).symm
        rw [cmp7_sg, sgN_w, sgN_w, if_pos ht, if_neg hs]
        cases b <;> simp [sgI]
      · have ho2 : topOk g t = true := (topOk_iff g t).2 ⟨by simpa [rgtE] using hg, ht⟩
        obtain ⟨u1, u2, u3⟩ := sh_val ho2
        obtain ⟨p1, p2, p3, p4, p5⟩ := sh_parts ho
        obtain ⟨q1, q2, q3, q4, q5⟩ := sh_parts ho2
        have hz := (sizeN_at (a := s.toNat) (b := t.toNat) (e := e) (g := g) (k := min e g) (by omega) (by omega)).1
        have hsg : cmp7 b s.toNat e b t.toNat g = 0 ↔ sizeN s.toNat e t.toNat g = 0 := by
          rw [cmp7_sg, sgN_w, sgN_w, if_neg hs, if_neg ht]
          unfold sgI
          cases b <;> simp only [cond_true, cond_false] <;> split <;> (try split) <;> (try split) <;> omega
        have key : (shExp e s = shExp g t ∧ shSig e s = shSig g t) ↔ s.toNat * 2 ^ (e - min e g).toNat = t.toNat * 2 ^ (g - min e g).toNat := by
          constructor
          · rintro ⟨h1, h2⟩
            rw [v2, u2, h2, Nat.mul_assoc, Nat.mul_assoc, ← Nat.pow_add, ← Nat.pow_add]
            congr 2
            omega
          · intro h
            rw [v2, u2, Nat.mul_assoc, Nat.mul_assoc, ← Nat.pow_add, ← Nat.pow_add] at h
            have odd : ∀ (x y m n : Nat), x % 2 = 1 → y % 2 = 1 → x * 2 ^ m = y * 2 ^ n → m = n ∧ x = y := by
              intro x y m n hx hy hxy
              have one : ∀ (x y m n : Nat), x % 2 = 1 → x * 2 ^ m = y * 2 ^ n → n ≤ m := by
                intro x y m n hx hxy
                by_cases hmn : n ≤ m
                · exact hmn
                · exfalso
                  obtain ⟨k, rfl⟩ : ∃ k, n = m + (k + 1) := ⟨n - m - 1, by omega⟩
                  rw [Nat.add_comm m, Nat.pow_add, ← Nat.mul_assoc] at hxy
                  have := Nat.eq_of_mul_eq_mul_right (Nat.two_pow_pos m) hxy
                  rw [this, Nat.pow_succ, ← Nat.mul_assoc] at hx
                  omega
              have h1 := one x y m n hx hxy
              have h2 := one y x n m hy hxy.symm
              have : m = n := by omega
              subst this
              exact ⟨rfl, Nat.eq_of_mul_eq_mul_right (Nat.two_pow_pos m) hxy⟩
            obtain ⟨h1, h2⟩ := odd _ _ _ _ p3 q3 h
            refine ⟨by omega, BitVec.eq_of_toNat_eq h2⟩
        rw [← Bool.decide_and, decide_eq_decide, hsg, hz]
        exact key
  · have : (b == c) = false := by cases b <;> cases c <;> simp at hbc ⊢
    rw [this]
    simp
/-- a number out of its limbs -/
theorem less8 {a0 a1 a2 a3 a4 a5 a6 a7 b0 b1 b2 b3 b4 b5 b6 b7 : Int} (x0 : 0 ≤ a0 ∧ a0 < 18446744073709551616) (x1 : 0 ≤ a1 ∧ a1 < 18446744073709551616) (x2 : 0 ≤ a2 ∧ a2 < 18446744073709551616) (x3 : 0 ≤ a3 ∧ a3 < 18446744073709551616) (x4 : 0 ≤ a4 ∧ a4 < 18446744073709551616) (x5 : 0 ≤ a5 ∧ a5 < 18446744073709551616) (x6 : 0 ≤ a6 ∧ a6 < 18446744073709551616) (x7 : 0 ≤ a7 ∧ a7 < 18446744073709551616)
    (y0 : 0 ≤ b0 ∧ b0 < 18446744073709551616) (y1 : 0 ≤ b1 ∧ b1 < 18446744073709551616) (y2 : 0 ≤ b2 ∧ b2 < 18446744073709551616) (y3 : 0 ≤ b3 ∧ b3 < 18446744073709551616) (y4 : 0 ≤ b4 ∧ b4 < 18446744073709551616) (y5 : 0 ≤ b5 ∧ b5 < 18446744073709551616) (y6 : 0 ≤ b6 ∧ b6 < 18446744073709551616) (y7 : 0 ≤ b7 ∧ b7 < 18446744073709551616) :
    decide ((ofLimbsR a0 a1 a2 a3 a4 a5 a6 a7).toNat < (ofLimbsR b0 b1 b2 b3 b4 b5 b6 b7).toNat) =
      if a7 ≠ b7 then cmpR .lss a7 b7 else if a6 ≠ b6 then cmpR .lss a6 b6 else if a5 ≠ b5 then cmpR .lss a5 b5 else if a4 ≠ b4 then cmpR .lss a4 b4 else if a3 ≠ b3 then cmpR .lss a3 b3 else if a2 ≠ b2 then cmpR .lss a2 b2 else if a1 ≠ b1 then cmpR .lss a1 b1 else if a0 ≠ b0 then cmpR .lss a0 b0 else false := by
  have h1 := ofLimbs_toNat x0 x1 x2 x3 x4 x5 x6 x7
  have h2 := ofLimbs_toNat y0 y1 y2 y3 y4 y5 y6 y7
  have cl : ∀ x y : Int, cmpR .lss x y = decide (x < y) := fun x y => by
    cases h : cmpR .lss x y with
    | true => rw [c_lss_t] at h; exact (decide_eq_true h).symm
    | false => rw [c_lss_f] at h; exact (decide_eq_false (by omega)).symm
  simp only [cl]
  generalize (ofLimbsR a0 a1 a2 a3 a4 a5 a6 a7).toNat = A at *
  generalize (ofLimbsR b0 b1 b2 b3 b4 b5 b6 b7).toNat = B at *
  repeat' split
  all_goals (first | (rw [decide_eq_decide]; omega) | (refine decide_eq_false ?_; omega))
end Go.LE
namespace Go.LE
open Go
/-! ## the search, as it goes -/
theorem wM_nat {f : Int} (hf : 1 ≤ f ∧ f ≤ 4) {m : Nat} (hm : m < halfN f) : (wM f m).toNat = m := by
  unfold wM; rw [wOf_nat hf hm]; simp
theorem wM_bits {f : Int} (hf : 1 ≤ f ∧ f ≤ 4) {m : Nat} (hm : m < halfN f) : BitVec.ofNat 128 m = wM f m := by
  unfold wM; rw [wOf_bits hf hm]; simp
def fndP (f : Int) (a : Nat) (e : Int) (m : Nat) (w : BitVec 128) (i : Int) : Prop :=
  w = wM f m ∧ -1 ≤ i ∧ i ≤ fBits f - 2 ∧ m + 2 ^ (i + 1).toNat ≤ halfN f ∧ m % 2 ^ (i + 1).toNat = 0 ∧ greedy (leM f a e) (i + 1).toNat m = findM f a e
theorem fndP_zero {f : Int} (hf : 1 ≤ f ∧ f ≤ 4) (a : Nat) (e : Int) : fndP f a e 0 (mkWordR 0 0) (fBits f - 2) := by
  have hb := b_len f hf
  have hp := halfN_pos f
  refine ⟨?_, by omega, Int.le_refl _, ?_, Nat.zero_mod _, ?_⟩
  · rw [mkWord_0]
    unfold wM
    rw [wOf_bits hf hp]
    simp
  · unfold halfN
    rw [show (fBits f - 2 + 1).toNat = (fBits f - 1).toNat by omega]; omega
  · unfold findM
    rw [show (fBits f - 2 + 1).toNat = (fBits f - 1).toNat by omega]
theorem fndP_two {f : Int} {a : Nat} {e : Int} {m : Nat} {w : BitVec 128} {i : Int} (h : fndP f a e m w i) (hi : 0 ≤ i) :
    m + 2 ^ i.toNat + 2 ^ i.toNat ≤ halfN f ∧ m / 2 ^ i.toNat % 2 = 0 ∧ m % 2 ^ i.toNat = 0 ∧ 0 < 2 ^ i.toNat := by
  obtain ⟨_, _, _, h1, h2, _⟩ := h
  have hp := Nat.two_pow_pos i.toNat
  rw [show (i + 1).toNat = i.toNat + 1 by omega, Nat.pow_succ] at h1 h2
  refine ⟨by omega, ?_, ?_, hp⟩
  · rw [← Nat.mod_mul_right_div_self, h2, Nat.zero_div]
  · have := Nat.mod_mul_left_mod m 2 (2 ^ i.toNat)
    rw [Nat.mul_comm 2] at this
    rw [← this, h2, Nat.zero_mod]
theorem fndP_hi {f : Int} (hf : 1 ≤ f ∧ f ≤ 4) {a : Nat} {e : Int} {m : Nat} {w : BitVec 128} {i : Int} (h : fndP f a e m w i) (hi : 64 ≤ i) :
    mkWordR (arithR .add .u64 (hiR w) (arithR .shl .u64 1 (arithR .sub .i64 i 64))) (loR w) = wM f (m + 2 ^ i.toNat) := by
  obtain ⟨h1, h2, h3, h4⟩ := fndP_two h (by omega)
  have hb := b_len f hf
  have hi2 := h.2.2.1
  have hw := h.1
  have hn : w.toNat = m := by rw [hw, wM_nat hf (by omega)]
  rw [sub_i64 (by omega) (by omega), hi_add w (j := i - 64) ⟨by omega, by omega⟩ (by rw [hn, show (64 + (i - 64)).toNat = i.toNat by omega]; exact h2), hn, show (64 + (i - 64)).toNat = i.toNat by omega]
  exact wM_bits hf (by omega)
theorem fndP_lo {f : Int} (hf : 1 ≤ f ∧ f ≤ 4) {a : Nat} {e : Int} {m : Nat} {w : BitVec 128} {i : Int} (h : fndP f a e m w i) (h0 : 0 ≤ i) (hi : i < 64) :
    mkWordR (hiR w) (arithR .add .u64 (loR w) (arithR .shl .u64 1 i)) = wM f (m + 2 ^ i.toNat) := by
  obtain ⟨h1, h2, h3, h4⟩ := fndP_two h (by omega)
  have hw := h.1
  have hn : w.toNat = m := by rw [hw, wM_nat hf (by omega)]
  rw [lo_add w (j := i) ⟨by omega, by omega⟩ (by rw [hn]; exact h2), hn]
  exact wM_bits hf (by omega)
theorem fndP_yes {f : Int} {a : Nat} {e : Int} {m : Nat} {w : BitVec 128} {i : Int} (h : fndP f a e m w i) (hi : 0 ≤ i) (h1 : leM f a e (m + 2 ^ i.toNat) = true) : fndP f a e (m + 2 ^ i.toNat) (wM f (m + 2 ^ i.toNat)) (i - 1) := by
  obtain ⟨g1, g2, g3, g4⟩ := fndP_two h hi
  obtain ⟨_, k1, k2, _, _, k3⟩ := h
  have e1 : (i - 1 + 1).toNat = i.toNat := by omega
  refine ⟨rfl, by omega, by omega, by rw [e1]; omega, by rw [e1, Nat.add_mod_right]; exact g3, ?_⟩
  rw [e1, ← k3, show (i + 1).toNat = i.toNat + 1 by omega]
  conv => rhs; unfold greedy
  rw [if_pos h1]
theorem fndP_no {f : Int} {a : Nat} {e : Int} {m : Nat} {w : BitVec 128} {i : Int} (h : fndP f a e m w i) (hi : 0 ≤ i) (h1 : leM f a e (m + 2 ^ i.toNat) = false) : fndP f a e m w (i - 1) := by
  obtain ⟨g1, g2, g3, g4⟩ := fndP_two h hi
  obtain ⟨k0, k1, k2, _, _, k3⟩ := h
  have e1 : (i - 1 + 1).toNat = i.toNat := by omega
  refine ⟨k0, by omega, by omega, by rw [e1]; omega, by rw [e1]; exact g3, ?_⟩
  rw [e1, ← k3, show (i + 1).toNat = i.toNat + 1 by omega]
  conv => rhs; unfold greedy
  rw [if_neg (by rw [h1]; simp)]
theorem fndP_end {f : Int} {a : Nat} {e : Int} {m : Nat} {w : BitVec 128} {i : Int} (h : fndP f a e m w i) (hi : i < 0) : w = wM f (findM f a e) := by
  obtain ⟨k0, k1, k2, _, _, k3⟩ := h
  have : i = -1 := by omega
  subst this
  rw [k0, ← k3]; rfl
theorem leM_dec {f : Int} {a : Nat} {e : Int} {m : Nat} : leM f a e m = (cmpR .geq (cls f (wM f m)) 4 && cmpR .leq (sizeN (vSig f (wM f m)).toNat (vExp f (wM f m)) a e) 0) := by
  unfold leM
  rw [geq_dec]
  congr 1
end Go.LE
namespace Go.LE
open Go
/-! ## a word is the word of its own number -/
theorem fin_mag {f : Int} {w : BitVec 128} (h : wFin f w = true) : (1 ≤ f ∧ f ≤ 4) ∧ magN f w < infN f ∧ wFin f (wM f (magN f w)) = true ∧ magN f (wM f (magN f w)) = magN f w := by
  obtain ⟨hF, hf⟩ := fin_fits h
  have hm := ((cls_mag hF).2.2.1).1 ((fin_iff f w).1 h)
  have hl := mag_lt f w
  refine ⟨hf, hm, (fin_iff _ _).2 ((fin_of hf hl).2 hm), ?_⟩
  unfold wM
  exact wOf_mag hf hl false
theorem ex_own {f : Int} {w : BitVec 128} (h : wFin f w = true) {e : Int} {s : W} (he : rgtE e = true) (hs : sizeN (vSig f w).toNat (vExp f w) s.toNat e = 0) : exOk f e s = true ∧ exW f (wNeg f w) e s = w := by
  obtain ⟨hf, hm, hfin, hmag⟩ := fin_mag h
  obtain ⟨g1, g2⟩ := vMag h
  have h1 := (sizeN_at (a := (vSig f w).toNat) (b := s.toNat) (e := vExp f w) (g := e) (k := min (expO f) e) (by omega) (by omega)).1.1 hs
  obtain ⟨r1, r2⟩ := ex_word hf he hm (s := s) (e := e) (by
    unfold wM
    rw [(size_of hf hm false (a := s.toNat) (e := e) (k := min (expO f) e) (by omega) (by omega)).1, ← g2, Nat.mul_assoc, ← Nat.pow_add, ← h1]
    congr 2
    omega) (wNeg f w)
  refine ⟨r1, ?_⟩
  rw [r2]
  exact (w_own (fin_fits h).1).symm
theorem v_own {f : Int} {w : BitVec 128} (h : wFin f w = true) : exOk f (vExp f w) (vSig f w) = true ∧ exW f (vNeg f w) (vExp f w) (vSig f w) = w := by
  have hr := vExp_rng h
  have := ex_own h (e := vExp f w) (s := vSig f w) (decide_eq_true (by omega)) ((size_words h h).1.2 rfl)
  rw [show vNeg f w = wNeg f w by unfold vNeg; rw [h]; rfl]
  exact this
theorem u_parts {f : Int} {w : BitVec 128} (h : uOk f w = true) : uSig f w = wShl (vSig f w) (fPrec f - wLen (vSig f w)) ∧ uExp f w = vExp f w - (fPrec f - wLen (vSig f w)) ∧ uNeg f w = vNeg f w := by
  unfold uSig uExp uNeg
  rw [h]
  exact ⟨rfl, rfl, rfl⟩
set_option exponentiation.threshold 600 in
theorem u_own {f : Int} {w : BitVec 128} (h : uOk f w = true) : wFin f w = true ∧ ((bitN (uSig f w).toNat : Nat) : Int) = fPrec f ∧ sizeN (vSig f w).toNat (vExp f w) (uSig f w).toNat (uExp f w) = 0 ∧ exOk f (uExp f w) (uSig f w) = true ∧ exW f (uNeg f w) (uExp f w) (uSig f w) = w ∧ -1048576 ≤ uExp f w ∧ uExp f w ≤ 1048576 := by
  obtain ⟨p1, p2, p3⟩ := u_parts h
  have hfin : wFin f w = true := by
    unfold uOk at h
    rw [Bool.and_eq_true] at h
    exact h.1
  have hne : (vSig f w).toNat ≠ 0 := by
    unfold uOk at h
    rw [Bool.and_eq_true, Bool.not_eq_true', decide_eq_false_iff_not, w_zero] at h
    exact h.2
  obtain ⟨hf, _⟩ := fin_mag hfin
  have hp := p_rng f hf
  have hr := vExp_rng hfin
  have hlt := vSig_lt hfin
  have hl : wLen (vSig f w) = ((bitN (vSig f w).toNat : Nat) : Int) := (bitN_wLen _).symm
  have hb : bitN (vSig f w).toNat ≤ (fPrec f).toNat := bitN_le.2 hlt
  have hmul := bitN_mul (vSig f w).toNat (fPrec f - wLen (vSig f w)).toNat hne
  have hs : (uSig f w).toNat = (vSig f w).toNat * 2 ^ (fPrec f - wLen (vSig f w)).toNat := by
    rw [p1]
    refine shl_small (by omega) ?_
    refine Nat.lt_of_lt_of_le (bitN_le.1 (Nat.le_refl _)) (Nat.pow_le_pow_right (by decide) ?_)
    rw [hmul]
    omega
  have hsz : sizeN (vSig f w).toNat (vExp f w) (uSig f w).toNat (uExp f w) = 0 := by
    rw [(sizeN_at (k := min (vExp f w) (uExp f w)) (by omega) (by omega)).1, hs, Nat.mul_assoc, ← Nat.pow_add]
    congr 2
    omega
  have ho := ex_own hfin (e := uExp f w) (s := uSig f w) (decide_eq_true (by omega)) hsz
  refine ⟨hfin, ?_, hsz, ho.1, ?_, by omega, by omega⟩
  · skip
    rw [hs, hmul]
    omega
  · rw [p3, show vNeg f w = wNeg f w by unfold vNeg; rw [hfin]; rfl]
    exact ho.2
theorem u_zero {f : Int} {w : BitVec 128} (h : uOk f w = false) : uNeg f w = false ∧ uExp f w = 0 ∧ uSig f w = 0 := by
  unfold uNeg uExp uSig
  rw [h]
  exact ⟨rfl, rfl, rfl⟩
theorem u_six {f : Int} {w : BitVec 128} (h : wFin f w = true) : uOk f w = !decide (cls f w = 6) := by
  unfold uOk
  rw [h, Bool.true_and]
  have : (vSig f w = 0) = (cls f w = 6) := propext (vSig_zero h)
  simp only [this]
theorem max_if (x y : Int) : (if y > x then y else x) = max x y := by split <;> omega
end Go.LE
namespace Go.LE
open Go
theorem ucmp_rng (b : Bool) (e : Int) (s : W) (c : Bool) (g : Int) (t : W) : -1 ≤ ucmp b e s c g t ∧ ucmp b e s c g t ≤ 1 := by
  unfold ucmp
  cases rgtE e && rgtE g
  · simp
  · rw [cond_true, cmp7_sg]
    have h1 := sgN_rng b s.toNat
    have h2 := sgI_rng (sizeN s.toNat e t.toNat g)
    split
    · exact sgI_rng _
    · have : sgN b s.toNat = -1 ∨ sgN b s.toNat = 0 ∨ sgN b s.toNat = 1 := by omega
      rcases this with h | h | h <;> rw [h] <;> omega
theorem neg_i64 {x : Int} (h : -9223372036854775807 ≤ x ∧ x ≤ 9223372036854775807) : unR .neg .i64 x = -x := wrap_i64_of (by omega) (by omega)
theorem topOk_rgt {e : Int} (s : W) (h : rgtE e = true) : topOk e s = !decide (s = 0) := by unfold topOk; rw [h]; rfl
/-! ## words without their signs -/
theorem abs_wM {f : Int} {w : BitVec 128} (h : fFits f w = true) : sgn f w false = wM f (magN f w) := by
  unfold wM
  rfl
theorem cls_wM {f : Int} {w : BitVec 128} (h : wFin f w = true) : wFin f (sgn f w false) = true ∧ sval f (sgn f w false) = (magN f w : Int) ∧ (sgn f w false).toNat = magN f w := by
  obtain ⟨hf, hm, hfin, hmag⟩ := fin_mag h
  have hF := (fin_fits h).1
  have hl := mag_lt f w
  rw [abs_wM hF]
  refine ⟨hfin, ?_, wM_nat hf hl⟩
  unfold wM
  rw [sval_of hf hl]
  rfl
theorem ucmp_words {f : Int} {a b : BitVec 128} (ha : wFin f a = true) (hb : wFin f b = true) : ucmp (vNeg f a) (vExp f a) (vSig f a) (vNeg f b) (vExp f b) (vSig f b) = sgI (sval f a - sval f b) := by
  have h1 := vExp_rng ha
  have h2 := vExp_rng hb
  unfold ucmp rgtE
  rw [decide_eq_true (by omega), decide_eq_true (by omega)]
  exact cmp_words ha hb
theorem lss_dec (x y : Int) : cmpR .lss x y = decide (x < y) := by
  cases h : cmpR .lss x y with
  | true => rw [c_lss_t] at h; exact (decide_eq_true h).symm
  | false => rw [c_lss_f] at h; exact (decide_eq_false (by omega)).symm
theorem hi_lo (w : BitVec 128) : (0 ≤ loR w ∧ loR w < 18446744073709551616) ∧ 0 ≤ hiR w ∧ (w.toNat : Int) = loR w + 18446744073709551616 * hiR w := by
  have e1 : loR w = ((w.toNat % 2 ^ 64 : Nat) : Int) := rfl
  have e2 : hiR w = ((w.toNat / 2 ^ 64 : Nat) : Int) := rfl
  rw [e1, e2]
  omega
theorem sgI_lss (x : Int) : cmpR .lss (sgI x) 0 = decide (x < 0) := by
  rw [lss_dec]
  congr 1
  unfold sgI
  apply propext
  constructor <;> intro h <;> split at * <;> (try split at *) <;> omega
theorem sgI_eql (x : Int) : cmpR .eql (sgI x) 0 = decide (x = 0) := by
  rw [eql_dec]
  congr 1
  unfold sgI
  apply propext
  constructor <;> intro h <;> split at * <;> (try split at *) <;> omega
end Go.LE
namespace Go.LE
open Go
/-! ## places and steps -/
def plI (f : Int) (w : BitVec 128) : Int := bif wNeg f w then -((magN f w : Nat) : Int) - 1 else ((magN f w : Nat) : Int)
def plW (f : Int) (w : BitVec 128) : W := bif fFits f w then BitVec.ofNat 512 (bif wNeg f w then magN f w + 1 else magN f w) else 0
def osg (a : W) (neg : Bool) (b : W) (less : Bool) : Int := if neg = true ∧ less = false then -1 else if less = true ∧ neg = false then 1 else if neg = true then wCmp b a else wCmp a b
def totI (f : Int) (a b : BitVec 128) : Int := bif fFits f a && fFits f b then sgI (plI f a - plI f b) else 0
def kn2 (f : Int) (a b : BitVec 128) : Bool := decide (3 ≤ cls f a) && decide (3 ≤ cls f b)
def cmpO (f : Int) (a b : BitVec 128) : Int := bif kn2 f a b then c28 f a b else 0
def stepN (f : Int) (a b : BitVec 128) : Nat := (sval f a - sval f b).natAbs
def stepW (f : Int) (a b : BitVec 128) : W := bif kn2 f a b then BitVec.ofNat 512 (stepN f a b) else 0
def minO (f : Int) (a b : BitVec 128) : BitVec 128 := bif kn2 f a b then (if plI f a < plI f b then a else b) else 0
def maxO (f : Int) (a b : BitVec 128) : BitVec 128 := bif kn2 f a b then (if plI f b < plI f a then a else b) else 0
set_option exponentiation.threshold 600 in
theorem wCmp_nat {m n : Nat} (hm : m < 2 ^ 512) (hn : n < 2 ^ 512) : wCmp (BitVec.ofNat 512 m) (BitVec.ofNat 512 n) = sgI ((m : Int) - (n : Int)) := by
  unfold wCmp sgI
  have e1 : (BitVec.ofNat 512 m).toNat = m := by rw [BitVec.toNat_ofNat, Nat.mod_eq_of_lt hm]
  have e2 : (BitVec.ofNat 512 n).toNat = n := by rw [BitVec.toNat_ofNat, Nat.mod_eq_of_lt hn]
  have e3 : (BitVec.ofNat 512 m = BitVec.ofNat 512 n) = (m = n) := by rw [← BitVec.toNat_inj, e1, e2]
  simp only [e1, e2, e3]
  split <;> (try split) <;> (try split) <;> (try split) <;> omega
set_option exponentiation.threshold 600 in
theorem half_512 {f : Int} (hf : 1 ≤ f ∧ f ≤ 4) {n : Nat} (h : n ≤ 2 * halfN f) : n < 2 ^ 512 := by
  have := half_le hf
  have e : (2 : Nat) ^ 512 = 2 ^ 127 * 2 ^ 385 := by rw [← Nat.pow_add]
  have e2 : (2 : Nat) ≤ 2 ^ 385 := Nat.le_trans (show 2 ≤ 2 ^ 1 by decide) (Nat.pow_le_pow_right (by decide) (by decide))
  have e3 := Nat.mul_le_mul_left (2 ^ 127) e2
  have e4 : 2 ^ 127 * 2 < 2 ^ 127 * 2 ^ 385 := Nat.mul_lt_mul_of_pos_left (Nat.lt_of_lt_of_le (show 2 < 2 ^ 2 by decide) (Nat.pow_le_pow_right (by decide) (by decide))) (Nat.two_pow_pos _)
  omega
theorem plI_pl {f : Int} {w : BitVec 128} (h : fFits f w = true) : ((plN f w : Nat) : Int) = halfN f + plI f w := by
  obtain ⟨hf, _⟩ := fits_lt h
  have hm := mag_lt f w
  have hp : plN f w = plN f (fWordOf f (wNeg f w) (magN f w)) := by rw [← w_own h]
  rw [hp, pl_of hf hm]
  unfold plI
  cases wNeg f w <;> simp only [cond_true, cond_false] <;> omega
theorem wd_pl {f : Int} {w : BitVec 128} (h : fFits f w = true) : wdN f (plN f w) = w := by
  obtain ⟨hf, _⟩ := fits_lt h
  have hm := mag_lt f w
  have hp : plN f w = plN f (fWordOf f (wNeg f w) (magN f w)) := by rw [← w_own h]
  have hw := w_own h
  rw [hp, pl_of hf hm]
  cases hn : wNeg f w
  · rw [hn] at hw; rw [cond_false, wd_pos hf hm]; exact hw.symm
  · rw [hn] at hw; rw [cond_true, wd_neg hf hm]; exact hw.symm
theorem osg_pl {f : Int} {a b : BitVec 128} (ha : fFits f a = true) (hb : fFits f b = true) : osg (plW f a) (wNeg f a) (plW f b) (wNeg f b) = sgI (plI f a - plI f b) := by
  obtain ⟨hf, _⟩ := fits_lt ha
  have ma := mag_lt f a
  have mb := mag_lt f b
  have x1 := half_512 hf (n := magN f a) (by omega)
  have x2 := half_512 hf (n := magN f b) (by omega)
  have x3 := half_512 hf (n := magN f a + 1) (by omega)
  have x4 := half_512 hf (n := magN f b + 1) (by omega)
  unfold osg plW plI
  rw [ha, hb, cond_true, cond_true]
  cases wNeg f a <;> cases wNeg f b <;> simp only [cond_true, cond_false, Bool.false_eq_true, Bool.true_eq_false, if_true, if_false, and_true, true_and, and_false, false_and, and_self]
  · exact wCmp_nat x1 x2
  · unfold sgI; split <;> (try split) <;> omega
  · unfold sgI; split <;> (try split) <;> omega
  · rw [wCmp_nat x4 x3]; congr 1; omega
theorem osg_sv {f : Int} {a b : BitVec 128} (ha : fFits f a = true) (hb : fFits f b = true) : osg (BitVec.ofNat 512 (magN f a)) (wNeg f a && !decide (magN f a = 0)) (BitVec.ofNat 512 (magN f b)) (wNeg f b && !decide (magN f b = 0)) = c28 f a b := by
  obtain ⟨hf, _⟩ := fits_lt ha
  have ma := mag_lt f a
  have mb := mag_lt f b
  have x1 := half_512 hf (n := magN f a) (by omega)
  have x2 := half_512 hf (n := magN f b) (by omega)
  unfold osg c28 sval
  rw [wCmp_nat x1 x2, wCmp_nat x2 x1]
  cases wNeg f a <;> cases wNeg f b <;> by_cases z1 : magN f a = 0 <;> by_cases z2 : magN f b = 0 <;>
    simp only [z1, z2, decide_true, decide_false, Bool.not_true, Bool.not_false, Bool.and_true, Bool.and_false, Bool.true_and, Bool.false_and, cond_true, cond_false, Bool.false_eq_true, Bool.true_eq_false, if_true, if_false, and_true, true_and, and_false, false_and, and_self] <;>
    unfold sgI <;> (try split) <;> (try split) <;> (try split) <;> (try split) <;> omega
theorem kn2_iff {f : Int} {a b : BitVec 128} : kn2 f a b = true ↔ 3 ≤ cls f a ∧ 3 ≤ cls f b := by unfold kn2; simp
theorem onx_up {f : Int} {w : BitVec 128} (h : 3 ≤ cls f w) : onx f w true = w ∨ sval f (onx f w true) = sval f w + 1 := by
  obtain ⟨hF, hm⟩ := known_iff.1 h
  obtain ⟨hf, _⟩ := fits_lt hF
  have hi := inf_pos hf
  unfold onx
  rw [if_pos h]
  have sw : sval f w = bif wNeg f w then -((magN f w : Nat) : Int) else ((magN f w : Nat) : Int) := rfl
  split
  · rename_i h0
    refine .inr ?_
    rw [sval_of hf (by omega), sw, h0]
    cases wNeg f w <;> rfl
  · split
    · rename_i h0 hs
      refine .inr ?_
      rw [sval_of hf (by omega), sw, hs]
      simp only [cond_true]
      omega
    · split
      · exact .inl rfl
      · rename_i h0 hs hi2
        refine .inr ?_
        have hs : wNeg f w = false := by simpa using hs
        rw [sval_of hf (by omega), sw, hs]
        simp only [Bool.not_true, cond_false]
        omega
end Go.LE
namespace Go.LE
open Go
theorem cmpN_lss (a b : Nat) : cmpR .lss (cmpN a b) 0 = decide (a < b) := by
  rw [lss_dec]; congr 1; apply propext; unfold cmpN
  constructor <;> intro h <;> split at * <;> (try split at *) <;> omega
theorem cmpN_geq (a b : Nat) : cmpR .geq (cmpN a b) 0 = decide (b ≤ a) := by
  rw [geq_dec]; congr 1; apply propext; unfold cmpN
  constructor <;> intro h <;> split at * <;> (try split at *) <;> omega
theorem cmpN_eql (a b : Nat) : cmpR .eql (cmpN a b) 0 = decide (a = b) := by
  rw [eql_dec]; congr 1; apply propext; unfold cmpN
  constructor <;> intro h <;> split at * <;> (try split at *) <;> omega
theorem neq_dec (x y : Int) : cmpR .neq x y = decide (x ≠ y) := by
  cases h : cmpR .neq x y with
  | true => rw [c_neq_t] at h; exact (decide_eq_true h).symm
  | false => rw [c_neq_f] at h; exact (decide_eq_false (by omega)).symm
theorem cmpN_neq (a b : Nat) : cmpR .neq (cmpN a b) 0 = decide (a ≠ b) := by
  rw [neq_dec]; congr 1; apply propext; unfold cmpN
  constructor <;> intro h <;> split at * <;> (try split at *) <;> omega
theorem gtr_dec (x y : Int) : cmpR .gtr x y = decide (y < x) := by
  cases h : cmpR .gtr x y with
  | true => rw [c_gtr_t] at h; exact (decide_eq_true h).symm
  | false => rw [c_gtr_f] at h; exact (decide_eq_false (by omega)).symm
theorem cmpN_gtr (a b : Nat) : cmpR .gtr (cmpN a b) 0 = decide (b < a) := by
  rw [gtr_dec]; congr 1; apply propext; unfold cmpN
  constructor <;> intro h <;> split at * <;> (try split at *) <;> omega
theorem cmpN_sg (a b : Nat) : cmpN a b = sgI ((a : Int) - b) := by
  unfold cmpN sgI; split <;> (try split) <;> (try split) <;> omega
theorem sgI_gtr (x : Int) : cmpR .gtr (sgI x) 0 = decide (0 < x) := by
  rw [gtr_dec]
  congr 1
  unfold sgI
  apply propext
  constructor <;> intro h <;> split at * <;> (try split at *) <;> omega
theorem tot_cmp {f : Int} {a b : BitVec 128} (ha : fFits f a = true) (hb : fFits f b = true) : totI f a b = cmpN (plN f a) (plN f b) := by
  have h1 := plI_pl ha
  have h2 := plI_pl hb
  unfold totI
  rw [ha, hb, cmpN_sg]
  show sgI _ = _
  congr 1
  omega
theorem plW_val {f : Int} {w : BitVec 128} (h : fFits f w = true) : (plW f w).toNat = bif wNeg f w then magN f w + 1 else magN f w := by
  obtain ⟨hf, _⟩ := fits_lt h
  have hm := mag_lt f w
  unfold plW
  rw [h, cond_true, BitVec.toNat_ofNat]
  refine Nat.mod_eq_of_lt (half_512 hf ?_)
  cases wNeg f w <;> simp only [cond_true, cond_false] <;> omega
theorem plW_neg {f : Int} {w : BitVec 128} (h : fFits f w = true) (hn : wNeg f w = true) : (plW f w).toNat ≤ halfN f ∧ halfN f - (plW f w).toNat = plN f w := by
  have h1 := plW_val h
  have h2 := plI_pl h
  have hm := mag_lt f w
  unfold plI at h2
  rw [hn] at h1 h2
  simp only [cond_true] at h1 h2
  omega
theorem plW_pos {f : Int} {w : BitVec 128} (h : fFits f w = true) (hn : wNeg f w = false) : (plW f w).toNat ≤ halfN f ∧ halfN f + (plW f w).toNat = plN f w := by
  have h1 := plW_val h
  have h2 := plI_pl h
  have hm := mag_lt f w
  unfold plI at h2
  rw [hn] at h1 h2
  simp only [cond_false] at h1 h2
  omega
theorem plW_no {f : Int} {w : BitVec 128} (h : fFits f w = false) : plW f w = 0 ∧ wNeg f w = false ∧ (∀ b, totI f w b = 0) := by
  refine ⟨by unfold plW; rw [h]; rfl, wneg_none h, fun b => by unfold totI; rw [h]; rfl⟩
theorem step_val {f : Int} {a b : BitVec 128} (ha : 3 ≤ cls f a) (hb : 3 ≤ cls f b) : (stepW f a b).toNat = stepN f a b := by
  obtain ⟨ia, ja⟩ := known_iff.1 ha
  obtain ⟨ib, jb⟩ := known_iff.1 hb
  obtain ⟨hf, _⟩ := fits_lt ia
  have hi := inf_pos hf
  have sa := sval_le ha
  have sb := sval_le hb
  unfold stepW
  rw [kn2_iff.2 ⟨ha, hb⟩, cond_true, BitVec.toNat_ofNat]
  refine Nat.mod_eq_of_lt (half_512 hf ?_)
  unfold stepN
  omega
theorem step_pl {f : Int} {a b : BitVec 128} (ha : 3 ≤ cls f a) (hb : 3 ≤ cls f b) (h : plN f b ≤ plN f a) :
    (halfN f ≤ plN f a ∧ plN f b < halfN f → stepN f a b = plN f a - plN f b - 1 ∧ 1 ≤ plN f a - plN f b) ∧ (¬ (halfN f ≤ plN f a ∧ plN f b < halfN f) → stepN f a b = plN f a - plN f b) := by
  obtain ⟨ia, ja⟩ := known_iff.1 ha
  obtain ⟨ib, jb⟩ := known_iff.1 hb
  have h1 := plI_pl ia
  have h2 := plI_pl ib
  unfold plI at h1 h2
  unfold stepN sval
  cases na : wNeg f a <;> cases nb : wNeg f b <;> rw [na] at h1 <;> rw [nb] at h2 <;> simp only [cond_true, cond_false] at h1 h2 ⊢ <;> omega
theorem step_swap (f : Int) (a b : BitVec 128) : stepN f a b = stepN f b a := by unfold stepN; omega
theorem sv_add {f : Int} {a b : BitVec 128} (ha : 3 ≤ cls f a) (hb : 3 ≤ cls f b) :
    ((wNeg f a && !decide (magN f a = 0)) ≠ (wNeg f b && !decide (magN f b = 0)) → stepN f a b = magN f a + magN f b) ∧ ((wNeg f a && !decide (magN f a = 0)) = (wNeg f b && !decide (magN f b = 0)) → magN f a < magN f b → stepN f a b = magN f b - magN f a) ∧ ((wNeg f a && !decide (magN f a = 0)) = (wNeg f b && !decide (magN f b = 0)) → ¬ magN f a < magN f b → stepN f a b = magN f a - magN f b) := by
  unfold stepN sval
  cases wNeg f a <;> cases wNeg f b <;> by_cases z1 : magN f a = 0 <;> by_cases z2 : magN f b = 0 <;>
    simp only [z1, z2, decide_true, decide_false, Bool.not_true, Bool.not_false, Bool.and_true, Bool.and_false, Bool.true_and, Bool.false_and, cond_true, cond_false, Bool.false_eq_true, Bool.true_eq_false] <;>
    (refine ⟨fun h => ?_, fun h g => ?_, fun h g => ?_⟩) <;> first | omega | (exact absurd rfl h) | (exact absurd h (by decide))
set_option exponentiation.threshold 600 in
theorem amt_addW {f : Int} (hf : 1 ≤ f ∧ f ≤ 4) {m n : Nat} (hm : m < halfN f) (hn : n < halfN f) : BitVec.ofNat 512 m + BitVec.ofNat 512 n = BitVec.ofNat 512 (m + n) := by
  apply BitVec.eq_of_toNat_eq
  rw [BitVec.toNat_add, BitVec.toNat_ofNat, BitVec.toNat_ofNat, BitVec.toNat_ofNat]
  exact (Nat.add_mod _ _ _).symm
set_option exponentiation.threshold 600 in
theorem amt_subW {f : Int} (hf : 1 ≤ f ∧ f ≤ 4) {m n : Nat} (hm : m < halfN f) (hn : n ≤ m) : BitVec.ofNat 512 m - BitVec.ofNat 512 n = BitVec.ofNat 512 (m - n) := by
  have e1 : (BitVec.ofNat 512 m).toNat = m := by rw [BitVec.toNat_ofNat, Nat.mod_eq_of_lt (half_512 hf (by omega))]
  have e2 : (BitVec.ofNat 512 n).toNat = n := by rw [BitVec.toNat_ofNat, Nat.mod_eq_of_lt (half_512 hf (by omega))]
  have e3 : (BitVec.ofNat 512 (m - n)).toNat = m - n := by rw [BitVec.toNat_ofNat, Nat.mod_eq_of_lt (half_512 hf (by omega))]
  apply BitVec.eq_of_toNat_eq
  rw [BitVec.toNat_sub_of_le (by rw [BitVec.le_def, e1, e2]; exact hn), e1, e2, e3]
end Go.LE
namespace Go.LE
open Go
/-! ## what needs no engine -/
/-- rules by their numbers: none, nan, invalid, infinite, zero, nought, finite, same -/
def sCode (c : Int) : ByteArray :=
  if c = 1 then bytesOf [110, 97, 110] else if c = 2 then bytesOf [105, 110, 118, 97, 108, 105, 100] else if c = 3 then bytesOf [105, 110, 102, 105, 110, 105, 116, 101]
  else if c = 4 then bytesOf [122, 101, 114, 111] else if c = 5 then bytesOf [110, 111, 117, 103, 104, 116] else if c = 6 then bytesOf [102, 105, 110, 105, 116, 101]
  else if c = 7 then bytesOf [115, 97, 109, 101] else bytesOf []
def kindK (c : Int) : Int := if c = 1 ∨ c = 2 then 1 else if c = 3 then 2 else if c = 6 then 3 else if c = 4 ∨ c = 5 then 4 else 0
def kindOf2 (f : Int) (w : BitVec 128) : Int := kindK (cls f w)
def ruleC (x y : Int) : Int := if x = 0 ∨ y = 0 then 0 else if x = 1 ∨ y = 1 then 1 else if x = y ∧ x ≠ 4 then 2 else if x = 2 then 3 else if y = 3 then 4 else if y = 2 ∨ x = 3 then 5 else 6
def rootC (k : Int) (neg : Bool) : Int := if k = 0 then 0 else if k = 1 then 1 else if k = 3 then 7 else if k = 2 then (bif neg then 2 else 7) else if k = 4 then (bif neg then 2 else 6) else 6
def gS (c : Int) : ByteArray := if c = 1 ∨ c = 2 then bytesOf [110] else if c = 3 then bytesOf [105] else if c = 4 ∨ c = 5 then bytesOf [102] else if c = 6 then bytesOf [122] else bytesOf []
def divC (f : Int) (a b : BitVec 128) : Int := ruleC (kindOf2 f a) (kindOf2 f b)
def sqrC (f : Int) (a : BitVec 128) : Int := rootC (kindOf2 f a) (wNeg f a)
theorem kindK_rng (c : Int) : 0 ≤ kindK c ∧ kindK c ≤ 4 := by unfold kindK; split <;> (try split) <;> (try split) <;> (try split) <;> omega
theorem ruleC_rng (x y : Int) : 0 ≤ ruleC x y ∧ ruleC x y ≤ 6 := by
  unfold ruleC; split <;> (try split) <;> (try split) <;> (try split) <;> (try split) <;> (try split) <;> omega
theorem rootC_rng (x : Int) (b : Bool) : 0 ≤ rootC x b ∧ rootC x b ≤ 7 := by
  unfold rootC; cases b <;> simp only [cond_true, cond_false] <;> split <;> (try split) <;> (try split) <;> (try split) <;> (try split) <;> omega
theorem code_cases {c : Int} (h : 0 ≤ c ∧ c ≤ 7) : c = 0 ∨ c = 1 ∨ c = 2 ∨ c = 3 ∨ c = 4 ∨ c = 5 ∨ c = 6 ∨ c = 7 := by omega
theorem code_is {c k : Int} (h : 0 ≤ c ∧ c ≤ 7) (hk : 0 ≤ k ∧ k ≤ 7) : ((sCode c).toList == (sCode k).toList) = decide (c = k) := by
  rcases code_cases h with rfl | rfl | rfl | rfl | rfl | rfl | rfl | rfl <;> rcases code_cases hk with rfl | rfl | rfl | rfl | rfl | rfl | rfl | rfl <;> decide +kernel
theorem code_size {c : Int} (h : 0 ≤ c ∧ c ≤ 7) : (sCode c).size ≤ 8 := by
  rcases code_cases h with rfl | rfl | rfl | rfl | rfl | rfl | rfl | rfl <;> decide +kernel
theorem kind_pos {f : Int} {w : BitVec 128} (h : kindOf2 f w ≠ 0) : fFits f w = true := by
  cases hh : fFits f w with
  | true => rfl
  | false =>
    exfalso
    apply h
    unfold kindOf2
    rw [cls_none hh]
    rfl
theorem div_isF {f : Int} {a b : BitVec 128} (h : divC f a b ≠ 0) : 1 ≤ f ∧ f ≤ 4 := by
  have : kindOf2 f a ≠ 0 := fun hh => h (by unfold divC ruleC; rw [if_pos (.inl hh)])
  exact (fits_lt (kind_pos this)).1
theorem sqr_isF {f : Int} {a : BitVec 128} (h : sqrC f a ≠ 0) : 1 ≤ f ∧ f ≤ 4 := by
  have : kindOf2 f a ≠ 0 := fun hh => h (by unfold sqrC rootC; rw [if_pos hh])
  exact (fits_lt (kind_pos this)).1
def dvNeg (f : Int) (a b : BitVec 128) : Bool := !(wNeg f a == wNeg f b)
def divW (f : Int) (a b : BitVec 128) : BitVec 128 := if divC f a b = 1 then nanV f [a, b] else if divC f a b = 2 then fNaN f else if divC f a b = 3 ∨ divC f a b = 4 then fInf f (dvNeg f a b) else if divC f a b = 5 then fNought f (dvNeg f a b) else 0
def divX (f : Int) (a b : BitVec 128) : Int := if divC f a b = 1 then nanX f [a, b] else if divC f a b = 2 then 1 else if divC f a b = 4 then 2 else 0
def divOk (f : Int) (a b : BitVec 128) : Bool := if divC f a b = 1 then nanIs f [a, b] else decide (2 ≤ divC f a b ∧ divC f a b ≤ 5)
def sqrW (f : Int) (a : BitVec 128) : BitVec 128 := if sqrC f a = 1 then nanV f [a] else if sqrC f a = 7 then a else if sqrC f a = 2 then fNaN f else 0
def sqrX (f : Int) (a : BitVec 128) : Int := if sqrC f a = 1 then nanX f [a] else if sqrC f a = 2 then 1 else 0
def sqrOk (f : Int) (a : BitVec 128) : Bool := if sqrC f a = 1 then nanIs f [a] else decide (sqrC f a = 7 ∨ sqrC f a = 2)
theorem gS_f {c : Int} (h : 0 ≤ c ∧ c ≤ 6) : ((gS c).toList == (bytesOf [102]).toList) = decide (c = 4 ∨ c = 5) := by
  have hc : c = 0 ∨ c = 1 ∨ c = 2 ∨ c = 3 ∨ c = 4 ∨ c = 5 ∨ c = 6 := by omega
  rcases hc with rfl | rfl | rfl | rfl | rfl | rfl | rfl <;> decide +kernel
theorem gS_i {c : Int} (h : 0 ≤ c ∧ c ≤ 6) : ((gS c).toList == (bytesOf [105]).toList) = decide (c = 3) := by
  have hc : c = 0 ∨ c = 1 ∨ c = 2 ∨ c = 3 ∨ c = 4 ∨ c = 5 ∨ c = 6 := by omega
  rcases hc with rfl | rfl | rfl | rfl | rfl | rfl | rfl <;> decide +kernel
theorem gS_z {c : Int} (h : 0 ≤ c ∧ c ≤ 6) : ((gS c).toList == (bytesOf [122]).toList) = decide (c = 6) := by
  have hc : c = 0 ∨ c = 1 ∨ c = 2 ∨ c = 3 ∨ c = 4 ∨ c = 5 ∨ c = 6 := by omega
  rcases hc with rfl | rfl | rfl | rfl | rfl | rfl | rfl <;> decide +kernel
theorem gS_n {c : Int} (h : 0 ≤ c ∧ c ≤ 6) : ((gS c).toList == (bytesOf [110]).toList) = decide (c = 1 ∨ c = 2) := by
  have hc : c = 0 ∨ c = 1 ∨ c = 2 ∨ c = 3 ∨ c = 4 ∨ c = 5 ∨ c = 6 := by omega
  rcases hc with rfl | rfl | rfl | rfl | rfl | rfl | rfl <;> decide +kernel
end Go.LE