import Derived.Test.YtcmicmbpcgminaaGreatDoorLeT
set_option linter.unusedVariables false
set_option linter.unusedSimpArgs false
namespace Go.LE
open Go
/-! ## made whole: how it stands to what it was -/
theorem ir_size {f m : Int} {w : BitVec 128} (h : wFin f w = true) : irMag f m w < infN f ∧ sizeN (vSig f (wM f (irMag f m w))).toNat (vExp f (wM f (irMag f m w))) (intB m (vNeg f w) (vSig f w) (vExp f w)) 0 = 0 := by
  obtain ⟨hF, hf⟩ := fin_fits h
  have hp := p_rng f hf
  have hi := inf_pos hf
  obtain ⟨i1, i2, i3, i4⟩ := fin_mag h
  obtain ⟨m1, m2⟩ := vMag h
  by_cases he : 0 ≤ vExp f w
  · have hexp : expO f = 2 - fEMax f - fPrec f := rfl
    have hem := e_rng f hf
    have hs : sizeN (vSig f (wM f (magN f w))).toNat (vExp f (wM f (magN f w))) (intB m (vNeg f w) (vSig f w) (vExp f w)) 0 = 0 := by
      rw [(int_pos he).1]
      refine (size_of hf i2 false (k := expO f) (Int.le_refl _) (by omega)).1.2 ?_
      rw [← m2, show (expO f - expO f).toNat = 0 by omega, Nat.pow_zero, Nat.mul_one, Nat.mul_assoc, ← Nat.pow_add]
      congr 2; omega
    have hM : irMag f m w = magN f w := findM_eq hf i2 hs
    rw [hM]
    exact ⟨i2, hs⟩
  · have hle := int_lt (m := m) (b := vNeg f w) (show vExp f w < 0 by omega) (vSig_lt h) (P := (fPrec f).toNat) (by omega)
    have hle2 : 2 ^ ((fPrec f).toNat - 1) ≤ 2 ^ (fPrec f).toNat := Nat.pow_le_pow_right (by decide) (by omega)
    by_cases hz : intB m (vNeg f w) (vSig f w) (vExp f w) = 0
    · have hM : irMag f m w = 0 := by unfold irMag; rw [hz]; exact find_zero hf 0
      rw [hM, hz]
      refine ⟨by omega, (size_of hf (m := 0) (by omega) false (k := min (expO f) 0) (by omega) (by omega)).1.2 ?_⟩
      rw [magV_zero, Nat.zero_mul, Nat.zero_mul]
    · obtain ⟨M, f1, f2⟩ := int_fits hf hz (by omega)
      have hM : irMag f m w = M := findM_eq hf f1 f2
      rw [hM]
      exact ⟨f1, f2⟩
theorem ir_order {f m : Int} {w : BitVec 128} (h : wFin f w = true) :
    (sizeN (intB m (vNeg f w) (vSig f w) (vExp f w)) 0 (vSig f w).toNat (vExp f w) ≤ 0 → irMag f m w ≤ magN f w) ∧
    (sizeN (vSig f w).toNat (vExp f w) (intB m (vNeg f w) (vSig f w) (vExp f w)) 0 ≤ 0 → magN f w ≤ irMag f m w) := by
  obtain ⟨hF, hf⟩ := fin_fits h
  obtain ⟨i1, i2⟩ := ir_size (m := m) h
  obtain ⟨m1, m2⟩ := vMag h
  have hk1 : min (expO f) 0 ≤ expO f := by omega
  have hk2 : min (expO f) 0 ≤ 0 := by omega
  have e1 := (size_of hf i1 false hk1 hk2).1.1 i2
  have e2 : magV f (magN f w) * 2 ^ (expO f - min (expO f) 0).toNat = (vSig f w).toNat * 2 ^ (vExp f w - min (expO f) 0).toNat := by
    rw [← m2, Nat.mul_assoc, ← Nat.pow_add]
    congr 2; omega
  refine ⟨fun hs => ?_, fun hs => ?_⟩
  · rw [sizeN_le (k := min (expO f) 0) hk2 (by omega), ← e1, ← e2] at hs
    exact (magV_le f).1 (Nat.le_of_mul_le_mul_right hs (Nat.two_pow_pos _))
  · rw [sizeN_le (k := min (expO f) 0) (by omega) hk2, ← e1, ← e2] at hs
    exact (magV_le f).1 (Nat.le_of_mul_le_mul_right hs (Nat.two_pow_pos _))
theorem int_down {m : Int} {b : Bool} {s : W} {e : Int} (h : m = 3 ∨ (m = 4 ∧ b = true) ∨ (m = 5 ∧ b = false)) : sizeN (intB m b s e) 0 s.toNat e ≤ 0 := by
  have hg : intB m b s e = floorQ s.toNat e 0 := by
    unfold intB upQ
    have : growsM m b (oddN (floorQ s.toNat e 0)) (restQ s.toNat e 0) = false := by
      unfold growsM
      split
      · rfl
      · rcases h with rfl | ⟨rfl, rfl⟩ | ⟨rfl, rfl⟩ <;> rfl
    rw [this]; rfl
  rw [hg, floorQ_le]
  exact Nat.le_refl _
theorem int_up {m : Int} {b : Bool} {s : W} {e : Int} (h : (m = 4 ∧ b = false) ∨ (m = 5 ∧ b = true)) : sizeN s.toNat e (intB m b s e) 0 ≤ 0 := by
  have hk : ∀ N : Nat, sizeN s.toNat e N 0 ≤ 0 ↔ s.toNat * 2 ^ (e - min e 0).toNat ≤ N * 2 ^ (0 - min e 0).toNat := fun N => sizeN_le (by omega) (by omega)
  have hk2 : ∀ N : Nat, sizeN N 0 s.toNat e ≤ 0 ↔ N * 2 ^ (0 - min e 0).toNat ≤ s.toNat * 2 ^ (e - min e 0).toNat := fun N => sizeN_le (by omega) (by omega)
  rw [hk]
  by_cases hr : restQ s.toNat e 0 = 0
  · have hu : intB m b s e = floorQ s.toNat e 0 := by unfold intB upQ; rw [hr, grows_zero]; rfl
    have := (sizeN_at (k := min e 0) (by omega) (by omega)).1.1 ((floorQ_eq (a := s.toNat) (g := e) (p := 0)).2 hr)
    rw [hu, this]
    exact Nat.le_refl _
  · have hrr := restQ_rng s.toNat e 0
    have hu : intB m b s e = floorQ s.toNat e 0 + 1 := by
      unfold intB upQ
      have : growsM m b (oddN (floorQ s.toNat e 0)) (restQ s.toNat e 0) = true := by
        unfold growsM
        rw [if_neg (by omega)]
        rcases h with ⟨rfl, rfl⟩ | ⟨rfl, rfl⟩ <;> rfl
      rw [this]; rfl
    have hlt : ¬ sizeN (floorQ s.toNat e 0 + 1) 0 s.toNat e ≤ 0 := by rw [floorQ_le]; omega
    rw [hk2] at hlt
    rw [hu]
    omega
/-- a word of a whole number stays -/
theorem int_same {f : Int} {a : BitVec 128} (h : wFin f a = true) {N : Nat} (hs : sizeN (vSig f a).toNat (vExp f a) N 0 = 0) :
    intX (vSig f a) (vExp f a) = false ∧ ∀ m b, intB m b (vSig f a) (vExp f a) = N := by
  by_cases hN : N = 0
  · subst hN
    have hz : vSig f a = 0 := by
      rw [w_zero]
      have e := (sizeN_at (k := min (vExp f a) 0) (by omega) (by omega)).1.1 hs
      rw [Nat.zero_mul] at e
      rcases Nat.mul_eq_zero.1 e with hh | hh
      · exact hh
      · have := Nat.two_pow_pos (vExp f a - min (vExp f a) 0).toNat
        omega
    exact ⟨(int_zero (m := 3) (b := false) hz).2, fun m b => (int_zero hz).1⟩
  · have hn := size_nz hs hN
    obtain ⟨c1, c2, c3⟩ := cut_same hn hN hs
    obtain ⟨u1, u2, u3⟩ := up_exact (m := 3) (b := false) (a := N) (g := 0) (p := 0) (Int.le_refl _)
    have hr : restQ (vSig f a).toNat (vExp f a) 0 = 0 := by rw [c2, u2]
    refine ⟨by unfold intX; rw [hr]; rfl, fun m b => ?_⟩
    unfold intB upQ
    rw [hr, grows_zero, c1, u3]
    simp
theorem le_neg {s : Int} (h : s ≤ 0) : s = 0 ∨ decide (s < 0) ≠ false := by
  by_cases h2 : s < 0
  · right; rw [decide_eq_true h2]; exact fun h => by cases h
  · left; omega
theorem ge_pos {s : Int} (h : 0 ≤ s) : s = 0 ∨ decide (s < 0) ≠ true := by
  by_cases h2 : s = 0
  · exact .inl h2
  · right; rw [decide_eq_false (by omega)]; exact fun h => by cases h
theorem stays {f m m2 : Int} {w : BitVec 128} (h : wFin f w = true) (hm : isM m = true) (hm2 : isM m2 = true) :
    irE f m w = 0 ∧ wFin f (irW f m w) = true ∧ irE f m2 (irW f m w) = 0 ∧ irW f m2 (irW f m w) = irW f m w ∧ irX f m2 (irW f m w) = 0 ∧ whI f (irW f m w) = true ∧
    (m = 4 → 0 ≤ sgI (sval f (irW f m w) - sval f w)) ∧ (m = 5 → sgI (sval f (irW f m w) - sval f w) ≤ 0) ∧
    (m = 3 → sgI (sval f (irW f m w) - sval f w) = 0 ∨ decide (sgI (sval f (irW f m w) - sval f w) < 0) ≠ vNeg f w) := by
  obtain ⟨hF, hf⟩ := fin_fits h
  have hv : vNeg f w = wNeg f w := by unfold vNeg; rw [h]; rfl
  have okw : ∀ {mm : Int} {u : BitVec 128}, isM mm = true → wFin f u = true → irOk f mm u = true := fun h1 h2 => by unfold irOk; rw [h1, (fin_fits h2).1]; rfl
  have nn : ∀ {u : BitVec 128}, wFin f u = true → nanIs f [u] = false := fun {u} hu => by
    have := (fin_iff f u).1 hu
    unfold nanIs wNaN
    simp
    omega
  have Ee : ∀ {mm : Int} {u : BitVec 128}, isM mm = true → wFin f u = true → irE f mm u = 0 := fun h1 h2 => by unfold irE; rw [okw h1 h2]; rfl
  have We : ∀ {mm : Int} {u : BitVec 128}, isM mm = true → wFin f u = true → irW f mm u = bif irSome f u then fWordOf f (wNeg f u) (irMag f mm u) else u := fun h1 h2 => by unfold irW; rw [okw h1 h2, nn h2]; rfl
  have Xe : ∀ {mm : Int} {u : BitVec 128}, isM mm = true → wFin f u = true → irX f mm u = bif irSome f u then (bif intX (vSig f u) (vExp f u) then 16 else 0) else 0 := fun h1 h2 => by unfold irX; rw [okw h1 h2, nn h2]; rfl
  -- the word made whole, its magnitude, and the number that it is
  have key : ∃ N, wFin f (irW f m w) = true ∧ sizeN (vSig f (irW f m w)).toNat (vExp f (irW f m w)) N 0 = 0 ∧ wNeg f (irW f m w) = wNeg f w ∧ (magN f (irW f m w) = irMag f m w ∨ irW f m w = w) := by
    rw [We hm h]
    cases hs : irSome f w with
    | true =>
      obtain ⟨i1, i2⟩ := ir_size (m := m) h
      obtain ⟨o1, o2, o3, o4⟩ := of_fin hf i1 (wNeg f w)
      exact ⟨_, o1, size_sgn hf i1 i2 _, o2, .inl o3⟩
    | false =>
      have hz : vSig f w = 0 := by
        unfold irSome at hs
        rw [h, Bool.true_and, Bool.not_eq_false', decide_eq_true_eq] at hs
        exact hs
      refine ⟨0, h, ?_, rfl, .inr rfl⟩
      show sizeN (vSig f w).toNat (vExp f w) 0 0 = 0
      rw [show (vSig f w).toNat = 0 by rw [← w_zero]; exact hz]
      rfl
  obtain ⟨N, k1, k2, k3, k4⟩ := key
  obtain ⟨s1, s2⟩ := int_same k1 k2
  have hself : ∀ mm : Int, irMag f mm (irW f m w) = magN f (irW f m w) := fun mm => by
    unfold irMag
    rw [s2]
    obtain ⟨g1, g2, g3, g4⟩ := fin_mag k1
    obtain ⟨_, hff⟩ := fin_fits k1
    obtain ⟨v1, v2⟩ := vMag k1
    refine findM_eq hf g2 ((size_of hf g2 false (k := min (expO f) 0) (by omega) (by omega)).1.2 ?_)
    rw [← v2, Nat.mul_assoc, ← Nat.pow_add]
    have := (sizeN_at (k := min (expO f) 0) (by omega) (by omega)).1.1 k2
    rw [← this]
    congr 2; omega
  refine ⟨Ee hm h, k1, Ee hm2 k1, ?_, ?_, ?_, ?_⟩
  · rw [We hm2 k1]
    cases hs : irSome f (irW f m w) with
    | true =>
      rw [cond_true, hself]
      exact (w_own (fin_fits k1).1).symm
    | false => rfl
  · rw [Xe hm2 k1, s1]
    cases irSome f (irW f m w) <;> rfl
  · unfold whI
    rw [k1, s1]; rfl
  · obtain ⟨r1, r2⟩ := ir_order (m := m) h
    rcases k4 with k4 | k4
    · unfold sval
      rw [k3, k4]
      have hc := fun (x : Int) => show sgI x = if x < 0 then -1 else if 0 < x then 1 else 0 from rfl
      rw [hv] at r1 r2 ⊢
      cases hb : wNeg f w with
      | false =>
        rw [hb] at r1 r2
        simp only [cond_false]
        refine ⟨fun h4 => ?_, fun h5 => ?_, fun h3 => ?_⟩
        · have := r2 (int_up (.inl ⟨h4, rfl⟩))
          rw [hc, if_neg (by omega)]; split <;> omega
        · have := r1 (int_down (.inr (.inr ⟨h5, rfl⟩)))
          rw [hc]; split
          · omega
          · rw [if_neg (by omega)]; omega
        · have := r1 (int_down (.inl h3))
          have e1 : sgI (((irMag f m w : Nat) : Int) - ((magN f w : Nat) : Int)) ≤ 0 := by
            rw [hc]; split
            · omega
            · rw [if_neg (by omega)]; exact Int.le_refl 0
          exact le_neg e1
      | true =>
        rw [hb] at r1 r2
        simp only [cond_true]
        refine ⟨fun h4 => ?_, fun h5 => ?_, fun h3 => ?_⟩
        · have := r1 (int_down (.inr (.inl ⟨h4, rfl⟩)))
          rw [hc, if_neg (by omega)]; split <;> omega
        · have := r2 (int_up (.inr ⟨h5, rfl⟩))
          rw [hc]; split
          · omega
          · rw [if_neg (by omega)]; omega
        · have := r1 (int_down (.inl h3))
          have e1 : 0 ≤ sgI (-((irMag f m w : Nat) : Int) - -((magN f w : Nat) : Int)) := by
            rw [hc]; split
            · omega
            · split <;> omega
          exact ge_pos e1
    · rw [k4, show sval f w - sval f w = 0 by omega]
      exact ⟨fun _ => by decide, fun _ => by decide, fun _ => .inl rfl⟩
/-! ## what is left below the whole part -/
def rsN (f : Int) (w : BitVec 128) : Nat := (vSig f w).toNat % 2 ^ (-(vExp f w)).toNat
def rsMag (f : Int) (w : BitVec 128) : Nat := findM f (rsN f w) (vExp f w)
theorem rs_rest {f : Int} {w : BitVec 128} : (intX (vSig f w) (vExp f w) = false ↔ rsN f w = 0) ∧ ((vExp f w) < 0 ∨ rsN f w = 0) := by
  unfold intX restQ rsN
  by_cases he : 0 ≤ vExp f w
  · rw [if_pos he, show (-(vExp f w)).toNat = 0 by omega, Nat.pow_zero, Nat.mod_one]
    simp
  · rw [if_neg he, show (0 - vExp f w).toNat = (-(vExp f w)).toNat by omega]
    refine ⟨?_, .inl (by omega)⟩
    rw [Bool.not_eq_false', decide_eq_true_eq]
    constructor
    · intro h
      split at h
      · assumption
      · split at h <;> (try split at h) <;> omega
    · intro h
      rw [if_pos h]
theorem sub_fits {f : Int} {w : BitVec 128} (h : wFin f w = true) {R : Nat} (h0 : R ≠ 0) (hR : R ≤ (vSig f w).toNat) :
    ∃ M, M < infN f ∧ sizeN (vSig f (wM f M)).toNat (vExp f (wM f M)) R (vExp f w) = 0 := by
  obtain ⟨hF, hf⟩ := fin_fits h
  have hp := p_rng f hf
  obtain ⟨g0, g1, _⟩ := fin_fld h
  obtain ⟨m1, m2⟩ := vMag h
  have hlt := vSig_lt h
  have hb : bitN R ≤ (fPrec f).toNat := bitN_le.2 (Nat.lt_of_le_of_lt hR hlt)
  have hb3 := bitN_pos h0
  have hem := e_rng f hf
  have hx : vExp f w = (if bFld f w > 0 then bFld f w - 1 else bFld f w) + (1 - fEMax f) - fPrec f + 1 := by
    conv => lhs; unfold vExp
    rw [h, cond_true]
  have hxe : vExp f w ≤ fEMax f - fPrec f + 1 := by rw [hx]; split <;> omega
  have hpl : topQ R (vExp f w) - fPrec f + 1 ≤ vExp f w := by unfold topQ; omega
  obtain ⟨u1, u2, _⟩ := up_exact (m := 3) (b := false) (a := R) hpl
  have hU : rdU f 3 false R (vExp f w) = R * 2 ^ (vExp f w - (topQ R (vExp f w) - fPrec f + 1)).toNat := u1
  have hult : rdU f 3 false R (vExp f w) < 2 ^ (fPrec f).toNat := by
    rw [hU]
    have hb2 := (bitN_rng h0).2.1
    have e2 : 2 ^ (fPrec f).toNat = 2 ^ bitN R * 2 ^ (vExp f w - (topQ R (vExp f w) - fPrec f + 1)).toNat := by
      rw [← Nat.pow_add]; congr 1; unfold topQ; omega
    rw [e2]
    exact Nat.mul_lt_mul_of_pos_right hb2 (Nat.two_pow_pos _)
  have htwo := rdT_two hf h0 (vExp f w) 3 false
  have hT : rdT f 3 false R (vExp f w) = topQ R (vExp f w) := by omega
  have hTm : rdT f 3 false R (vExp f w) ≤ fEMax f := by rw [hT]; unfold topQ; omega
  have hr : restQ R (vExp f w) (rdPl f 3 false R (vExp f w)) = 0 := by
    have : rdPl f 3 false R (vExp f w) ≤ vExp f w := by unfold rdPl; split <;> omega
    unfold restQ; rw [if_pos this]
  obtain ⟨r1, r2⟩ := rd_fits hf h0 hTm hr
  exact ⟨_, r1, r2⟩
theorem rs_size {f : Int} {w : BitVec 128} (h : wFin f w = true) : rsMag f w < infN f ∧ sizeN (vSig f (wM f (rsMag f w))).toNat (vExp f (wM f (rsMag f w))) (rsN f w) (vExp f w) = 0 := by
  obtain ⟨hF, hf⟩ := fin_fits h
  have hi := inf_pos hf
  by_cases hz : rsN f w = 0
  · have hM : rsMag f w = 0 := by unfold rsMag; rw [hz]; exact find_zero hf _
    rw [hM, hz]
    refine ⟨by omega, (size_of hf (m := 0) (by omega) false (k := min (expO f) (vExp f w)) (by omega) (by omega)).1.2 ?_⟩
    rw [magV_zero, Nat.zero_mul, Nat.zero_mul]
  · obtain ⟨M, f1, f2⟩ := sub_fits h hz (Nat.mod_le _ _)
    have hM : rsMag f w = M := findM_eq hf f1 f2
    rw [hM]
    exact ⟨f1, f2⟩
set_option exponentiation.threshold 600 in
/-- what is left, as it is found -/
theorem rs_word {f : Int} {w : BitVec 128} (h : wFin f w = true) (hx : intX (vSig f w) (vExp f w) = true) (b : Bool) :
    vExp f w < 0 ∧ (vSig f w - wShl (cutW (vSig f w) (-(vExp f w)) false 3 b) (-(vExp f w))).toNat = rsN f w ∧
    exW f b (vExp f w) (vSig f w - wShl (cutW (vSig f w) (-(vExp f w)) false 3 b) (-(vExp f w))) = fWordOf f b (rsMag f w) := by
  obtain ⟨hF, hf⟩ := fin_fits h
  have hrg := vExp_rng h
  have hne : rsN f w ≠ 0 := fun hh => by rw [(rs_rest (f := f) (w := w)).1.2 hh] at hx; cases hx
  have he : vExp f w < 0 := by rcases (rs_rest (f := f) (w := w)).2 with hh | hh <;> omega
  have hn : (vSig f w - wShl (cutW (vSig f w) (-(vExp f w)) false 3 b) (-(vExp f w))).toNat = rsN f w := by
    obtain ⟨n1, _⟩ := int_neg (m := 3) (b := b) (s := vSig f w) rfl he
    have hfl : intB 3 b (vSig f w) (vExp f w) = (vSig f w).toNat / 2 ^ (-(vExp f w)).toNat := by
      unfold intB upQ
      have hg : growsM 3 b (oddN (floorQ (vSig f w).toNat (vExp f w) 0)) (restQ (vSig f w).toNat (vExp f w) 0) = false := by
        unfold growsM; split <;> rfl
      rw [hg]
      unfold floorQ
      rw [if_neg (by omega), show (0 - vExp f w).toNat = (-(vExp f w)).toNat by omega]
      rfl
    have dm := Nat.div_add_mod (vSig f w).toNat (2 ^ (-(vExp f w)).toNat)
    have hlt := (vSig f w).isLt
    have hsh : (wShl (cutW (vSig f w) (-(vExp f w)) false 3 b) (-(vExp f w))).toNat = (vSig f w).toNat / 2 ^ (-(vExp f w)).toNat * 2 ^ (-(vExp f w)).toNat := by
      by_cases h5 : -(vExp f w) ≤ 512
      · have := shl_exact (s := cutW (vSig f w) (-(vExp f w)) false 3 b) (n := -(vExp f w)) (k := 512) (by omega) h5 (Nat.le_refl _) (by rw [n1, hfl, Nat.mul_comm]; omega)
        rw [this, n1, hfl]
      · have hz : (vSig f w).toNat / 2 ^ (-(vExp f w)).toNat = 0 := Nat.div_eq_of_lt (Nat.lt_of_lt_of_le hlt (Nat.pow_le_pow_right (by decide) (by omega)))
        have hc : cutW (vSig f w) (-(vExp f w)) false 3 b = 0 := by rw [w_zero, n1, hfl, hz]
        rw [hc, hz, Nat.zero_mul]
        unfold wShl
        simp
    rw [BitVec.toNat_sub_of_le (by rw [BitVec.le_def, hsh, Nat.mul_comm]; omega), hsh]
    unfold rsN
    rw [Nat.mul_comm]
    omega
  refine ⟨he, hn, ?_⟩
  obtain ⟨r1, r2⟩ := rs_size h
  rw [← hn] at r2
  exact (ex_word hf (show rgtE (vExp f w) = true from decide_eq_true (by omega)) r1 r2 b).2
theorem split_sum {f : Int} {w : BitVec 128} (h : wFin f w = true) (b : Bool) {K : Int} (h1 : K ≤ 0) (h2 : K ≤ vExp f w) :
    intB 3 b (vSig f w) (vExp f w) * 2 ^ (0 - K).toNat + rsN f w * 2 ^ (vExp f w - K).toNat = (vSig f w).toNat * 2 ^ (vExp f w - K).toNat := by
  by_cases he : 0 ≤ vExp f w
  · have hz : rsN f w = 0 := by rcases (rs_rest (f := f) (w := w)).2 with hh | hh <;> omega
    rw [(int_pos he).1, hz, Nat.zero_mul, Nat.add_zero, Nat.mul_assoc, ← Nat.pow_add]
    congr 2; omega
  · have hfl : intB 3 b (vSig f w) (vExp f w) = (vSig f w).toNat / 2 ^ (-(vExp f w)).toNat := by
      unfold intB upQ
      have hg : growsM 3 b (oddN (floorQ (vSig f w).toNat (vExp f w) 0)) (restQ (vSig f w).toNat (vExp f w) 0) = false := by
        unfold growsM; split <;> rfl
      rw [hg]
      unfold floorQ
      rw [if_neg (by omega), show (0 - vExp f w).toNat = (-(vExp f w)).toNat by omega]
      rfl
    have dm := Nat.div_add_mod (vSig f w).toNat (2 ^ (-(vExp f w)).toNat)
    rw [hfl]
    have e : 2 ^ (0 - K).toNat = 2 ^ (-(vExp f w)).toNat * 2 ^ (vExp f w - K).toNat := by rw [← Nat.pow_add]; congr 1; omega
    unfold rsN
    rw [e, ← Nat.mul_assoc, ← Nat.add_mul, Nat.mul_comm ((vSig f w).toNat / _), dm]
theorem split_eq {A B Z N R : Nat} {xe ye ze K : Int} (k1 : K ≤ xe) (k2 : K ≤ ye) (k3 : K ≤ ze) (h1 : sizeN A xe N 0 = 0) (h2 : sizeN B ye R ze = 0)
    (hs : ∀ k : Int, k ≤ 0 → k ≤ ze → N * 2 ^ (0 - k).toNat + R * 2 ^ (ze - k).toNat = Z * 2 ^ (ze - k).toNat) :
    A * 2 ^ (xe - K).toNat + B * 2 ^ (ye - K).toNat = Z * 2 ^ (ze - K).toNat := by
  have e : ∀ x : Int, K ≤ x → 2 ^ (x - min K 0).toNat = 2 ^ (x - K).toNat * 2 ^ (K - min K 0).toNat := fun x hx => by
    rw [← Nat.pow_add]; congr 1; omega
  have a1 := (sizeN_at (k := min K 0) (by omega) (by omega)).1.1 h1
  have a2 := (sizeN_at (k := min K 0) (by omega) (by omega)).1.1 h2
  have a3 := hs (min K 0) (by omega) (by omega)
  rw [← a1, ← a2, e _ k1, e _ k2, e _ k3, ← Nat.mul_assoc, ← Nat.mul_assoc, ← Nat.mul_assoc, ← Nat.add_mul] at a3
  exact Nat.eq_of_mul_eq_mul_right (Nat.two_pow_pos _) a3
theorem rs_less {f : Int} {w : BitVec 128} {B : Nat} {ye : Int} (h : sizeN B ye (rsN f w) (vExp f w) = 0) : sizeN B ye 1 0 < 0 := by
  have a1 := (sizeN_at (k := min ye (min (vExp f w) 0)) (by omega) (by omega)).1.1 h
  refine (sizeN_at (k := min ye (min (vExp f w) 0)) (by omega) (by omega)).2.2 ?_
  rw [a1, Nat.one_mul]
  by_cases he : 0 ≤ vExp f w
  · have hz : rsN f w = 0 := by rcases (rs_rest (f := f) (w := w)).2 with hh | hh <;> omega
    rw [hz, Nat.zero_mul]
    exact Nat.two_pow_pos _
  · have e : 2 ^ (0 - min ye (min (vExp f w) 0)).toNat = 2 ^ (-(vExp f w)).toNat * 2 ^ (vExp f w - min ye (min (vExp f w) 0)).toNat := by rw [← Nat.pow_add]; congr 1; omega
    rw [e]
    exact Nat.mul_lt_mul_of_pos_right (Nat.mod_lt _ (Nat.two_pow_pos _)) (Nat.two_pow_pos _)
end Go.LE