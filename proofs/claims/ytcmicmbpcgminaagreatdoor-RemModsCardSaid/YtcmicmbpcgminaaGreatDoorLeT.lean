import Derived.Test.YtcmicmbpcgminaaGreatDoorLeS
set_option linter.unusedVariables false
set_option linter.unusedSimpArgs false
namespace Go.LE
open Go
/-! ## to a greater format, and back -/
theorem fmt_mono {f t : Int} (h1 : 1 ≤ f) (h : f ≤ t) (h4 : t ≤ 4) : fPrec f ≤ fPrec t ∧ fEMax f ≤ fEMax t := by
  rcases f_cases (f := f) ⟨h1, by omega⟩ with rfl | rfl | rfl | rfl <;> rcases f_cases (f := t) ⟨by omega, h4⟩ with rfl | rfl | rfl | rfl <;> first | decide | omega
theorem quiet_own {f : Int} {w : BitVec 128} (h : cls f w = 2) : wthW f (wNeg f w) (payW f w) = w ∧ wthOk f (payW f w) = true := by
  have hn : wNaN f w = true := decide_eq_true (.inr h)
  have hF := nan_fits hn
  obtain ⟨hf, hfl, hfr, _, _⟩ := parts_some (f := f) (w := w) (by omega)
  have hp := p_rng f hf
  obtain ⟨k1, k2⟩ := mk_own (f := f) (w := w) (by omega)
  have hc := cls_fits hF
  rw [h] at hc
  have hfld : bFld f w = 2 * fEMax f + 1 := by
    by_cases hh : bFld f w = 2 * fEMax f + 1
    · exact hh
    · rw [if_neg hh] at hc
      split at hc
      · split at hc <;> omega
      · omega
  rw [if_pos hfld] at hc
  have hb : wdBit w (fPrec f - 2) = true := by
    split at hc
    · omega
    · split at hc
      · assumption
      · omega
  have hok : wthOk f (payW f w) = true := by
    unfold wthOk
    rw [show fOk f = true from decide_eq_true hf, Bool.true_and, decide_eq_true_eq]
    have := wLen_lt (a := payW f w) (k := (fPrec f - 2).toNat) (by omega)
    rw [show (((fPrec f - 2).toNat : Nat) : Int) = fPrec f - 2 by omega] at this
    rw [this, pay_nat hn]
    exact payN_lt f w
  refine ⟨?_, hok⟩
  have hpl := (pay_leaf hn).1 (by rw [frc_bit hf]; exact hb)
  unfold wthW
  rw [hok, cond_true, ← hpl, BitVec.sub_add_cancel]
  rw [hfl, hfr, hfld] at k2
  exact k2
/-- a greater format has it, too -/
theorem widen {f t : Int} (h4 : t ≤ 4) (hft : f ≤ t) {w : BitVec 128} (h : wFin f w = true) (hz : vSig f w ≠ 0) :
    ∃ M, M < infN t ∧ sizeN (vSig t (wM t M)).toNat (vExp t (wM t M)) (vSig f w).toNat (vExp f w) = 0 := by
  obtain ⟨hF, hf⟩ := fin_fits h
  obtain ⟨q1, q2⟩ := fmt_mono hf.1 hft h4
  have ht : 1 ≤ t ∧ t ≤ 4 := ⟨by omega, h4⟩
  have hp := p_rng f hf
  have hpt := p_rng t ht
  have he := e_rng f hf
  obtain ⟨h0, h1, _⟩ := fin_fld h
  obtain ⟨m1, m2⟩ := vMag h
  have hlt := vSig_lt h
  have hn : (vSig f w).toNat ≠ 0 := fun hh => hz (by rw [w_zero]; exact hh)
  have hb : bitN (vSig f w).toNat ≤ (fPrec f).toNat := bitN_le.2 hlt
  have hb3 := bitN_pos hn
  have hx : vExp f w = (if bFld f w > 0 then bFld f w - 1 else bFld f w) + (1 - fEMax f) - fPrec f + 1 := by
    conv => lhs; unfold vExp
    rw [h, cond_true]
  have hxe : vExp f w ≤ fEMax f - fPrec f + 1 := by rw [hx]; split <;> omega
  have hexp : expO f = 2 - fEMax f - fPrec f := rfl
  have hext : expO t = 2 - fEMax t - fPrec t := rfl
  have hpl : topQ (vSig f w).toNat (vExp f w) - fPrec t + 1 ≤ vExp f w := by unfold topQ; omega
  obtain ⟨u1, u2, _⟩ := up_exact (m := 3) (b := false) (a := (vSig f w).toNat) hpl
  have hU : rdU t 3 false (vSig f w).toNat (vExp f w) = (vSig f w).toNat * 2 ^ (vExp f w - (topQ (vSig f w).toNat (vExp f w) - fPrec t + 1)).toNat := u1
  have hult : rdU t 3 false (vSig f w).toNat (vExp f w) < 2 ^ (fPrec t).toNat := by
    rw [hU]
    have hb2 := (bitN_rng hn).2.1
    have e2 : 2 ^ (fPrec t).toNat = 2 ^ bitN (vSig f w).toNat * 2 ^ (vExp f w - (topQ (vSig f w).toNat (vExp f w) - fPrec t + 1)).toNat := by
      rw [← Nat.pow_add]; congr 1; unfold topQ; omega
    rw [e2]
    exact Nat.mul_lt_mul_of_pos_right hb2 (Nat.two_pow_pos _)
  have htwo := rdT_two ht hn (vExp f w) 3 false
  have hT : rdT t 3 false (vSig f w).toNat (vExp f w) = topQ (vSig f w).toNat (vExp f w) := by omega
  have hTm : rdT t 3 false (vSig f w).toNat (vExp f w) ≤ fEMax t := by rw [hT]; unfold topQ; omega
  have hr : restQ (vSig f w).toNat (vExp f w) (rdPl t 3 false (vSig f w).toNat (vExp f w)) = 0 := by
    have : rdPl t 3 false (vSig f w).toNat (vExp f w) ≤ vExp f w := by unfold rdPl; split <;> omega
    unfold restQ; rw [if_pos this]
  obtain ⟨r1, r2⟩ := rd_fits ht hn hTm hr
  exact ⟨_, r1, r2⟩
theorem of_fin {f : Int} (hf : 1 ≤ f ∧ f ≤ 4) {M : Nat} (hM : M < infN f) (b : Bool) : wFin f (fWordOf f b M) = true ∧ wNeg f (fWordOf f b M) = b ∧ magN f (fWordOf f b M) = M ∧ fFits f (fWordOf f b M) = true := by
  have hi := inf_pos hf
  have hF := wOf_fits hf (show M < halfN f by omega) b
  have hm := wOf_mag hf (show M < halfN f by omega) b
  refine ⟨(fin_iff _ _).2 ((cls_mag hF).2.2.1.2 (by omega)), wOf_neg hf (by omega) b, hm, hF⟩
theorem size_sgn {f : Int} (hf : 1 ≤ f ∧ f ≤ 4) {M : Nat} (hM : M < infN f) {a : Nat} {e : Int} (h : sizeN (vSig f (wM f M)).toNat (vExp f (wM f M)) a e = 0) (b : Bool) :
    sizeN (vSig f (fWordOf f b M)).toNat (vExp f (fWordOf f b M)) a e = 0 :=
  (size_of hf hM b (k := min (expO f) e) (by omega) (by omega)).1.2 ((size_of hf hM false (k := min (expO f) e) (by omega) (by omega)).1.1 h)
theorem cv_back {f t m m2 : Int} {w : BitVec 128} (h1 : 1 ≤ f) (hft : f ≤ t) (h4 : t ≤ 4) (h : 2 ≤ cls f w) (hm : isM m = true) (hm2 : isM m2 = true) :
    fFits t (cvC f t m w) = true ∧ cvCX f t m w = 0 ∧ cvC t f m2 (cvC f t m w) = w ∧ cvCX t f m2 (cvC f t m w) = 0 ∧ wNeg f w = wNeg t (cvC f t m w) := by
  have hcr := cls_rng f w
  have hF : fFits f w = true := by
    cases hh : fFits f w with
    | true => rfl
    | false => rw [show cls f w = 0 by rw [cls_pos]; exact hh] at h; omega
  have hf : 1 ≤ f ∧ f ≤ 4 := ⟨h1, by omega⟩
  have ht : 1 ≤ t ∧ t ≤ 4 := ⟨by omega, h4⟩
  obtain ⟨q1, q2⟩ := fmt_mono h1 hft h4
  have hp := p_rng f hf
  have hpt := p_rng t ht
  have hi := inf_pos hf
  have hit := inf_pos ht
  by_cases h2 : cls f w = 2
  · have hn : wNaN f w = true := decide_eq_true (.inr h2)
    have e1 : cvC f t m w = cvN f t w := by unfold cvC; rw [if_pos (.inr h2)]
    have e2 : cvCX f t m w = 0 := by unfold cvCX; rw [if_neg (by omega), if_pos (.inl h2)]
    obtain ⟨p1, p2⟩ := cv_pay hn ht
    obtain ⟨w1, w2, w3, w4⟩ := wth_nan p2 (wNeg f w)
    have w1' : cls t (cvN f t w) = 2 := w1
    have w2' : wNeg t (cvN f t w) = wNeg f w := w2
    have w3' : wNaN t (cvN f t w) = true := w3
    have w4' : payW t (cvN f t w) = cvP f t w := w4
    have hb : cvC t f m2 (cvN f t w) = cvN t f (cvN f t w) := by unfold cvC; rw [if_pos (.inr w1')]
    have hbx : cvCX t f m2 (cvN f t w) = 0 := by unfold cvCX; rw [if_neg (by omega), if_pos (.inl w1')]
    rw [e1]
    refine ⟨nan_fits w3', e2, ?_, hbx, w2'.symm⟩
    rw [hb]
    have hpp : cvP t f (cvN f t w) = payW f w := by
      refine BitVec.eq_of_toNat_eq ?_
      obtain ⟨b1, _⟩ := cv_pay w3' hf
      rw [b1, pay_nat hn]
      have e3 : payN t (cvN f t w) = payA f w (fPrec t - 2).toNat := by rw [← pay_nat w3', w4', p1]
      unfold payA
      rw [if_pos (by omega), e3]
      unfold payA
      by_cases hc : (fPrec t - 2).toNat ≤ (fPrec f - 2).toNat
      · rw [if_pos hc, show (fPrec t - 2).toNat = (fPrec f - 2).toNat by omega]
        simp
      · rw [if_neg hc, Nat.mul_div_cancel _ (Nat.two_pow_pos _)]
    unfold cvN at hpp ⊢
    rw [hpp, w2]
    exact (quiet_own h2).1
  · by_cases h3 : cls f w = 3
    · have e1 : cvC f t m w = fInf t (wNeg f w) := by unfold cvC; rw [if_neg (by omega), if_pos h3]
      have e2 : cvCX f t m w = 0 := by unfold cvCX; rw [if_neg (by omega), if_pos (.inr h3)]
      have ei : ∀ (g : Int) (s : Bool), fInf g s = fWordOf g s (infN g) := fun g s => rfl
      have hFi := wOf_fits ht (show infN t < halfN t by omega) (wNeg f w)
      have hmi := wOf_mag ht (show infN t < halfN t by omega) (wNeg f w)
      have hni := wOf_neg ht (show infN t < halfN t by omega) (wNeg f w)
      have hci : cls t (fWordOf t (wNeg f w) (infN t)) = 3 := (cls_mag hFi).2.1.2 hmi
      rw [e1, ei]
      refine ⟨hFi, e2, ?_, ?_, hni.symm⟩
      · unfold cvC
        rw [if_neg (by omega), if_pos hci, hni, ei]
        have := w_own hF
        rw [(cls_mag hF).2.1.1 h3] at this
        exact this.symm
      · unfold cvCX
        rw [if_neg (by omega), if_pos (.inr hci)]
    · have hfin : wFin f w = true := (fin_iff _ _).2 (by omega)
      have e1 : cvC f t m w = cvF f t m w := by unfold cvC; rw [if_neg (by omega), if_neg h3]
      have e2 : cvCX f t m w = cvFX f t m w := by unfold cvCX; rw [if_neg (by omega), if_neg (by omega)]
      have back : ∀ u : BitVec 128, wFin t u = true → cvC t f m2 u = cvF t f m2 u ∧ cvCX t f m2 u = cvFX t f m2 u := fun u hu => by
        have hc := (fin_iff t u).1 hu
        unfold cvC cvCX
        rw [if_neg (by omega), if_neg (by omega), if_neg (by omega), if_neg (by omega)]
        exact ⟨rfl, rfl⟩
      obtain ⟨f1, f2⟩ := fin_round (t := t) hfin ht hm
      by_cases hz : vSig f w = 0
      · obtain ⟨g1, g2⟩ := f2 hz
        have en : ∀ (g : Int) (s : Bool), fNought g s = fWordOf g s 0 := fun g s => rfl
        obtain ⟨o1, o2, o3, o4⟩ := of_fin ht (M := 0) (by omega) (wNeg f w)
        have hvz : vSig t (fWordOf t (wNeg f w) 0) = 0 := by rw [w_zero]; exact (sig_zero o1).2 o3
        obtain ⟨b1, b2⟩ := back _ o1
        obtain ⟨_, k2⟩ := fin_round (t := f) o1 hf hm2
        obtain ⟨k3, k4⟩ := k2 hvz
        rw [e1, e2, g1, g2, en]
        refine ⟨o4, rfl, ?_, ?_, o2.symm⟩
        · rw [b1, k3, o2, en]
          have := w_own hF
          rw [(cls_mag hF).2.2.2.1 ((vSig_zero hfin).1 hz)] at this
          exact this.symm
        · rw [b2, k4]
      · obtain ⟨g1, g2⟩ := f1 hz
        have hn : (vSig f w).toNat ≠ 0 := fun hh => hz (by rw [w_zero]; exact hh)
        obtain ⟨M, w1, w2⟩ := widen h4 hft hfin hz
        obtain ⟨r1, r2⟩ := rd_exact ht hn w1 w2 m (wNeg f w)
        obtain ⟨o1, o2, o3, o4⟩ := of_fin ht w1 (wNeg f w)
        have hs := size_sgn ht w1 w2 (wNeg f w)
        have hun := size_nz hs hn
        have huz : vSig t (fWordOf t (wNeg f w) M) ≠ 0 := fun hh => hun (by rw [w_zero] at hh; exact hh)
        have hu : rdW t m (wNeg f w) (vSig f w).toNat (vExp f w) = fWordOf t (wNeg f w) M := by unfold rdW; rw [r1]
        obtain ⟨b1, b2⟩ := back _ o1
        obtain ⟨k1, _⟩ := fin_round (t := f) o1 hf hm2
        obtain ⟨k3, k4⟩ := k1 huz
        obtain ⟨s1, s2⟩ := rd_same hun hn hs f m2 (wNeg f w)
        obtain ⟨v1, v2⟩ := rd_own hfin hz m2 (wNeg f w)
        rw [e1, e2, g1, g2, hu, r2]
        refine ⟨o4, rfl, ?_, ?_, o2.symm⟩
        · rw [b1, k3, o2]
          unfold rdW
          rw [s1, v1]
          exact (w_own hF).symm
        · rw [b2, k4, o2, s2, v2]
end Go.LE