import Derived.Test.YtghinobkekkopaaDoorLeT
set_option linter.unusedVariables false
set_option linter.unusedSimpArgs false
namespace Go.LE
open Go
/-! ## rounding keeps the order -/
theorem s_tr {x a b : Nat} {q g k : Int} (h : sizeN a g b k ≤ 0) : (sizeN x q a g ≤ 0 → sizeN x q b k ≤ 0) ∧ (sizeN x q a g < 0 → sizeN x q b k < 0) := by
  have k1 : min q (min g k) ≤ q := by omega
  have k2 : min q (min g k) ≤ g := by omega
  have k3 : min q (min g k) ≤ k := by omega
  rw [sizeN_le k2 k3] at h
  refine ⟨fun h1 => ?_, fun h1 => ?_⟩
  · rw [sizeN_le k1 k2] at h1
    rw [sizeN_le k1 k3]
    exact Nat.le_trans h1 h
  · rw [(sizeN_at k1 k2).2] at h1
    rw [(sizeN_at k1 k3).2]
    exact Nat.lt_of_lt_of_le h1 h
theorem top_mono {a b : Nat} {g k : Int} (ha : a ≠ 0) (hb : b ≠ 0) (h : sizeN a g b k ≤ 0) : topQ a g ≤ topQ b k := by
  unfold sizeN at h
  rw [if_neg (by omega)] at h
  unfold topQ
  split at h <;> omega
theorem grows_mono {m : Int} {neg odd : Bool} {r s : Int} (h0 : 0 ≤ r) (h1 : r ≤ s) (h2 : s ≤ 3) (h : growsM m neg odd r = true) : growsM m neg odd s = true := by
  have hr : r = 0 ∨ r = 1 ∨ r = 2 ∨ r = 3 := by omega
  have hs : s = 0 ∨ s = 1 ∨ s = 2 ∨ s = 3 := by omega
  unfold growsM at *
  rcases hr with rfl | rfl | rfl | rfl <;> rcases hs with rfl | rfl | rfl | rfl <;> first | omega | (simp at h ⊢; try (repeat' split at h) <;> simp_all)
theorem up_mono {a b : Nat} {g k p m : Int} {neg : Bool} (h : sizeN a g b k ≤ 0) : upQ m neg a g p ≤ upQ m neg b k p := by
  have hF : floorQ a g p ≤ floorQ b k p := floorQ_le.1 ((s_tr h).1 (floorQ_le.2 (Nat.le_refl _)))
  unfold upQ
  by_cases hlt : floorQ a g p < floorQ b k p
  · cases growsM m neg (oddN (floorQ a g p)) (restQ a g p) <;> simp only [cond_true, cond_false] <;> omega
  · have he : floorQ a g p = floorQ b k p := by omega
    have r1 := restQ_rng a g p
    have r2 := restQ_rng b k p
    have hr : restQ a g p ≤ restQ b k p := by
      by_cases h0 : restQ a g p = 0
      · omega
      · have n1 : sizeN (floorQ a g p) p a g < 0 := by
          have q1 : sizeN (floorQ a g p) p a g ≤ 0 := floorQ_le.2 (Nat.le_refl _)
          have q2 : sizeN (floorQ a g p) p a g ≠ 0 := fun hh => h0 (floorQ_eq.1 hh)
          omega
        have n2 := (s_tr h).2 n1
        have n3 : restQ b k p ≠ 0 := fun hh => by
          have := floorQ_eq.2 hh
          rw [← he] at this
          omega
        have e1 := floorQ_half h0
        have e2 := floorQ_half n3
        rw [← he] at e2
        obtain ⟨t1, t2⟩ := s_tr (x := 2 * floorQ a g p + 1) (q := p - 1) h
        omega
    rw [← he]
    cases hg : growsM m neg (oddN (floorQ a g p)) (restQ a g p) with
    | false => simp only [cond_false]; omega
    | true => rw [grows_mono r1.1 hr r2.2 hg]; exact Nat.le_refl _
theorem rd_mono {f : Int} (hf : 1 ≤ f ∧ f ≤ 4) {a b : Nat} {g k m : Int} {neg : Bool} (ha : a ≠ 0) (hb : b ≠ 0) (h : sizeN a g b k ≤ 0) : rdMag f m neg a g ≤ rdMag f m neg b k := by
  have ht := top_mono ha hb h
  have ta := rdT_two hf ha g m neg
  have tb := rdT_two hf hb k m neg
  have ua := rdU_rng hf ha g m neg
  have ub := rdU_rng hf hb k m neg
  have hU : topQ a g = topQ b k → rdU f m neg a g ≤ rdU f m neg b k := fun he => by
    unfold rdU
    rw [he]
    exact up_mono h
  have hTT : rdT f m neg a g ≤ rdT f m neg b k := by
    by_cases he : topQ a g = topQ b k
    · have := hU he
      omega
    · omega
  by_cases hob : fEMax f < rdT f m neg b k
  · by_cases hoa : fEMax f < rdT f m neg a g
    · unfold rdMag; rw [if_pos hoa, if_pos hob]; exact Nat.le_refl _
    · have hlt : rdMag f m neg a g < infN f := by
        by_cases hs : rdT f m neg a g < 1 - fEMax f
        · exact (rd_sub hf ha hs).2.2.1
        · exact (rd_normal hf ha (by omega) (by omega)).1
      have : infN f - 1 ≤ rdMag f m neg b k := by
        unfold rdMag; rw [if_pos hob]
        cases overInf m neg <;> simp only [cond_true, cond_false] <;> omega
      omega
  · by_cases hsb : rdT f m neg b k < 1 - fEMax f
    · rw [(rd_sub hf ha (show rdT f m neg a g < 1 - fEMax f by omega)).1, (rd_sub hf hb hsb).1]
      exact up_mono h
    · obtain ⟨_, _, b3, b4⟩ := rd_normal hf hb (g := k) (m := m) (neg := neg) (by omega) (by omega)
      have two := two_prec hf
      have hQ : (0 : Int) ≤ ((2 ^ (fPrec f - 1).toNat : Nat) : Int) := Int.natCast_nonneg _
      have hmb : ∃ v : Int, ((2 ^ (fPrec f - 1).toNat : Nat) : Int) ≤ v ∧ ((rdMag f m neg b k : Nat) : Int) = (rdT f m neg b k - (1 - fEMax f)) * ((2 ^ (fPrec f - 1).toNat : Nat) : Int) + v ∧ (rdU f m neg b k < 2 ^ (fPrec f).toNat → v = rdU f m neg b k) := by
        rcases tb with ⟨t1, _⟩ | ⟨t1, _⟩
        · exact ⟨_, by have := ub.1; omega, b3 t1, fun _ => rfl⟩
        · exact ⟨_, Int.le_refl _, b4 t1, fun hh => by omega⟩
      obtain ⟨vb, vb1, vb2, vb3⟩ := hmb
      by_cases hsa : rdT f m neg a g < 1 - fEMax f
      · have s2 := (rd_sub hf ha hsa).2.1
        have hn := Int.mul_nonneg (show 0 ≤ rdT f m neg b k - (1 - fEMax f) by omega) hQ
        omega
      · obtain ⟨_, _, a3, a4⟩ := rd_normal hf ha (g := g) (m := m) (neg := neg) (by omega) (by omega)
        have hma : ∃ v : Int, v < 2 * ((2 ^ (fPrec f - 1).toNat : Nat) : Int) ∧ ((rdMag f m neg a g : Nat) : Int) = (rdT f m neg a g - (1 - fEMax f)) * ((2 ^ (fPrec f - 1).toNat : Nat) : Int) + v ∧ (rdU f m neg a g < 2 ^ (fPrec f).toNat → v = rdU f m neg a g) ∧ (rdU f m neg a g = 2 ^ (fPrec f).toNat → v = ((2 ^ (fPrec f - 1).toNat : Nat) : Int)) := by
          rcases ta with ⟨t1, _⟩ | ⟨t1, _⟩
          · exact ⟨_, by omega, a3 t1, fun _ => rfl, fun hh => by omega⟩
          · exact ⟨_, by have := Nat.two_pow_pos (fPrec f - 1).toNat; omega, a4 t1, fun hh => by omega, fun _ => rfl⟩
        obtain ⟨va, va1, va2, va3, va4⟩ := hma
        by_cases hTe : rdT f m neg a g = rdT f m neg b k
        · rw [hTe] at va2
          have : va ≤ vb := by
            rcases ta with ⟨t1, t2⟩ | ⟨t1, t2⟩
            · rcases tb with ⟨t3, t4⟩ | ⟨t3, t4⟩
              · have := hU (by omega)
                rw [va3 t1, vb3 t3]; omega
              · omega
            · rw [va4 t1]; exact vb1
          omega
        · have hm := Int.mul_le_mul_of_nonneg_right (show rdT f m neg a g - (1 - fEMax f) + 1 ≤ rdT f m neg b k - (1 - fEMax f) by omega) hQ
          rw [Int.add_mul, Int.one_mul] at hm
          omega
end Go.LE
namespace Go.LE
open Go
/-! ## texts that are ordered as numbers are -/
theorem tl_loop (bs : ByteArray) : ∀ n i r, bs.size - i = n → ByteArray.toList.loop bs i r = r.reverse ++ bs.data.toList.drop i := by
  intro n
  induction n with
  | zero =>
    intro i r h
    rw [ByteArray.toList.loop.eq_def, if_neg (by omega), List.drop_eq_nil_of_le (by show bs.data.size ≤ i; have : bs.data.size = bs.size := rfl; omega), List.append_nil]
  | succ n ih =>
    intro i r h
    have hi : i < bs.data.toList.length := by show i < bs.data.size; have : bs.data.size = bs.size := rfl; omega
    rw [ByteArray.toList.loop.eq_def, if_pos (by omega), ih (i + 1) _ (by omega), List.drop_eq_getElem_cons hi, List.reverse_cons, List.append_assoc]
    have e : bs.get! i = bs.data.toList[i] := by
      show bs.data[i]! = _
      rw [getElem!_pos bs.data i hi, Array.getElem_toList]
    rw [e]
    rfl
theorem ba_list (a : ByteArray) : a.toList = a.data.toList := by
  show ByteArray.toList.loop a 0 [] = _
  rw [tl_loop a _ 0 [] rfl]
  rfl
theorem ba_ext {a b : ByteArray} (h : a.data.toList = b.data.toList) : a = b := by
  cases a; cases b
  congr 1
  exact Array.ext' h
theorem ba_app (a b : ByteArray) : (a ++ b).data.toList = a.data.toList ++ b.data.toList := by
  rw [ByteArray.toList_data_append]
def strLeR (a b : ByteArray) : Bool := Go.Op.bytesLess a.toList b.toList || a.toList == b.toList
def chB (b : Bool) : UInt8 := bif b then 49 else 48
/-- the n lowest digits, the highest first -/
def bitsL (A : Nat) (neg : Bool) : Nat → List UInt8
  | 0 => []
  | n + 1 => chB (A.testBit n != neg) :: bitsL A neg n
theorem mod_bit (A n : Nat) : A % 2 ^ (n + 1) = A % 2 ^ n + (bif A.testBit n then 2 ^ n else 0) := by
  rw [Nat.mod_pow_succ, Nat.testBit_eq_decide_div_mod_eq]
  have := Nat.mod_two_eq_zero_or_one (A / 2 ^ n)
  rcases this with h | h <;> simp [h]
theorem bits_lt (A B : Nat) (neg : Bool) : ∀ n, Go.Op.bytesLess (bitsL A neg n) (bitsL B neg n) = (bif neg then decide (B % 2 ^ n < A % 2 ^ n) else decide (A % 2 ^ n < B % 2 ^ n)) := by
  intro n
  induction n with
  | zero => cases neg <;> simp [bitsL, Go.Op.bytesLess, Nat.mod_one]
  | succ n ih =>
    have ha := mod_bit A n
    have hb := mod_bit B n
    have la : A % 2 ^ n < 2 ^ n := Nat.mod_lt _ (Nat.two_pow_pos _)
    have lb : B % 2 ^ n < 2 ^ n := Nat.mod_lt _ (Nat.two_pow_pos _)
    rw [ha, hb]
    unfold bitsL Go.Op.bytesLess
    rw [ih]
    cases A.testBit n <;> cases B.testBit n <;> cases neg <;> simp [chB] <;> omega
theorem bits_eq (A B : Nat) (neg : Bool) : ∀ n, A % 2 ^ n = B % 2 ^ n → bitsL A neg n = bitsL B neg n := by
  intro n
  induction n with
  | zero => intro _; rfl
  | succ n ih =>
    intro h
    have ha := mod_bit A n
    have hb := mod_bit B n
    have la : A % 2 ^ n < 2 ^ n := Nat.mod_lt _ (Nat.two_pow_pos _)
    have lb : B % 2 ^ n < 2 ^ n := Nat.mod_lt _ (Nat.two_pow_pos _)
    rw [ha, hb] at h
    unfold bitsL
    cases hA : A.testBit n <;> cases hB : B.testBit n <;> simp only [hA, hB, cond_true, cond_false] at h <;> first | (exfalso; omega) | rw [ih (by omega)]
theorem bits_le {A B : Nat} {neg : Bool} {n : Nat} (h : (neg = false ∧ A % 2 ^ n ≤ B % 2 ^ n) ∨ (neg = true ∧ B % 2 ^ n ≤ A % 2 ^ n)) : (Go.Op.bytesLess (bitsL A neg n) (bitsL B neg n) || bitsL A neg n == bitsL B neg n) = true := by
  by_cases he : A % 2 ^ n = B % 2 ^ n
  · rw [bits_eq A B neg n he]; simp
  · rw [bits_lt]
    rcases h with ⟨rfl, h⟩ | ⟨rfl, h⟩
    · simp; left; omega
    · simp; left; omega
/-- where a word stands, as a text -/
def plS (f : Int) (w : BitVec 128) : ByteArray :=
  if magN f w = 0 then bytesOf [98] else bif wNeg f w then bytesOf (97 :: bitsL (magN f w) true 128) else bytesOf (99 :: bitsL (magN f w) false 128)
def sgM (f : Int) (w : BitVec 128) : Int := bif wNeg f w then -(magN f w : Int) else (magN f w : Int)
theorem by_list (l : List UInt8) : (bytesOf l).data.toList = l := rfl
theorem pl_le {f : Int} {x y : BitVec 128} (hx : magN f x < 2 ^ 128) (hy : magN f y < 2 ^ 128) (h : sgM f x ≤ sgM f y) : strLeR (plS f x) (plS f y) = true := by
  unfold strLeR
  rw [ba_list, ba_list]
  unfold plS
  unfold sgM at h
  have mx := Nat.mod_eq_of_lt hx
  have my := Nat.mod_eq_of_lt hy
  by_cases zx : magN f x = 0
  · rw [if_pos zx]
    by_cases zy : magN f y = 0
    · rw [if_pos zy]; simp
    · rw [if_neg zy]
      cases hn : wNeg f y with
      | false => simp [by_list, Go.Op.bytesLess]
      | true => rw [hn] at h; cases hm : wNeg f x <;> rw [hm] at h <;> simp only [cond_true, cond_false] at h <;> omega
  · rw [if_neg zx]
    by_cases zy : magN f y = 0
    · rw [if_pos zy]
      cases hn : wNeg f x with
      | true => simp [by_list, Go.Op.bytesLess]
      | false => rw [hn] at h; cases hm : wNeg f y <;> rw [hm] at h <;> simp only [cond_true, cond_false] at h <;> omega
    · rw [if_neg zy]
      cases hn : wNeg f x <;> cases hm : wNeg f y <;> rw [hn, hm] at h <;> simp only [cond_true, cond_false] at h ⊢
      · have := bits_le (A := magN f x) (B := magN f y) (neg := false) (n := 128) (.inl ⟨rfl, by omega⟩)
        simpa [by_list, Go.Op.bytesLess] using this
      · omega
      · simp [by_list, Go.Op.bytesLess]
      · have := bits_le (A := magN f x) (B := magN f y) (neg := true) (n := 128) (.inr ⟨rfl, by omega⟩)
        simpa [by_list, Go.Op.bytesLess] using this
end Go.LE
namespace Go.LE
open Go
/-! ## of two numbers, rounded, the one that isn't above isn't above either -/
theorem size_anti {a b : Nat} {e g : Int} : (sizeN a e b g < 0 ↔ 0 < sizeN b g a e) := by
  obtain ⟨h1, h2⟩ := sizeN_at (a := a) (b := b) (e := e) (g := g) (k := min e g) (by omega) (by omega)
  obtain ⟨h3, h4⟩ := sizeN_at (a := b) (b := a) (e := g) (g := e) (k := min e g) (by omega) (by omega)
  rw [h2]
  omega
theorem cmp7_le {b c : Bool} {s t : Nat} {e g : Int} : cmp7 b s e c t g ≤ 0 ↔ (sgN b s < sgN c t ∨ (sgN b s = sgN c t ∧ sgN b s * sizeN s e t g ≤ 0)) := by
  unfold cmp7
  by_cases h : sgN b s = sgN c t
  · rw [if_neg (by omega)]
    omega
  · rw [if_pos h]
    split <;> omega
theorem cmp7_ge {b c : Bool} {s t : Nat} {e g : Int} (h : 0 < cmp7 b s e c t g) : cmp7 c t g b s e ≤ 0 := by
  have h1 : ¬ (sgN b s < sgN c t ∨ (sgN b s = sgN c t ∧ sgN b s * sizeN s e t g ≤ 0)) := fun hh => by
    have := cmp7_le.2 hh
    omega
  refine cmp7_le.2 ?_
  by_cases he : sgN b s = sgN c t
  · right
    refine ⟨he.symm, ?_⟩
    have h2 : 0 < sgN b s * sizeN s e t g := by
      by_cases h2 : 0 < sgN b s * sizeN s e t g
      · exact h2
      · exact absurd (.inr ⟨he, by omega⟩) h1
    rw [← he]
    have a1 := size_anti (a := s) (b := t) (e := e) (g := g)
    have a2 := size_anti (a := t) (b := s) (e := g) (g := e)
    have hr := sgN_rng b s
    obtain hq | hq | hq : sgN b s = -1 ∨ sgN b s = 0 ∨ sgN b s = 1 := by omega
    · rw [hq] at h2 ⊢; omega
    · rw [hq]; omega
    · rw [hq] at h2 ⊢; omega
  · left; omega
def rmN (f m : Int) (b : Bool) (e : Int) (s : W) : Nat := if s = 0 then 0 else rdMag f m b s.toNat e
theorem rd_inf {f : Int} (hf : 1 ≤ f ∧ f ≤ 4) {a : Nat} (ha : a ≠ 0) (g m : Int) (neg : Bool) : rdMag f m neg a g ≤ infN f := by
  by_cases hoa : fEMax f < rdT f m neg a g
  · unfold rdMag; rw [if_pos hoa]
    cases overInf m neg <;> simp only [cond_true, cond_false] <;> omega
  · by_cases hs : rdT f m neg a g < 1 - fEMax f
    · have := (rd_sub hf ha hs).2.2.1; omega
    · have := (rd_normal hf ha (g := g) (m := m) (neg := neg) (by omega) (by omega)).1; omega
theorem rW_sg {f m : Int} {b : Bool} {e : Int} {s : W} (ho : rOk f m e s false = true) : sgM f (rW f m b e s false) = (bif b then -(rmN f m b e s : Int) else (rmN f m b e s : Int)) := by
  have hf : 1 ≤ f ∧ f ≤ 4 := by
    unfold rOk at ho
    simp only [Bool.and_eq_true] at ho
    exact of_decide_eq_true ho.1
  have hi := inf_pos hf
  have hw : rW f m b e s false = fWordOf f b (rmN f m b e s) ∧ rmN f m b e s < halfN f := by
    unfold rW rmN
    rw [ho, cond_true]
    by_cases hz : s = 0
    · rw [if_pos hz, if_pos hz]; exact ⟨rfl, by omega⟩
    · rw [if_neg hz, if_neg hz]
      have := rd_inf hf (show s.toNat ≠ 0 from fun hh => hz (by rw [w_zero]; exact hh)) e m b
      exact ⟨rfl, by omega⟩
  unfold sgM
  rw [hw.1, wOf_mag hf hw.2, wOf_neg hf hw.2]
theorem rd_le {f m : Int} {b c : Bool} {e g : Int} {s t : W} (h1 : rOk f m e s false = true) (h2 : rOk f m g t false = true) (h : cmp7 b s.toNat e c t.toNat g ≤ 0) :
    sgM f (rW f m b e s false) ≤ sgM f (rW f m c g t false) := by
  have hf : 1 ≤ f ∧ f ≤ 4 := by
    unfold rOk at h1
    simp only [Bool.and_eq_true] at h1
    exact of_decide_eq_true h1.1
  rw [rW_sg h1, rW_sg h2]
  rw [cmp7_le] at h
  have zs : s.toNat = 0 ↔ s = 0 := by rw [w_zero]
  have zt : t.toNat = 0 ↔ t = 0 := by rw [w_zero]
  have ps := Int.natCast_nonneg (rmN f m b e s)
  have pt := Int.natCast_nonneg (rmN f m c g t)
  have es : s = 0 → rmN f m b e s = 0 := fun hh => by unfold rmN; rw [if_pos hh]
  have et : t = 0 → rmN f m c g t = 0 := fun hh => by unfold rmN; rw [if_pos hh]
  by_cases hs : s = 0
  · have e1 := es hs
    have e2 : sgN b s.toNat = 0 := by unfold sgN; rw [if_pos (zs.2 hs)]
    by_cases ht : t = 0
    · have e3 := et ht
      rw [e1, e3]; cases b <;> cases c <;> decide
    · have e4 : sgN c t.toNat = bif c then -1 else 1 := by unfold sgN; rw [if_neg (fun hh => ht (zt.1 hh))]
      rw [e2, e4] at h
      rw [e1]
      cases c
      · cases b <;> simp only [cond_true, cond_false] <;> omega
      · simp only [cond_true] at h; omega
  · have n1 : s.toNat ≠ 0 := fun hh => hs (zs.1 hh)
    have e2 : sgN b s.toNat = bif b then -1 else 1 := by unfold sgN; rw [if_neg n1]
    by_cases ht : t = 0
    · have e3 := et ht
      have e4 : sgN c t.toNat = 0 := by unfold sgN; rw [if_pos (zt.2 ht)]
      rw [e2, e4] at h
      rw [e3]
      cases b
      · simp only [cond_false] at h; omega
      · cases c <;> simp only [cond_true, cond_false] <;> omega
    · have n2 : t.toNat ≠ 0 := fun hh => ht (zt.1 hh)
      have e4 : sgN c t.toNat = bif c then -1 else 1 := by unfold sgN; rw [if_neg n2]
      rw [e2, e4] at h
      have r1 : rmN f m b e s = rdMag f m b s.toNat e := by unfold rmN; rw [if_neg hs]
      have r2 : rmN f m c g t = rdMag f m c t.toNat g := by unfold rmN; rw [if_neg ht]
      cases b <;> cases c <;> simp only [cond_true, cond_false] at h ⊢
      · have := rd_mono hf n1 n2 (m := m) (neg := false) (show sizeN s.toNat e t.toNat g ≤ 0 by omega)
        omega
      · omega
      · omega
      · have a2 := size_anti (a := s.toNat) (b := t.toNat) (e := e) (g := g)
        have := rd_mono hf n2 n1 (m := m) (neg := true) (show sizeN t.toNat g s.toNat e ≤ 0 by omega)
        omega
theorem mag_wide (f : Int) (w : BitVec 128) : magN f w < 2 ^ 128 := Nat.lt_of_le_of_lt (Nat.mod_le _ _) w.isLt
end Go.LE