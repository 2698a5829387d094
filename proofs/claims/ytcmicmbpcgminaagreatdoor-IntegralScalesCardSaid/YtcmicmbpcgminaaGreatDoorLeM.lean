import Derived.Test.YtcmicmbpcgminaaGreatDoorLeC
set_option linter.unusedVariables false
set_option linter.unusedSimpArgs false
namespace Go.LE
open Go

abbrev W := BitVec 512

/-! ## limbs -/
theorem limbR_def (b : W) (i : Nat) : limbR b i = ((b.toNat >>> (64 * i) % 2 ^ 64 : Nat) : Int) := by
  unfold limbR; rw [Nat.shiftRight_eq_div_pow]
theorem limbR_nonneg (b : W) (i : Nat) : 0 ≤ limbR b i := Int.natCast_nonneg _
theorem limbR_lt (b : W) (i : Nat) : limbR b i < 18446744073709551616 := by
  unfold limbR
  have := Nat.mod_lt (b.toNat / 2 ^ (64 * i)) (show 0 < 2 ^ 64 by decide)
  omega
theorem limbR_bit (b : W) (i t : Nat) : (limbR b i).toNat.testBit t = (decide (t < 64) && b.toNat.testBit (64 * i + t)) := by
  rw [limbR_def, Int.toNat_natCast, Nat.testBit_mod_two_pow, Nat.testBit_shiftRight]
theorem limb_step (n i : Nat) : n / 2 ^ (64 * (i + 1)) = n / 2 ^ (64 * i) / 18446744073709551616 := by
  rw [Nat.div_div_eq_div_mul, Nat.mul_succ, Nat.pow_add]
theorem limb_sum (b : W) : (b.toNat : Int) = limbR b 0 + 18446744073709551616 * (limbR b 1 + 18446744073709551616 * (limbR b 2 + 18446744073709551616 * (limbR b 3 + 18446744073709551616 * (limbR b 4 + 18446744073709551616 * (limbR b 5 + 18446744073709551616 * (limbR b 6 + 18446744073709551616 * (limbR b 7))))))) := by
  have hlt := b.isLt
  rw [p512 (n := 512) rfl] at hlt
  obtain ⟨q, hq⟩ : ∃ q : Nat → Nat, ∀ i, q i = b.toNat / 2 ^ (64 * i) := ⟨_, fun _ => rfl⟩
  have hl : ∀ i, limbR b i = ((q i % 18446744073709551616 : Nat) : Int) := fun i => by unfold limbR; rw [hq]
  have hs : ∀ i, q (i + 1) = q i / 18446744073709551616 := fun i => by rw [hq, hq, limb_step]
  have h0 : q 0 = b.toNat := by rw [hq]; simp
  simp only [hl]
  have e1 : q 1 = q 0 / 18446744073709551616 := hs 0
  have e2 : q 2 = q 1 / 18446744073709551616 := hs 1
  have e3 : q 3 = q 2 / 18446744073709551616 := hs 2
  have e4 : q 4 = q 3 / 18446744073709551616 := hs 3
  have e5 : q 5 = q 4 / 18446744073709551616 := hs 4
  have e6 : q 6 = q 5 / 18446744073709551616 := hs 5
  have e7 : q 7 = q 6 / 18446744073709551616 := hs 6
  clear hs hl hq
  omega
theorem ofLimbs_toNat {a b c d e f g h : Int} (ha : 0 ≤ a ∧ a < 18446744073709551616) (hb : 0 ≤ b ∧ b < 18446744073709551616) (hc : 0 ≤ c ∧ c < 18446744073709551616) (hd : 0 ≤ d ∧ d < 18446744073709551616) (he : 0 ≤ e ∧ e < 18446744073709551616) (hf : 0 ≤ f ∧ f < 18446744073709551616) (hg : 0 ≤ g ∧ g < 18446744073709551616) (hh : 0 ≤ h ∧ h < 18446744073709551616) :
    ((ofLimbsR a b c d e f g h).toNat : Int) = a + 18446744073709551616 * (b + 18446744073709551616 * (c + 18446744073709551616 * (d + 18446744073709551616 * (e + 18446744073709551616 * (f + 18446744073709551616 * (g + 18446744073709551616 * (h))))))) := by
  obtain ⟨a, rfl⟩ := Int.eq_ofNat_of_zero_le ha.1
  obtain ⟨b, rfl⟩ := Int.eq_ofNat_of_zero_le hb.1
  obtain ⟨c, rfl⟩ := Int.eq_ofNat_of_zero_le hc.1
  obtain ⟨d, rfl⟩ := Int.eq_ofNat_of_zero_le hd.1
  obtain ⟨e, rfl⟩ := Int.eq_ofNat_of_zero_le he.1
  obtain ⟨f, rfl⟩ := Int.eq_ofNat_of_zero_le hf.1
  obtain ⟨g, rfl⟩ := Int.eq_ofNat_of_zero_le hg.1
  obtain ⟨h, rfl⟩ := Int.eq_ofNat_of_zero_le hh.1
  unfold ofLimbsR
  have hN := horner_lt (n0 := a) (n1 := b) (n2 := c) (n3 := d) (n4 := e) (n5 := f) (n6 := g) (n7 := h) (by omega) (by omega) (by omega) (by omega) (by omega) (by omega) (by omega) (by omega)
  simp only [Int.toNat_natCast]
  rw [BitVec.toNat_ofNat, p512 (n := 512) rfl, Nat.mod_eq_of_lt hN]
  simp
theorem ofLimbs_limbs (x : W) : ofLimbsR (limbR x 0) (limbR x 1) (limbR x 2) (limbR x 3) (limbR x 4) (limbR x 5) (limbR x 6) (limbR x 7) = x := by
  apply BitVec.eq_of_toNat_eq
  have h := limb_sum x
  have := ofLimbs_toNat ⟨limbR_nonneg x 0, limbR_lt x 0⟩ ⟨limbR_nonneg x 1, limbR_lt x 1⟩ ⟨limbR_nonneg x 2, limbR_lt x 2⟩ ⟨limbR_nonneg x 3, limbR_lt x 3⟩ ⟨limbR_nonneg x 4, limbR_lt x 4⟩ ⟨limbR_nonneg x 5, limbR_lt x 5⟩ ⟨limbR_nonneg x 6, limbR_lt x 6⟩ ⟨limbR_nonneg x 7, limbR_lt x 7⟩
  omega
/-- a wide from what its limbs are -/
theorem ofLimbs_eq {x : W} {a b c d e f g h : Int} (h0 : a = limbR x 0) (h1 : b = limbR x 1) (h2 : c = limbR x 2) (h3 : d = limbR x 3) (h4 : e = limbR x 4) (h5 : f = limbR x 5) (h6 : g = limbR x 6) (h7 : h = limbR x 7) :
    ofLimbsR a b c d e f g h = x := by subst h0 h1 h2 h3 h4 h5 h6 h7; exact ofLimbs_limbs x

/-- the limbs of what has been made of limbs -/
theorem limb_ofLimbs {a b c d e f g h : Int} (ha : 0 ≤ a ∧ a < 18446744073709551616) (hb : 0 ≤ b ∧ b < 18446744073709551616) (hc : 0 ≤ c ∧ c < 18446744073709551616) (hd : 0 ≤ d ∧ d < 18446744073709551616)
    (he : 0 ≤ e ∧ e < 18446744073709551616) (hf : 0 ≤ f ∧ f < 18446744073709551616) (hg : 0 ≤ g ∧ g < 18446744073709551616) (hh : 0 ≤ h ∧ h < 18446744073709551616) :
    limbR (ofLimbsR a b c d e f g h) 0 = a ∧ limbR (ofLimbsR a b c d e f g h) 1 = b ∧ limbR (ofLimbsR a b c d e f g h) 2 = c ∧ limbR (ofLimbsR a b c d e f g h) 3 = d ∧
    limbR (ofLimbsR a b c d e f g h) 4 = e ∧ limbR (ofLimbsR a b c d e f g h) 5 = f ∧ limbR (ofLimbsR a b c d e f g h) 6 = g ∧ limbR (ofLimbsR a b c d e f g h) 7 = h := by
  have h1 := limb_sum (ofLimbsR a b c d e f g h)
  rw [ofLimbs_toNat ha hb hc hd he hf hg hh] at h1
  generalize hx : ofLimbsR a b c d e f g h = x at *
  have n0 := limbR_nonneg x 0; have m0 := limbR_lt x 0
  have n1 := limbR_nonneg x 1; have m1 := limbR_lt x 1
  have n2 := limbR_nonneg x 2; have m2 := limbR_lt x 2
  have n3 := limbR_nonneg x 3; have m3 := limbR_lt x 3
  have n4 := limbR_nonneg x 4; have m4 := limbR_lt x 4
  have n5 := limbR_nonneg x 5; have m5 := limbR_lt x 5
  have n6 := limbR_nonneg x 6; have m6 := limbR_lt x 6
  have n7 := limbR_nonneg x 7; have m7 := limbR_lt x 7
  omega

/-! ## tests -/
theorem imp_f {b : Bool} {X : Prop} (h : b = true → X) : b = false ∨ X := by cases b; exact .inl rfl; exact .inr (h rfl)
theorem imp_t {b : Bool} {X : Prop} (h : b = false → X) : b = true ∨ X := by cases b; exact .inr (h rfl); exact .inl rfl
theorem c_eql_t (x y : Int) : (cmpR .eql x y = true) = (x = y) := by simp [cmpR]
theorem c_eql_f (x y : Int) : (cmpR .eql x y = false) = (x ≠ y) := by simp [cmpR]
theorem c_neq_t (x y : Int) : (cmpR .neq x y = true) = (x ≠ y) := by simp [cmpR]
theorem c_neq_f (x y : Int) : (cmpR .neq x y = false) = (x = y) := by simp [cmpR]
theorem c_lss_t (x y : Int) : (cmpR .lss x y = true) = (x < y) := by simp [cmpR]
theorem c_lss_f (x y : Int) : (cmpR .lss x y = false) = (y ≤ x) := by simp [cmpR]
theorem c_leq_t (x y : Int) : (cmpR .leq x y = true) = (x ≤ y) := by simp [cmpR]
theorem c_leq_f (x y : Int) : (cmpR .leq x y = false) = (y < x) := by simp [cmpR]
theorem c_gtr_t (x y : Int) : (cmpR .gtr x y = true) = (y < x) := by simp [cmpR]
theorem c_gtr_f (x y : Int) : (cmpR .gtr x y = false) = (x ≤ y) := by simp [cmpR]
theorem c_geq_t (x y : Int) : (cmpR .geq x y = true) = (y ≤ x) := by simp [cmpR]
theorem c_geq_f (x y : Int) : (cmpR .geq x y = false) = (x < y) := by simp [cmpR]
theorem r_ofLimbs : real.ofLimbs = ofLimbsR := rfl
theorem r_mkWord : real.mkWord = mkWordR := rfl

/-! ## numbers of the machine -/
theorem wrap_u64 (n : Int) : IntKind.u64.wrap n = n % 18446744073709551616 := by
  unfold IntKind.wrap; simp [IntKind.signed, IntKind.bits]
theorem wrap_i64_of {n : Int} (h1 : -9223372036854775808 ≤ n) (h2 : n ≤ 9223372036854775807) : IntKind.i64.wrap n = n := by
  rw [IntKind.wrap_i64]; omega
theorem wrap_u64_of {n : Int} (h1 : 0 ≤ n) (h2 : n < 18446744073709551616) : IntKind.u64.wrap n = n := by
  rw [wrap_u64]; omega
theorem i64_min : IntKind.i64.min = -9223372036854775808 := rfl
theorem i64_max : IntKind.i64.max = 9223372036854775807 := rfl
theorem u64_min : IntKind.u64.min = 0 := rfl
theorem u64_max : IntKind.u64.max = 18446744073709551615 := rfl

theorem quo64 {n : Int} (h : 0 ≤ n) (h2 : n ≤ 9223372036854775807) : arithR .quo .i64 n 64 = n / 64 := by
  show IntKind.i64.wrap (n.tdiv 64) = n / 64
  rw [Int.tdiv_eq_ediv_of_nonneg h, wrap_i64_of (by omega) (by omega)]
theorem rem64 {n : Int} (h : 0 ≤ n) : arithR .rem .i64 n 64 = n % 64 := by
  show n.tmod 64 = n % 64
  exact Int.tmod_eq_emod_of_nonneg h

theorem or_u64 {x y : Int} (hx : 0 ≤ x ∧ x < 18446744073709551616) (hy : 0 ≤ y ∧ y < 18446744073709551616) : arithR .or .u64 x y = ((x.toNat ||| y.toNat : Nat) : Int) := by
  show IntKind.u64.wrap ((BitVec.ofInt 64 x ||| BitVec.ofInt 64 y).toNat : Int) = _
  have h1 : (BitVec.ofInt 64 x).toNat = x.toNat := by rw [BitVec.toNat_ofInt]; congr 1; simp; omega
  have h2 : (BitVec.ofInt 64 y).toNat = y.toNat := by rw [BitVec.toNat_ofInt]; congr 1; simp; omega
  have h3 := (BitVec.ofInt 64 x ||| BitVec.ofInt 64 y).isLt
  rw [BitVec.toNat_or, h1, h2] at *
  exact wrap_u64_of (by omega) (by simp only [Nat.reducePow] at h3; omega)
theorem and_u64 {x y : Int} (hx : 0 ≤ x ∧ x < 18446744073709551616) (hy : 0 ≤ y ∧ y < 18446744073709551616) : arithR .and .u64 x y = ((x.toNat &&& y.toNat : Nat) : Int) := by
  show IntKind.u64.wrap ((BitVec.ofInt 64 x &&& BitVec.ofInt 64 y).toNat : Int) = _
  have h1 : (BitVec.ofInt 64 x).toNat = x.toNat := by rw [BitVec.toNat_ofInt]; congr 1; simp; omega
  have h2 : (BitVec.ofInt 64 y).toNat = y.toNat := by rw [BitVec.toNat_ofInt]; congr 1; simp; omega
  have h3 := (BitVec.ofInt 64 x &&& BitVec.ofInt 64 y).isLt
  rw [BitVec.toNat_and, h1, h2] at *
  exact wrap_u64_of (by omega) (by simp only [Nat.reducePow] at h3; omega)
theorem shl_u64 {x s : Int} (hx : 0 ≤ x ∧ x < 18446744073709551616) (hs : 0 ≤ s ∧ s ≤ 64) : arithR .shl .u64 x s = ((x.toNat <<< s.toNat % 2 ^ 64 : Nat) : Int) := by
  show IntKind.u64.wrap (x * 2 ^ (min s.toNat 64)) = _
  obtain ⟨m, rfl⟩ := Int.eq_ofNat_of_zero_le hx.1
  obtain ⟨k, rfl⟩ := Int.eq_ofNat_of_zero_le hs.1
  have hk : min k 64 = k := by omega
  simp only [Int.toNat_natCast, hk, Nat.shiftLeft_eq, wrap_u64]
  rw [show ((m : Int) * 2 ^ k) = ((m * 2 ^ k : Nat) : Int) by simp]
  rfl
theorem shr_u64 {x s : Int} (hx : 0 ≤ x ∧ x < 18446744073709551616) (hs : 0 ≤ s ∧ s ≤ 64) : arithR .shr .u64 x s = ((x.toNat >>> s.toNat : Nat) : Int) := by
  show x.fdiv (2 ^ (min s.toNat 64)) = _
  obtain ⟨m, rfl⟩ := Int.eq_ofNat_of_zero_le hx.1
  obtain ⟨k, rfl⟩ := Int.eq_ofNat_of_zero_le hs.1
  have hk : min k 64 = k := by omega
  simp only [Int.toNat_natCast, hk, Nat.shiftRight_eq_div_pow]
  rw [Int.fdiv_eq_ediv_of_nonneg _ (by exact_mod_cast Nat.zero_le _)]
  simp

/-! ## what the functions of package wide come to -/
def wPower (n : Int) : W := if 0 ≤ n ∧ n < 512 then BitVec.ofNat 512 (2 ^ n.toNat) else 0
def wAt (a : W) (i b : Int) : Int := if i < 0 then 0 else if 8 ≤ i then b else limbR a i.toNat
def wClamp (n : Int) : Int := max 0 (min n 512)
def wShl (a : W) (n : Int) : W := a <<< (wClamp n).toNat
def wShr (a : W) (n : Int) : W := a >>> (wClamp n).toNat
def one1 (c : Int) : Int := if c = 0 then 0 else 1
def lSum (a b c : Int) : Int := (a + b + one1 c) % 18446744073709551616
def lCar (a b c : Int) : Int := (a + b + one1 c) / 18446744073709551616
def lDif (a b c : Int) : Int := (a - b - one1 c) % 18446744073709551616
def lBor (a b c : Int) : Int := if a < b + one1 c then 1 else 0
def wCarry (a b : W) : Bool := decide (13407807929942597099574024998205846127479365820592393377723561443721764030073546976801874298166903427690031858186486050853753882811946569946433649006084096 ≤ a.toNat + b.toNat)
def wBorrow (a b : W) : Bool := decide (a.toNat < b.toNat)

theorem pow_mod {w m : Nat} (h : m < w) : (BitVec.ofNat w (2 ^ (m : Int).toNat)).toNat = 2 ^ m := by
  rw [BitVec.toNat_ofNat, Int.toNat_natCast]; exact Nat.mod_eq_of_lt (Nat.pow_lt_pow_right Nat.one_lt_two h)
theorem power_limb {n : Int} (h : 0 ≤ n ∧ n < 512) (i : Nat) : limbR (wPower n) i = if n / 64 = i then ((2 ^ (n % 64).toNat : Nat) : Int) else 0 := by
  obtain ⟨m, rfl⟩ := Int.eq_ofNat_of_zero_le h.1
  have hm : m < 512 := by omega
  unfold wPower
  rw [if_pos h]
  have h2 : (BitVec.ofNat 512 (2 ^ (m : Int).toNat)).toNat = 2 ^ m := pow_mod hm
  have key : (limbR (BitVec.ofNat 512 (2 ^ (m : Int).toNat)) i).toNat = if m / 64 = i then 2 ^ (m % 64) else 0 := by
    apply Nat.eq_of_testBit_eq
    intro t
    rw [limbR_bit, h2, Nat.testBit_two_pow]
    split
    · rename_i he
      rw [Nat.testBit_two_pow]
      by_cases ht : m % 64 = t
      · have : m = 64 * i + t := by omega
        simp [ht]; omega
      · have : ¬ m = 64 * i + t ∨ ¬ t < 64 := by omega
        rcases this with h | h <;> simp [h, ht]
    · rename_i he
      simp
      intro ht; omega
  have hn := limbR_nonneg (BitVec.ofNat 512 (2 ^ (m : Int).toNat)) i
  have hc : ((m : Int) / 64 = (i : Int)) ↔ m / 64 = i := by omega
  have he : ((m : Int) % 64).toNat = m % 64 := by omega
  rw [he]
  by_cases hh : m / 64 = i
  · rw [if_pos (hc.2 hh)]; rw [if_pos hh] at key; omega
  · rw [if_neg (fun e => hh (hc.1 e))]; rw [if_neg hh] at key; omega

theorem sum_car {a b c : Int} (ha : 0 ≤ a ∧ a < 18446744073709551616) (hb : 0 ≤ b ∧ b < 18446744073709551616) (hc : c = 0 ∨ c = 1) :
    lSum a b c + lCar a b c * 18446744073709551616 = a + b + c ∧ (0 ≤ lSum a b c ∧ lSum a b c < 18446744073709551616) ∧ (lCar a b c = 0 ∨ lCar a b c = 1) := by
  have h1 : one1 c = c := by rcases hc with rfl | rfl <;> rfl
  unfold lSum lCar
  rw [h1]
  omega
theorem dif_bor {a b c : Int} (ha : 0 ≤ a ∧ a < 18446744073709551616) (hb : 0 ≤ b ∧ b < 18446744073709551616) (hc : c = 0 ∨ c = 1) :
    lDif a b c - lBor a b c * 18446744073709551616 = a - b - c ∧ (0 ≤ lDif a b c ∧ lDif a b c < 18446744073709551616) ∧ (lBor a b c = 0 ∨ lBor a b c = 1) := by
  have h1 : one1 c = c := by rcases hc with rfl | rfl <;> rfl
  unfold lDif lBor
  rw [h1]
  split <;> omega
def chain8 (f : Int → Int → Int → Int) (a b : W) : Nat → Int
  | 0 => 0
  | i + 1 => f (limbR a i) (limbR b i) (chain8 f a b i)
theorem lr (a : W) (i : Nat) : 0 ≤ limbR a i ∧ limbR a i < 18446744073709551616 := ⟨limbR_nonneg a i, limbR_lt a i⟩
theorem add_all (a b : W) : ofLimbsR (lSum (limbR a 0) (limbR b 0) (chain8 lCar a b 0)) (lSum (limbR a 1) (limbR b 1) (chain8 lCar a b 1)) (lSum (limbR a 2) (limbR b 2) (chain8 lCar a b 2)) (lSum (limbR a 3) (limbR b 3) (chain8 lCar a b 3))
    (lSum (limbR a 4) (limbR b 4) (chain8 lCar a b 4)) (lSum (limbR a 5) (limbR b 5) (chain8 lCar a b 5)) (lSum (limbR a 6) (limbR b 6) (chain8 lCar a b 6)) (lSum (limbR a 7) (limbR b 7) (chain8 lCar a b 7)) = a + b ∧
    (cmpR .neq (chain8 lCar a b 8) 0) = wCarry a b := by
  have c0 : chain8 lCar a b 0 = 0 ∨ chain8 lCar a b 0 = 1 := .inl rfl
  obtain ⟨e0, r0, c1⟩ := sum_car (lr a 0) (lr b 0) c0
  obtain ⟨e1, r1, c2⟩ := sum_car (lr a 1) (lr b 1) c1
  obtain ⟨e2, r2, c3⟩ := sum_car (lr a 2) (lr b 2) c2
  obtain ⟨e3, r3, c4⟩ := sum_car (lr a 3) (lr b 3) c3
  obtain ⟨e4, r4, c5⟩ := sum_car (lr a 4) (lr b 4) c4
  obtain ⟨e5, r5, c6⟩ := sum_car (lr a 5) (lr b 5) c5
  obtain ⟨e6, r6, c7⟩ := sum_car (lr a 6) (lr b 6) c6
  obtain ⟨e7, r7, c8⟩ := sum_car (lr a 7) (lr b 7) c7
  have z : chain8 lCar a b 0 = 0 := rfl
  have sa := limb_sum a
  have sb := limb_sum b
  have ho := ofLimbs_toNat r0 r1 r2 r3 r4 r5 r6 r7
  simp only [chain8] at *
  have hlt1 := a.isLt
  have hlt2 := b.isLt
  rw [p512 (n := 512) rfl] at hlt1 hlt2
  refine ⟨BitVec.eq_of_toNat_eq ?_, ?_⟩
  · rw [BitVec.toNat_add, p512 (n := 512) rfl]
    clear hlt1 hlt2
    omega
  · unfold wCarry cmpR
    rcases c8 with c8 | c8
    · rw [c8]
      simp
      omega
    · rw [c8]
      simp
      omega
theorem sub_all (a b : W) : ofLimbsR (lDif (limbR a 0) (limbR b 0) (chain8 lBor a b 0)) (lDif (limbR a 1) (limbR b 1) (chain8 lBor a b 1)) (lDif (limbR a 2) (limbR b 2) (chain8 lBor a b 2)) (lDif (limbR a 3) (limbR b 3) (chain8 lBor a b 3))
    (lDif (limbR a 4) (limbR b 4) (chain8 lBor a b 4)) (lDif (limbR a 5) (limbR b 5) (chain8 lBor a b 5)) (lDif (limbR a 6) (limbR b 6) (chain8 lBor a b 6)) (lDif (limbR a 7) (limbR b 7) (chain8 lBor a b 7)) = a - b ∧
    (cmpR .neq (chain8 lBor a b 8) 0) = wBorrow a b := by
  have c0 : chain8 lBor a b 0 = 0 ∨ chain8 lBor a b 0 = 1 := .inl rfl
  obtain ⟨e0, r0, c1⟩ := dif_bor (lr a 0) (lr b 0) c0
  obtain ⟨e1, r1, c2⟩ := dif_bor (lr a 1) (lr b 1) c1
  obtain ⟨e2, r2, c3⟩ := dif_bor (lr a 2) (lr b 2) c2
  obtain ⟨e3, r3, c4⟩ := dif_bor (lr a 3) (lr b 3) c3
  obtain ⟨e4, r4, c5⟩ := dif_bor (lr a 4) (lr b 4) c4
  obtain ⟨e5, r5, c6⟩ := dif_bor (lr a 5) (lr b 5) c5
  obtain ⟨e6, r6, c7⟩ := dif_bor (lr a 6) (lr b 6) c6
  obtain ⟨e7, r7, c8⟩ := dif_bor (lr a 7) (lr b 7) c7
  have z : chain8 lBor a b 0 = 0 := rfl
  have sa := limb_sum a
  have sb := limb_sum b
  have ho := ofLimbs_toNat r0 r1 r2 r3 r4 r5 r6 r7
  simp only [chain8] at *
  have hlt1 := a.isLt
  have hlt2 := b.isLt
  rw [p512 (n := 512) rfl] at hlt1 hlt2
  refine ⟨BitVec.eq_of_toNat_eq ?_, ?_⟩
  · rw [BitVec.toNat_sub, p512 (n := 512) rfl]
    omega
  · unfold wBorrow cmpR
    rcases c8 with c8 | c8
    · rw [c8]
      simp
      omega
    · rw [c8]
      simp
      omega
theorem shl_one {s : Int} (h : 0 ≤ s ∧ s < 64) : arithR .shl .u64 1 s = ((2 ^ s.toNat : Nat) : Int) := by
  rw [shl_u64 (by decide) (by omega), show (1 : Int).toNat = 1 from rfl, Nat.shiftLeft_eq, Nat.one_mul, Nat.mod_eq_of_lt (Nat.pow_lt_pow_right Nat.one_lt_two (by omega))]
theorem ofLimbs_0 : ofLimbsR 0 0 0 0 0 0 0 0 = 0 := by rfl
end Go.LE
namespace Go.LE
open Go

theorem sub_i64 {x y : Int} (h1 : -9223372036854775808 ≤ x - y) (h2 : x - y ≤ 9223372036854775807) : arithR .sub .i64 x y = x - y := wrap_i64_of h1 h2
theorem add_i64 {x y : Int} (h1 : -9223372036854775808 ≤ x + y) (h2 : x + y ≤ 9223372036854775807) : arithR .add .i64 x y = x + y := wrap_i64_of h1 h2
theorem mul_i64 {x y : Int} (h1 : -9223372036854775808 ≤ x * y) (h2 : x * y ≤ 9223372036854775807) : arithR .mul .i64 x y = x * y := wrap_i64_of h1 h2

theorem wAt_lt (a : W) (j : Int) : 0 ≤ wAt a j 0 ∧ wAt a j 0 < 18446744073709551616 := by
  unfold wAt
  split
  · omega
  · split
    · omega
    · exact lr _ _
theorem bit_high {k : Nat} (a : BitVec k) {n : Nat} (h : k ≤ n) : a.toNat.testBit n = false := by
  apply Nat.testBit_lt_two_pow
  exact Nat.lt_of_lt_of_le a.isLt (Nat.pow_le_pow_right (by decide) h)
theorem wAt_bit (a : W) (j : Int) (t : Nat) : (wAt a j 0).toNat.testBit t = (decide (t < 64) && (decide (0 ≤ j) && a.toNat.testBit (64 * j.toNat + t))) := by
  unfold wAt
  split
  · rename_i h
    have : ¬ 0 ≤ j := by omega
    simp [this]
  · split
    · rename_i h
      rw [bit_high a (by omega)]
      simp
    · rename_i h1 h2
      have : 0 ≤ j := by omega
      rw [limbR_bit]; simp [this]
theorem int_of_bits {x : Int} {m : Nat} (hx : 0 ≤ x) (h : ∀ t, x.toNat.testBit t = m.testBit t) : x = (m : Int) := by
  have := Nat.eq_of_testBit_eq h
  omega
theorem nat_rng {n : Nat} (h : n < 18446744073709551616) : 0 ≤ (n : Int) ∧ (n : Int) < 18446744073709551616 := by omega
theorem shl_limb' (a : W) {m k r : Int} (hm : m = 64 * k + r) (hr : 0 ≤ r ∧ r < 64) (hk : 0 ≤ k ∧ k ≤ 8) (i : Nat) (hi : i < 8) :
    arithR .or .u64 (arithR .shl .u64 (wAt a (i - k) 0) r) (arithR .shr .u64 (wAt a (i - k - 1) 0) (64 - r)) = limbR (a <<< m.toNat) i := by
  rw [shl_u64 (wAt_lt _ _) (by omega), shr_u64 (wAt_lt _ _) (by omega)]
  have hs : ((wAt a (i - k - 1) 0).toNat >>> (64 - r).toNat) < 18446744073709551616 := by
    rw [Nat.shiftRight_eq_div_pow]
    exact Nat.lt_of_le_of_lt (Nat.div_le_self _ _) (by have := wAt_lt a (i - k - 1); omega)
  have hs1 : (wAt a (i - k) 0).toNat <<< r.toNat % 2 ^ 64 < 18446744073709551616 := Nat.mod_lt _ (by decide)
  rw [or_u64 (nat_rng hs1) (nat_rng hs)]
  refine (int_of_bits (limbR_nonneg _ _) fun t => ?_).symm
  rw [limbR_bit]
  simp only [Int.toNat_natCast, Nat.testBit_or, Nat.testBit_mod_two_pow, Nat.testBit_shiftLeft, Nat.testBit_shiftRight, wAt_bit, BitVec.toNat_shiftLeft]
  by_cases ht : t < 64
  · have hx : 64 * i + t < 512 := by omega
    have e1 : decide (t < 64) = true := by simp [ht]
    have e2 : decide (64 * i + t < 512) = true := by simp [hx]
    rw [e1, e2, Bool.true_and, Bool.true_and, Bool.true_and]
    by_cases hrt : r.toNat ≤ t
    · have e3 : decide (r.toNat ≤ t) = true := by simp [hrt]
      have e4 : decide ((64 - r).toNat + t < 64) = false := by simp; omega
      have e5 : decide (t - r.toNat < 64) = true := by simp; omega
      rw [e3, e4, e5, Bool.true_and, Bool.true_and, Bool.false_and, Bool.or_false]
      by_cases h0 : (0 : Int) ≤ i - k
      · have e6 : decide ((0 : Int) ≤ i - k) = true := by simp; omega
        have e7 : decide (m.toNat ≤ 64 * i + t) = true := by simp; omega
        rw [e6, e7, Bool.true_and, Bool.true_and]
        congr 1; omega
      · have e6 : decide ((0 : Int) ≤ i - k) = false := by simp; omega
        have e7 : decide (m.toNat ≤ 64 * i + t) = false := by simp; omega
        rw [e6, e7, Bool.false_and, Bool.false_and]
    · have e3 : decide (r.toNat ≤ t) = false := by simp; omega
      have e4 : decide ((64 - r).toNat + t < 64) = true := by simp; omega
      rw [e3, e4, Bool.false_and, Bool.false_or, Bool.true_and]
      by_cases h0 : (0 : Int) ≤ i - k - 1
      · have e6 : decide ((0 : Int) ≤ i - k - 1) = true := by simp; omega
        have e7 : decide (m.toNat ≤ 64 * i + t) = true := by simp; omega
        rw [e6, e7, Bool.true_and, Bool.true_and]
        congr 1; omega
      · have e6 : decide ((0 : Int) ≤ i - k - 1) = false := by simp; omega
        have e7 : decide (m.toNat ≤ 64 * i + t) = false := by simp; omega
        rw [e6, e7, Bool.false_and, Bool.false_and]
  · have e1 : decide (t < 64) = false := by simp; omega
    have e4 : decide ((64 - r).toNat + t < 64) = false := by simp; omega
    rw [e1, e4]; simp
theorem shr_limb' (a : W) {m k r : Int} (hm : m = 64 * k + r) (hr : 0 ≤ r ∧ r < 64) (hk : 0 ≤ k ∧ k ≤ 8) (i : Nat) (hi : i < 8) :
    arithR .or .u64 (arithR .shr .u64 (wAt a (i + k) 0) r) (arithR .shl .u64 (wAt a (i + k + 1) 0) (64 - r)) = limbR (a >>> m.toNat) i := by
  rw [shr_u64 (wAt_lt _ _) (by omega), shl_u64 (wAt_lt _ _) (by omega)]
  have hs : ((wAt a (i + k) 0).toNat >>> r.toNat) < 18446744073709551616 := by
    rw [Nat.shiftRight_eq_div_pow]
    exact Nat.lt_of_le_of_lt (Nat.div_le_self _ _) (by have := wAt_lt a (i + k); omega)
  have hs1 : (wAt a (i + k + 1) 0).toNat <<< (64 - r).toNat % 2 ^ 64 < 18446744073709551616 := Nat.mod_lt _ (by decide)
  rw [or_u64 (nat_rng hs) (nat_rng hs1)]
  refine (int_of_bits (limbR_nonneg _ _) fun t => ?_).symm
  rw [limbR_bit]
  simp only [Int.toNat_natCast, Nat.testBit_or, Nat.testBit_mod_two_pow, Nat.testBit_shiftLeft, Nat.testBit_shiftRight, wAt_bit, BitVec.toNat_ushiftRight]
  by_cases ht : t < 64
  · have e1 : decide (t < 64) = true := by simp [ht]
    rw [e1, Bool.true_and, Bool.true_and]
    have e6 : decide ((0 : Int) ≤ i + k) = true := by simp; omega
    have e7 : decide ((0 : Int) ≤ i + k + 1) = true := by simp; omega
    rw [e6, e7, Bool.true_and, Bool.true_and]
    by_cases hrt : r.toNat + t < 64
    · have e3 : decide (r.toNat + t < 64) = true := by simp [hrt]
      have e4 : decide ((64 - r).toNat ≤ t) = false := by simp; omega
      rw [e3, e4, Bool.true_and, Bool.false_and, Bool.or_false]
      congr 1; omega
    · have e3 : decide (r.toNat + t < 64) = false := by simp; omega
      have e4 : decide ((64 - r).toNat ≤ t) = true := by simp; omega
      have e5 : decide (t - (64 - r).toNat < 64) = true := by simp; omega
      rw [e3, e4, e5, Bool.false_and, Bool.true_and, Bool.true_and, Bool.false_or]
      congr 1; omega
  · have e1 : decide (t < 64) = false := by simp; omega
    have e4 : decide (r.toNat + t < 64) = false := by simp; omega
    rw [e1, e4]; simp
theorem shl_limb (a : W) {m k r : Int} (hm : m = 64 * k + r) (hr : 0 ≤ r ∧ r < 64) (hk : 0 ≤ k ∧ k ≤ 8) (i : Nat) (hi : i < 8) (z : Int) (hz : z = i) :
    arithR .or .u64 (arithR .shl .u64 (wAt a (z - k) 0) r) (arithR .shr .u64 (wAt a (z - k - 1) 0) (64 - r)) = limbR (a <<< m.toNat) i := by subst hz; exact shl_limb' a hm hr hk i hi
theorem shr_limb (a : W) {m k r : Int} (hm : m = 64 * k + r) (hr : 0 ≤ r ∧ r < 64) (hk : 0 ≤ k ∧ k ≤ 8) (i : Nat) (hi : i < 8) (z : Int) (hz : z = i) :
    arithR .or .u64 (arithR .shr .u64 (wAt a (z + k) 0) r) (arithR .shl .u64 (wAt a (z + k + 1) 0) (64 - r)) = limbR (a >>> m.toNat) i := by subst hz; exact shr_limb' a hm hr hk i hi
/-- how many binary digits -/
def nLen (n : Int) : Int := if n ≤ 0 then 0 else (Nat.log2 n.toNat : Int) + 1
def wLen (a : W) : Int := nLen a.toNat
def wBit (a : W) (n : Int) : Bool := decide (0 ≤ n) && a.toNat.testBit n.toNat
def wCmp (a b : W) : Int := if a = b then 0 else if a.toNat < b.toNat then -1 else 1
theorem nLen_div {n : Int} (s : Nat) (h : 2 ^ s ≤ n.toNat) : nLen n = s + nLen (n / ((2 ^ s : Nat) : Int)) := by
  have hp : 0 < 2 ^ s := Nat.pow_pos (by decide)
  obtain ⟨m, rfl⟩ : ∃ m : Nat, n = (m : Int) := ⟨n.toNat, by omega⟩
  rw [Int.toNat_natCast] at h
  have hq : (m : Int) / ((2 ^ s : Nat) : Int) = ((m / 2 ^ s : Nat) : Int) := rfl
  rw [hq]
  have h1 : 0 < m / 2 ^ s := Nat.div_pos h hp
  have hm0 : m ≠ 0 := by omega
  unfold nLen
  rw [if_neg (by omega), if_neg (by omega), Int.toNat_natCast, Int.toNat_natCast]
  have key : Nat.log2 m = s + Nat.log2 (m / 2 ^ s) := by
    obtain ⟨a, b⟩ := (Nat.log2_eq_iff (n := m / 2 ^ s) (k := Nat.log2 (m / 2 ^ s)) (by omega)).1 rfl
    rw [Nat.log2_eq_iff hm0]
    constructor
    · rw [Nat.pow_add, Nat.mul_comm]
      exact Nat.le_trans (Nat.mul_le_mul_right _ a) (Nat.div_mul_le_self _ _)
    · rw [Nat.add_assoc, Nat.pow_add, Nat.mul_comm]
      exact (Nat.div_lt_iff_lt_mul hp).1 b
  rw [key]; omega
def lenTab : List UInt8 := [0, 1, 2, 2, 3, 3, 3, 3, 4, 4, 4, 4, 4, 4, 4, 4, 5, 5, 5, 5, 5, 5, 5, 5, 5, 5, 5, 5, 5, 5, 5, 5, 6, 6, 6, 6, 6, 6, 6, 6, 6, 6, 6, 6, 6, 6, 6, 6, 6, 6, 6, 6, 6, 6, 6, 6, 6, 6, 6, 6, 6, 6, 6, 6, 7, 7, 7, 7, 7, 7, 7, 7, 7, 7, 7, 7, 7, 7, 7, 7, 7, 7, 7, 7, 7, 7, 7, 7, 7, 7, 7, 7, 7, 7, 7, 7, 7, 7, 7, 7, 7, 7, 7, 7, 7, 7, 7, 7, 7, 7, 7, 7, 7, 7, 7, 7, 7, 7, 7, 7, 7, 7, 7, 7, 7, 7, 7, 7, 8, 8, 8, 8, 8, 8, 8, 8, 8, 8, 8, 8, 8, 8, 8, 8, 8, 8, 8, 8, 8, 8, 8, 8, 8, 8, 8, 8, 8, 8, 8, 8, 8, 8, 8, 8, 8, 8, 8, 8, 8, 8, 8, 8, 8, 8, 8, 8, 8, 8, 8, 8, 8, 8, 8, 8, 8, 8, 8, 8, 8, 8, 8, 8, 8, 8, 8, 8, 8, 8, 8, 8, 8, 8, 8, 8, 8, 8, 8, 8, 8, 8, 8, 8, 8, 8, 8, 8, 8, 8, 8, 8, 8, 8, 8, 8, 8, 8, 8, 8, 8, 8, 8, 8, 8, 8, 8, 8, 8, 8, 8, 8, 8, 8, 8, 8, 8, 8, 8, 8, 8, 8, 8, 8, 8, 8, 8, 8]
theorem lenTab_ok : ∀ v : Nat, v < 256 → ((lenTab.getD v 0).toNat : Int) = nLen (v : Int) := by decide +kernel
theorem tab_nLen {v : Int} (h : 0 ≤ v ∧ v < 256) : byteOf ⟨⟨lenTab⟩⟩ v = nLen v := by
  obtain ⟨m, rfl⟩ := Int.eq_ofNat_of_zero_le h.1
  exact lenTab_ok m (by omega)
theorem nLen_nonneg (v : Int) : 0 ≤ nLen v := by unfold nLen; split <;> omega
theorem nLen_small {v : Int} (h : 0 ≤ v ∧ v < 256) : nLen v ≤ 8 := by
  obtain ⟨m, rfl⟩ := Int.eq_ofNat_of_zero_le h.1
  have : ∀ v : Nat, v < 256 → nLen (v : Int) ≤ 8 := by decide +kernel
  exact this m (by omega)
theorem u8_wrap {v : Int} (h : 0 ≤ v ∧ v < 256) : IntKind.u8.wrap v = v := by rw [IntKind.wrap_u8]; omega
theorem shr32 {x : Int} : arithR .shr .u64 x 32 = x / 4294967296 := Int.fdiv_eq_ediv_of_nonneg _ (by decide)
theorem shr16 {x : Int} : arithR .shr .u64 x 16 = x / 65536 := Int.fdiv_eq_ediv_of_nonneg _ (by decide)
theorem shr8 {x : Int} : arithR .shr .u64 x 8 = x / 256 := Int.fdiv_eq_ediv_of_nonneg _ (by decide)
/-- a leaf of Len64: what is left is below 256 -/
theorem len64_leaf {x v b : Int} {s : Nat} (hv : 0 ≤ v ∧ v < 256) (hb : b = (s : Int)) (hs : s ≤ 56) (h : v = x / ((2 ^ s : Nat) : Int)) (hle : s = 0 ∨ 2 ^ s ≤ x.toNat) : arithR .add .i64 b (IntKind.i64.wrap (byteOf ⟨⟨lenTab⟩⟩ (IntKind.u8.wrap v))) = nLen x := by
  rw [u8_wrap hv, tab_nLen hv]
  have h1 := nLen_nonneg v
  have h2 := nLen_small hv
  rw [wrap_i64_of (by omega) (by omega), add_i64 (by omega) (by omega), hb]
  rcases hle with rfl | hle
  · have : v = x := by rw [h]; simp
    rw [this]; simp
  · rw [nLen_div s hle, ← h]
/-- the digits, by the highest limb that isn't 0 -/
theorem wLen_0 (a : W) (h7 : limbR a 7 = 0) (h6 : limbR a 6 = 0) (h5 : limbR a 5 = 0) (h4 : limbR a 4 = 0) (h3 : limbR a 3 = 0) (h2 : limbR a 2 = 0) (h1 : limbR a 1 = 0) (h0 : limbR a 0 = 0) : 0 = wLen a := by
  have := limb_sum a
  rw [h7, h6, h5, h4, h3, h2, h1, h0] at this
  unfold wLen
  rw [this]; rfl
theorem wLen_at (a : W) (i : Nat) (hi : i < 8) (hne : limbR a i ≠ 0) (hhi : ∀ j, i < j → j < 8 → limbR a j = 0) : (64 * i : Int) + nLen (limbR a i) = wLen a := by
  have hq : (a.toNat : Int) / ((2 ^ (64 * i) : Nat) : Int) = limbR a i := by
    have e : a.toNat / 2 ^ (64 * i) = a.toNat / 2 ^ (64 * i) % 2 ^ 64 := by
      refine (Nat.mod_eq_of_lt ?_).symm
      apply Nat.lt_pow_two_of_testBit
      intro k hk
      rw [← Nat.shiftRight_eq_div_pow, Nat.testBit_shiftRight]
      by_cases hb : 64 * i + k < 512
      · have hj := hhi ((64 * i + k) / 64) (by omega) (by omega)
        have := limbR_bit a ((64 * i + k) / 64) ((64 * i + k) % 64)
        rw [hj] at this
        have e1 : decide ((64 * i + k) % 64 < 64) = true := by simp; omega
        rw [e1, Bool.true_and, show 64 * ((64 * i + k) / 64) + (64 * i + k) % 64 = 64 * i + k by omega] at this
        rw [← this, show (0 : Int).toNat = 0 from rfl, Nat.zero_testBit]
      · exact bit_high a (by omega)
    show ((a.toNat / 2 ^ (64 * i) : Nat) : Int) = limbR a i
    unfold limbR
    rw [← e]
  unfold wLen
  have hge : 2 ^ (64 * i) ≤ (a.toNat : Int).toNat := by
    rw [Int.toNat_natCast]
    rcases Nat.lt_or_ge a.toNat (2 ^ (64 * i)) with h | h
    · exfalso
      apply hne
      rw [← hq]
      show ((a.toNat / 2 ^ (64 * i) : Nat) : Int) = 0
      rw [Nat.div_eq_of_lt h]; rfl
    · exact h
  rw [nLen_div (n := (a.toNat : Int)) (64 * i) hge, hq]
  simp
theorem wLen_le (a : W) : 0 ≤ wLen a ∧ wLen a ≤ 512 := by
  refine ⟨nLen_nonneg _, ?_⟩
  unfold wLen nLen
  split
  · omega
  · rename_i h
    rw [Int.toNat_natCast] at *
    have h0 : a.toNat ≠ 0 := by omega
    have := (Nat.log2_lt (n := a.toNat) (k := 512) h0).2 a.isLt
    omega
theorem nLen64 {n : Int} (h : 0 ≤ n ∧ n < 18446744073709551616) : nLen n ≤ 64 := by
  unfold nLen
  split
  · omega
  · have h0 : n.toNat ≠ 0 := by omega
    have := (Nat.log2_lt (n := n.toNat) (k := 64) h0).2 (by simp only [Nat.reducePow]; omega)
    omega
theorem wLen_leaf (a : W) (i : Nat) (hi : i < 8) (hne : limbR a i ≠ 0) (hhi : ∀ j, i < j → j < 8 → limbR a j = 0) {z : Int} (hz : z = 64 * i) : arithR .add .i64 z (nLen (limbR a i)) = wLen a := by
  have h1 := nLen_nonneg (limbR a i)
  have h2 := nLen64 (lr a i)
  rw [add_i64 (by omega) (by omega), hz]
  exact wLen_at a i hi hne hhi
/-- a digit, out of a limb -/
theorem bit_leaf (a : W) {n r : Int} (i : Nat) (hn : n = 64 * i + r) (hr : 0 ≤ r ∧ r < 64) : cmpR .eql (arithR .and .u64 (arithR .shr .u64 (limbR a i) r) 1) 1 = wBit a n := by
  rw [shr_u64 (lr a i) (by omega)]
  have hs : (limbR a i).toNat >>> r.toNat < 18446744073709551616 := by
    rw [Nat.shiftRight_eq_div_pow]
    exact Nat.lt_of_le_of_lt (Nat.div_le_self _ _) (by have := lr a i; omega)
  rw [and_u64 (nat_rng hs) (by decide)]
  unfold wBit cmpR
  have e0 : decide (0 ≤ n) = true := by simp; omega
  rw [e0, Bool.true_and, show n.toNat = 64 * i + r.toNat by omega]
  have hb := limbR_bit a i r.toNat
  have e1 : decide (r.toNat < 64) = true := by simp; omega
  rw [e1, Bool.true_and] at hb
  rw [← hb, Int.toNat_natCast, show (1 : Int).toNat = 1 from rfl, Nat.and_one_is_mod, Nat.shiftRight_eq_div_pow, ← Nat.toNat_testBit]
  cases (limbR a i).toNat.testBit r.toNat <;> rfl
theorem bit_leaf0 (a : W) {n r : Int} (h : n < 0 ∨ 512 ≤ n) (hr : 0 ≤ r) : cmpR .eql (arithR .and .u64 (arithR .shr .u64 0 r) 1) 1 = wBit a n := by
  have : arithR .shr .u64 0 r = 0 := by
    show (0 : Int).fdiv (2 ^ (min r.toNat 64)) = 0
    exact Int.zero_fdiv _
  rw [this]
  have h2 : wBit a n = false := by
    unfold wBit
    rcases h with h | h
    · have : ¬ 0 ≤ n := by omega
      simp [this]
    · rw [bit_high a (by omega)]; simp
  rw [h2]; rfl
theorem clamp_rng (n : Int) : 0 ≤ wClamp n ∧ wClamp n ≤ 512 := by unfold wClamp; omega
theorem mx_mn (n : Int) : (if (if 512 < n then 512 else n) > 0 then (if 512 < n then 512 else n) else 0) = wClamp n := by
  unfold wClamp; split <;> split <;> omega
end Go.LE
namespace Go.LE
open Go
def fPrec (f : Int) : Int := if f = 1 then 11 else if f = 2 then 24 else if f = 3 then 53 else if f = 4 then 113 else 0
def fBits (f : Int) : Int := if f = 1 then 16 else if f = 2 then 32 else if f = 3 then 64 else if f = 4 then 128 else 0
def fField (f : Int) : Int := if f = 1 then 5 else if f = 2 then 8 else if f = 3 then 11 else if f = 4 then 15 else 0
def fEMax (f : Int) : Int := if f = 1 then 15 else if f = 2 then 127 else if f = 3 then 1023 else if f = 4 then 16383 else 0
def fOk (f : Int) : Bool := decide (1 ≤ f ∧ f ≤ 4)
theorem f_cases {f : Int} (h : 1 ≤ f ∧ f ≤ 4) : f = 1 ∨ f = 2 ∨ f = 3 ∨ f = 4 := by omega
theorem f_none {f : Int} (h : ¬ (1 ≤ f ∧ f ≤ 4)) : fPrec f = 0 ∧ fBits f = 0 ∧ fField f = 0 ∧ fEMax f = 0 ∧ fOk f = false := by
  unfold fPrec fBits fField fEMax fOk
  rw [if_neg (by omega), if_neg (by omega), if_neg (by omega), if_neg (by omega), if_neg (by omega), if_neg (by omega), if_neg (by omega), if_neg (by omega), if_neg (by omega), if_neg (by omega), if_neg (by omega), if_neg (by omega),
    if_neg (by omega), if_neg (by omega), if_neg (by omega), if_neg (by omega)]
  exact ⟨rfl, rfl, rfl, rfl, decide_eq_false h⟩
theorem is_leaf (f : Int) : cmpR .gtr (fPrec f) 0 = fOk f := by
  by_cases h : 1 ≤ f ∧ f ≤ 4
  · rcases f_cases h with rfl | rfl | rfl | rfl <;> rfl
  · rw [(f_none h).1, (f_none h).2.2.2.2]; rfl
def bTimesN (s : ByteArray) : Nat → ByteArray
  | 0 => ByteArray.empty
  | n + 1 => bTimesN s n ++ s
def bTimes (s : ByteArray) (n : Int) : ByteArray := bTimesN s n.toNat
theorem bTimesN_size (s : ByteArray) : ∀ n, (bTimesN s n).size = n * s.size
  | 0 => by simp [bTimesN]
  | n + 1 => by rw [bTimesN, ByteArray.size_append, bTimesN_size s n, Nat.succ_mul]
/-- a word, of signs 0 and 1 -/
def bWordL : List UInt8 → BitVec 128 → BitVec 128
  | [], w => w
  | c :: l, w => bWordL l (w <<< 1 + (if c = 49 then 1 else 0))
def bWord (s : ByteArray) : BitVec 128 := bWordL s.data.toList 0
theorem u64_rng {n : Int} (h : 0 ≤ n ∧ n < 18446744073709551616) : inK .u64 n := by
  rw [inK_iff, u64_min, u64_max]; omega
theorem hi_rng (w : BitVec 128) : 0 ≤ hiR w ∧ hiR w < 18446744073709551616 := by
  unfold hiR
  have := w.isLt
  omega
theorem lo_rng (w : BitVec 128) : 0 ≤ loR w ∧ loR w < 18446744073709551616 := by
  unfold loR
  omega
theorem shl1 {x : Int} (hx : 0 ≤ x ∧ x < 18446744073709551616) : arithR .shl .u64 x 1 = x * 2 % 18446744073709551616 := by
  show IntKind.u64.wrap (x * 2 ^ 1) = _
  rw [wrap_u64]; rfl
theorem shr63 {x : Int} : arithR .shr .u64 x 63 = x / 9223372036854775808 := Int.fdiv_eq_ediv_of_nonneg _ (by decide)
theorem or_low {x b : Int} (hx : 0 ≤ x ∧ x < 18446744073709551616) (he : x % 2 = 0) (hb : b = 0 ∨ b = 1) : arithR .or .u64 x b = x + b := by
  rw [or_u64 hx (by omega)]
  obtain ⟨m, rfl⟩ := Int.eq_ofNat_of_zero_le hx.1
  rcases hb with rfl | rfl
  · simp
  · rw [Int.toNat_natCast, show (1 : Int).toNat = 1 from rfl]
    have : m ||| 1 = m + 1 := by
      apply Nat.eq_of_testBit_eq
      intro t
      have hm : m = 2 * (m / 2) := by omega
      rw [Nat.testBit_or]
      cases t with
      | zero => simp [Nat.testBit_zero]; omega
      | succ t =>
        rw [Nat.testBit_succ, Nat.testBit_succ, Nat.testBit_succ, show (m + 1) / 2 = m / 2 by omega]; simp
    rw [this]; rfl
/-- a sign more -/
theorem word_step (w : BitVec 128) (b : Nat) (hb : b ≤ 1) : hiR (w <<< 1 + BitVec.ofNat 128 b) = arithR .or .u64 (arithR .shl .u64 (hiR w) 1) (arithR .shr .u64 (loR w) 63) ∧
    loR (w <<< 1 + BitVec.ofNat 128 b) = arithR .shl .u64 (loR w) 1 + b := by
  have h1 := hi_rng w
  have h2 := lo_rng w
  rw [shl1 h1, shr63, shl1 h2, or_low (by omega) (by omega) (by omega)]
  have hw := w.isLt
  unfold hiR loR at *
  rw [BitVec.toNat_add, BitVec.toNat_shiftLeft, BitVec.toNat_ofNat, Nat.shiftLeft_eq]
  omega
theorem mk_hi_lo (w : BitVec 128) : mkWordR (hiR w) (loR w) = w := by
  have h1 := hi_rng w
  have h2 := lo_rng w
  obtain ⟨a, b⟩ := hi_mk (u64_rng h1) (u64_rng h2)
  exact word_ext a b
/-- what has been read behind i signs -/
def bwAt (s : ByteArray) (i : Nat) : BitVec 128 := bWordL (s.data.toList.take i) 0
theorem bWordL_snoc : ∀ (l : List UInt8) (c : UInt8) (w : BitVec 128), bWordL (l ++ [c]) w = bWordL l w <<< 1 + (if c = 49 then 1 else 0)
  | [], c, w => rfl
  | d :: l, c, w => by simp only [List.cons_append, bWordL]; exact bWordL_snoc l c _
theorem bword_take (s : ByteArray) (i : Nat) (h : i < s.size) : bwAt s (i + 1) = bwAt s i <<< 1 + BitVec.ofNat 128 (if byteOf s i = 49 then 1 else 0) := by
  unfold bwAt
  have hl : i < s.data.toList.length := by simpa using h
  rw [List.take_add_one, List.getElem?_eq_getElem hl, Option.toList_some, bWordL_snoc]
  have e : byteOf s (i : Int) = (s.data.toList[i].toNat : Int) := by
    unfold byteOf
    rw [Int.toNat_natCast, List.getD_eq_getElem?_getD, List.getElem?_eq_getElem hl]; rfl
  congr 1
  by_cases hc : s.data.toList[i] = 49
  · have : byteOf s (i : Int) = 49 := by rw [e, hc]; rfl
    rw [if_pos hc, if_pos this]; rfl
  · have : ¬ byteOf s (i : Int) = 49 := by
      rw [e]
      intro hh
      apply hc
      apply UInt8.toNat_inj.1
      show s.data.toList[i].toNat = 49
      omega
    rw [if_neg hc, if_neg this]; rfl
theorem bwAt_zero (s : ByteArray) : 0 = hiR (bwAt s 0) ∧ 0 = loR (bwAt s 0) := by unfold bwAt; rw [List.take_zero]; exact ⟨rfl, rfl⟩
theorem bword_all (s : ByteArray) : bwAt s s.size = bWord s := by
  unfold bwAt bWord
  rw [List.take_of_length_le (by simp)]
/-- the format's own words -/
def fWordOf (f : Int) (neg : Bool) (n : Nat) : BitVec 128 := if 1 ≤ f ∧ f ≤ 4 then BitVec.ofNat 128 (n + (bif neg then 2 ^ (fBits f - 1).toNat else 0)) else 0
theorem fWordOf_none {f : Int} (h : ¬ (1 ≤ f ∧ f ≤ 4)) (neg : Bool) (n : Nat) : fWordOf f neg n = 0 := if_neg h
theorem fOk_t {f : Int} (h : (!fOk f) = false) : 1 ≤ f ∧ f ≤ 4 := by unfold fOk at h; simpa using h
theorem fOk_f {f : Int} (h : (!fOk f) = true) : ¬ (1 ≤ f ∧ f ≤ 4) := by unfold fOk at h; intro hh; rw [decide_eq_true hh] at h; cases h
theorem mkWord_0 : mkWordR 0 0 = 0 := rfl
def fInf (f : Int) (neg : Bool) : BitVec 128 := fWordOf f neg ((2 ^ (fField f).toNat - 1) * 2 ^ (fPrec f - 1).toNat)
def fNaN (f : Int) : BitVec 128 := fWordOf f false ((2 ^ (fField f).toNat - 1) * 2 ^ (fPrec f - 1).toNat + 2 ^ (fPrec f - 2).toNat)
def fMax (f : Int) (neg : Bool) : BitVec 128 := fWordOf f neg ((2 ^ (fField f).toNat - 2) * 2 ^ (fPrec f - 1).toNat + (2 ^ (fPrec f - 1).toNat - 1))
def fLeast (f : Int) : BitVec 128 := fWordOf f false 1
def fOne (f : Int) : BitVec 128 := fWordOf f false ((2 ^ (fField f - 1).toNat - 1) * 2 ^ (fPrec f - 1).toNat)
def fNought (f : Int) (neg : Bool) : BitVec 128 := fWordOf f neg 0
end Go.LE
namespace Go.LE
open Go
/-! ## bits of words -/
def wdBit (w : BitVec 128) (n : Int) : Bool := decide (0 ≤ n) && w.toNat.testBit n.toNat
def fFits (f : Int) (w : BitVec 128) : Bool := fOk f && decide (w.toNat < 2 ^ (fBits f).toNat)
theorem shr_any {x s : Int} (hx : 0 ≤ x ∧ x < 18446744073709551616) (hs : 0 ≤ s) : arithR .shr .u64 x s = ((x.toNat / 2 ^ s.toNat : Nat) : Int) := by
  by_cases h : s ≤ 64
  · rw [shr_u64 hx ⟨hs, h⟩, Nat.shiftRight_eq_div_pow]
  · have e : arithR .shr .u64 x s = arithR .shr .u64 x 64 := by
      show x.fdiv (2 ^ (min s.toNat 64)) = x.fdiv (2 ^ (min (64 : Int).toNat 64))
      rw [Nat.min_eq_right (by omega)]; rfl
    rw [e, shr_u64 hx ⟨by decide, by decide⟩, Nat.shiftRight_eq_div_pow]
    have h1 : x.toNat < 2 ^ 64 := by simp only [Nat.reducePow]; omega
    have h2 : x.toNat < 2 ^ s.toNat := Nat.lt_of_lt_of_le h1 (Nat.pow_le_pow_right (by decide) (by omega))
    rw [Nat.div_eq_of_lt h2]
    show (((x.toNat / 2 ^ 64 : Nat)) : Int) = _
    rw [Nat.div_eq_of_lt h1]
theorem rem2_nat (n : Nat) : arithR .rem .u64 (n : Int) 2 = ((n % 2 : Nat) : Int) := by
  show (n : Int).tmod 2 = _
  rw [Int.tmod_eq_emod_of_nonneg (by omega)]; rfl
theorem odd_test (a n : Nat) : cmpR .eql ((a / 2 ^ n % 2 : Nat) : Int) 1 = a.testBit n := by
  rw [Nat.testBit_eq_decide_div_mod_eq]
  show (((a / 2 ^ n % 2 : Nat) : Int) == 1) = _
  generalize a / 2 ^ n % 2 = k
  by_cases h : k = 1
  · subst h; rfl
  · rw [decide_eq_false h]; simp; omega
theorem wd_hi (w : BitVec 128) {n : Int} (h : 64 ≤ n) : cmpR .eql (arithR .rem .u64 (arithR .shr .u64 (hiR w) (arithR .sub .i64 n 64)) 2) 1 = wdBit w n ∨ 9223372036854775807 < n := by
  by_cases hn : n ≤ 9223372036854775807
  · left
    rw [sub_i64 (by omega) (by omega), shr_any (hi_rng w) (by omega), rem2_nat, odd_test]
    unfold wdBit
    rw [decide_eq_true (by omega : 0 ≤ n), Bool.true_and]
    show (w.toNat / 2 ^ 64).testBit (n - 64).toNat = _
    rw [Nat.testBit_div_two_pow]
    congr 1; omega
  · right; omega
theorem wd_lo (w : BitVec 128) {n : Int} (h0 : 0 ≤ n) (h : n < 64) : cmpR .eql (arithR .rem .u64 (arithR .shr .u64 (loR w) n) 2) 1 = wdBit w n := by
  rw [shr_any (lo_rng w) h0, rem2_nat, odd_test]
  unfold wdBit
  rw [decide_eq_true h0, Bool.true_and]
  show (w.toNat % 2 ^ 64).testBit n.toNat = _
  rw [Nat.testBit_mod_two_pow, decide_eq_true (by omega : n.toNat < 64), Bool.true_and]
/-- below 2^b, if no bit from b on is set -/
theorem lt_of_bits {a b : Nat} (h : ∀ j, b ≤ j → a.testBit j = false) : a < 2 ^ b := Nat.lt_pow_two_of_testBit a h
theorem fFits_f {f : Int} {w : BitVec 128} {n : Int} (h1 : fBits f ≤ n) (h2 : wdBit w n = true) : fFits f w = false := by
  unfold fFits
  unfold wdBit at h2
  simp only [Bool.and_eq_true, decide_eq_true_eq] at h2
  rw [decide_eq_false (p := w.toNat < _), Bool.and_false]
  intro h
  have := Nat.testBit_lt_two_pow (Nat.lt_of_lt_of_le h (Nat.pow_le_pow_right (n := 2) (by decide) (show (fBits f).toNat ≤ n.toNat by omega)))
  rw [this] at h2
  exact absurd h2.2 (by simp)
theorem fFits_t {f : Int} {w : BitVec 128} (hf : 1 ≤ f ∧ f ≤ 4) (h : ∀ j : Int, fBits f ≤ j → j < 128 → wdBit w j = false) : fFits f w = true := by
  unfold fFits fOk
  rw [decide_eq_true hf, Bool.true_and, decide_eq_true_eq]
  refine lt_of_bits fun j hj => ?_
  by_cases h128 : j < 128
  · have := h j (by omega) (by omega)
    unfold wdBit at this
    rw [decide_eq_true (by omega), Bool.true_and] at this
    exact this
  · exact bit_high w (by omega)
theorem fFits_none {f : Int} {w : BitVec 128} (hf : fOk f = false) : fFits f w = false := by unfold fFits; rw [hf]; rfl
end Go.LE
namespace Go.LE
open Go
def bytesOf (l : List UInt8) : ByteArray := ⟨l.toArray⟩
def nF16 : ByteArray := bytesOf [98, 105, 110, 97, 114, 121, 49, 54]
def nF32 : ByteArray := bytesOf [98, 105, 110, 97, 114, 121, 51, 50]
def nF64 : ByteArray := bytesOf [98, 105, 110, 97, 114, 121, 54, 52]
def nF128 : ByteArray := bytesOf [98, 105, 110, 97, 114, 121, 49, 50, 56]
def fName (f : Int) : ByteArray := if f = 1 then nF16 else if f = 2 then nF32 else if f = 3 then nF64 else if f = 4 then nF128 else bytesOf []
def fByName (s : ByteArray) : Int := if (nF16.toList == s.toList) = true then 1 else if (nF32.toList == s.toList) = true then 2 else if (nF64.toList == s.toList) = true then 3 else if (nF128.toList == s.toList) = true then 4 else 0
theorem byN_cases (s : ByteArray) :
    ((nF16.toList == s.toList) = true ∧ (nF32.toList == s.toList) = false ∧ (nF64.toList == s.toList) = false ∧ (nF128.toList == s.toList) = false ∧ fByName s = 1) ∨
    ((nF16.toList == s.toList) = false ∧ (nF32.toList == s.toList) = true ∧ (nF64.toList == s.toList) = false ∧ (nF128.toList == s.toList) = false ∧ fByName s = 2) ∨
    ((nF16.toList == s.toList) = false ∧ (nF32.toList == s.toList) = false ∧ (nF64.toList == s.toList) = true ∧ (nF128.toList == s.toList) = false ∧ fByName s = 3) ∨
    ((nF16.toList == s.toList) = false ∧ (nF32.toList == s.toList) = false ∧ (nF64.toList == s.toList) = false ∧ (nF128.toList == s.toList) = true ∧ fByName s = 4) ∨
    ((nF16.toList == s.toList) = false ∧ (nF32.toList == s.toList) = false ∧ (nF64.toList == s.toList) = false ∧ (nF128.toList == s.toList) = false ∧ fByName s = 0) := by
  have e1 : (nF16.toList == nF32.toList) = false := by decide +kernel
  have e2 : (nF16.toList == nF64.toList) = false := by decide +kernel
  have e3 : (nF16.toList == nF128.toList) = false := by decide +kernel
  have e4 : (nF32.toList == nF64.toList) = false := by decide +kernel
  have e5 : (nF32.toList == nF128.toList) = false := by decide +kernel
  have e6 : (nF64.toList == nF128.toList) = false := by decide +kernel
  have e1' : (nF32.toList == nF16.toList) = false := by decide +kernel
  have e2' : (nF64.toList == nF16.toList) = false := by decide +kernel
  have e3' : (nF128.toList == nF16.toList) = false := by decide +kernel
  have e4' : (nF64.toList == nF32.toList) = false := by decide +kernel
  have e5' : (nF128.toList == nF32.toList) = false := by decide +kernel
  have e6' : (nF128.toList == nF64.toList) = false := by decide +kernel
  unfold fByName
  by_cases h1 : (nF16.toList == s.toList) = true
  · have h := eq_of_beq h1
    rw [← h]
    exact .inl ⟨by simp, e1', e2', e3', by rw [if_pos (by simp)]⟩
  by_cases h2 : (nF32.toList == s.toList) = true
  · have h := eq_of_beq h2
    rw [← h]
    exact .inr (.inl ⟨e1, by simp, e4', e5', by rw [if_neg (ne_true_of_eq_false e1), if_pos (by simp)]⟩)
  by_cases h3 : (nF64.toList == s.toList) = true
  · have h := eq_of_beq h3
    rw [← h]
    exact .inr (.inr (.inl ⟨e2, e4, by simp, e6', by rw [if_neg (ne_true_of_eq_false e2), if_neg (ne_true_of_eq_false e4), if_pos (by simp)]⟩))
  by_cases h4 : (nF128.toList == s.toList) = true
  · have h := eq_of_beq h4
    rw [← h]
    exact .inr (.inr (.inr (.inl ⟨e3, e5, e6, by simp, by rw [if_neg (ne_true_of_eq_false e3), if_neg (ne_true_of_eq_false e5), if_neg (ne_true_of_eq_false e6), if_pos (by simp)]⟩)))
  rw [if_neg h1, if_neg h2, if_neg h3, if_neg h4]
  exact .inr (.inr (.inr (.inr ⟨by simpa using h1, by simpa using h2, by simpa using h3, by simpa using h4, rfl⟩)))
theorem not_two {a b s : ByteArray} (h1 : (a.toList == s.toList) = true) (h2 : (b.toList == s.toList) = true) (h : (a.toList == b.toList) = false) : False := by
  simp only [beq_iff_eq] at h1 h2
  rw [h1, h2] at h
  simp at h
end Go.LE
namespace Go.LE
open Go
def wordT : Ty := .struct [.int .u64, .int .u64]
theorem b_len (f : Int) (hf : 1 ≤ f ∧ f ≤ 4) : 16 ≤ fBits f ∧ fBits f ≤ 128 := by rcases f_cases hf with rfl | rfl | rfl | rfl <;> decide
theorem from_toNat (w : BitVec 128) : (ofLimbsR (loR w) (hiR w) 0 0 0 0 0 0).toNat = w.toNat := by
  have h1 := hi_rng w
  have h2 := lo_rng w
  have e := ofLimbs_toNat h2 h1 (c := 0) (d := 0) (e := 0) (f := 0) (g := 0) (h := 0) (by decide) (by decide) (by decide) (by decide) (by decide) (by decide)
  have e2 : hiR w = ((w.toNat / 18446744073709551616 : Nat) : Int) := rfl
  have e3 : loR w = ((w.toNat % 18446744073709551616 : Nat) : Int) := rfl
  rw [e2, e3] at e
  rw [e2, e3]
  omega
theorem nLen_le {n : Nat} {k : Nat} (h : 0 < k) : (nLen (n : Int) ≤ (k : Int)) = (n < 2 ^ k) := by
  unfold nLen
  by_cases hn : n = 0
  · subst hn
    simp only [Int.natCast_zero, Int.le_refl, if_true, eq_iff_iff]
    exact ⟨fun _ => Nat.two_pow_pos k, fun _ => by omega⟩
  · rw [if_neg (by omega), Int.toNat_natCast, eq_iff_iff]
    rw [← Nat.log2_lt hn]
    omega
theorem fits_leaf {f : Int} {w : BitVec 128} (h : fOk f = true) : cmpR .leq (wLen (ofLimbsR (loR w) (hiR w) 0 0 0 0 0 0)) (fBits f) = fFits f w := by
  have hf : 1 ≤ f ∧ f ≤ 4 := by unfold fOk at h; simpa using h
  have hb := b_len f hf
  unfold fFits wLen
  rw [h, Bool.true_and, from_toNat]
  show decide (nLen (w.toNat : Int) ≤ fBits f) = _
  have e : fBits f = (((fBits f).toNat : Nat) : Int) := by omega
  rw [e, decide_eq_decide, nLen_le (by omega), Int.toNat_natCast]
end Go.LE