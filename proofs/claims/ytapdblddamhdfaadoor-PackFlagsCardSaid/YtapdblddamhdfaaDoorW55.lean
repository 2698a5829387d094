import Derived.Test.YtapdblddamhdfaaDoorW29
import Derived.Test.YtapdblddamhdfaaDoorPT3
set_option linter.unusedVariables false
set_option linter.unusedSimpArgs false
namespace Go.LE
open Go Go.Proofs Go.RowKit
def hasC (s c : ByteArray) : Bool := decide (0 ≤ Lib.indexByte s.data.toList (c.data.toList.headD 0))
def bI (b : Bool) (n : Int) : Int := bif b then n else 0
def pSum (s : ByteArray) (k : Int) : Int :=
  bI (decide (0 < k) && hasC s ⟨#[105]⟩) 1 + bI (decide (1 < k) && hasC s ⟨#[122]⟩) 2 + bI (decide (2 < k) && hasC s ⟨#[111]⟩) 4 + bI (decide (3 < k) && hasC s ⟨#[117]⟩) 8 + bI (decide (4 < k) && hasC s ⟨#[120]⟩) 16
def pOk (s : ByteArray) : Bool := !decide (s = ⟨#[]⟩) && decide (Tryd.flagS (pSum s 5) = s)
theorem bI_rng (b : Bool) (n : Int) (h : 0 ≤ n) : 0 ≤ bI b n ∧ bI b n ≤ n := by cases b <;> exact ⟨by simp [bI, h], by simp [bI, h]⟩
theorem pSum_rng (s : ByteArray) (k : Int) : 0 ≤ pSum s k ∧ pSum s k ≤ 31 := by
  unfold pSum
  have h1 := bI_rng (decide (0 < k) && hasC s ⟨#[105]⟩) 1 (by decide)
  have h2 := bI_rng (decide (1 < k) && hasC s ⟨#[122]⟩) 2 (by decide)
  have h3 := bI_rng (decide (2 < k) && hasC s ⟨#[111]⟩) 4 (by decide)
  have h4 := bI_rng (decide (3 < k) && hasC s ⟨#[117]⟩) 8 (by decide)
  have h5 := bI_rng (decide (4 < k) && hasC s ⟨#[120]⟩) 16 (by decide)
  omega
theorem fl_all : ∀ i : Fin 32, pOk (Tryd.flagS ((i.val : Nat) : Int)) = true ∧ pSum (Tryd.flagS ((i.val : Nat) : Int)) 5 = ((i.val : Nat) : Int) := by decide +kernel
theorem fl_parse {n : Int} (h0 : 0 ≤ n) (h1 : n < 32) : pOk (Tryd.flagS n) = true ∧ pSum (Tryd.flagS n) 5 = n := by
  obtain ⟨k, rfl⟩ := Int.eq_ofNat_of_zero_le h0
  exact fl_all ⟨k, by omega⟩
theorem fl_acc {n : Int} (h0 : 0 < n) (h1 : n < 32) : Tryd.flagS n = ⟨(Tryd.acc n 5).toArray⟩ := by
  unfold Tryd.flagS
  rw [if_neg (by omega), if_pos (by omega)]
theorem fl_out {n : Int} (h : n < 0 ∨ 32 ≤ n) : Tryd.flagS n = ⟨#[]⟩ := by
  unfold Tryd.flagS
  rw [if_neg (by omega), if_neg (by omega)]
theorem pOk_empty : pOk ⟨#[]⟩ = false := by decide +kernel
theorem pOk_ne {s : ByteArray} (h : pOk s = true) : s ≠ ⟨#[]⟩ := fun e => by rw [e, pOk_empty] at h; cases h
theorem pOk_fl {s : ByteArray} (h : pOk s = true) : Tryd.flagS (pSum s 5) = s := by
  unfold pOk at h
  rw [Bool.and_eq_true] at h
  exact of_decide_eq_true h.2
theorem fl_none {s : ByteArray} (h : ∀ i : Int, 0 ≤ i → i < 32 → Tryd.flagS i ≠ s) : pOk s = false := by
  cases e : pOk s with
  | false => rfl
  | true => exact absurd (pOk_fl e) (h _ (pSum_rng s 5).1 (by have := (pSum_rng s 5).2; omega))
structure OpsFl where
  fl : Int → ByteArray
  has : ByteArray → ByteArray → Bool
  one : ByteArray → Prop
  ps : ByteArray → Int → Int
  pv : ByteArray → Int
  pe : ByteArray → Int
  acc : Int → Int → ByteArray
noncomputable def ropsFl : OpsFl where
  fl := Tryd.flagS
  has := hasC
  one := fun c => c.size = 1
  ps := pSum
  pv := fun s => bif pOk s then pSum s 5 else 0
  pe := fun s => bif pOk s then 0 else 2
  acc := fun n k => ⟨(Tryd.acc n k.toNat).toArray⟩
def s_pFlags (S : OpsFl) : List LV → R LV
  | [.int _ n] => .ok (.str (S.fl n))
  | _ => .fail
def s_contains (S : OpsFl) : List LV → R LV
  | [.str s, .str c] => .req (S.one c) (.ok (.bool (S.has s c)))
  | _ => .fail
def s_parse (S : OpsFl) : List LV → R LV
  | [.str s] => .ok (.tup [.int .i64 (S.pv s), .int .i64 (S.pe s)])
  | _ => .fail
def s_PackFlags (_ : OpsFl) : List LV → R LV := fun _ => .ok (.bool true)
theorem fl_size (n : Int) : (Tryd.flagS n).size ≤ 5 := by
  unfold Tryd.flagS
  split
  · decide
  · split
    · have h := Tryd.acc_len n 5
      show (Tryd.acc n 5).toArray.size ≤ 5
      simpa using h
    · decide
theorem letters_at {w : World} (hg : GR globs none' w) : ∃ T fr, w.heap[0]? = some (.cells Tryd.tab T fr) := by
  obtain ⟨cs, t, fr, h1, h2, _⟩ := hg.cont 0 lettersT lettersC rfl
  refine ⟨t, fr, ?_⟩
  rw [h1]
  have : cs = Tryd.tab.toList := by
    simp only [lettersC, VC, VCs] at h2
    obtain ⟨_, _, rfl, ⟨_, _, rfl, ⟨_, rfl⟩, _, _, rfl, ⟨_, rfl⟩, rfl⟩, _, _, rfl, ⟨_, _, rfl, ⟨_, rfl⟩, _, _, rfl, ⟨_, rfl⟩, rfl⟩, _, _, rfl, ⟨_, _, rfl, ⟨_, rfl⟩, _, _, rfl, ⟨_, rfl⟩, rfl⟩, _, _, rfl, ⟨_, _, rfl, ⟨_, rfl⟩, _, _, rfl, ⟨_, rfl⟩, rfl⟩, _, _, rfl, ⟨_, _, rfl, ⟨_, rfl⟩, _, _, rfl, ⟨_, rfl⟩, rfl⟩, rfl⟩ := h2
    rfl
  rw [this]
theorem p_pFlags : SpecOk Tryd.prog globs 5 (mkSpec real [.int .i64] (s_pFlags ropsFl)) := by
  refine ⟨⟨Tryd.f5, _, Tryd.func5, rfl, by kernel_rfl⟩, fun args r hY w vals hv hg => ?_⟩
  unfold mkSpec at hY
  split at hY
  · rename_i l hl
    obtain ⟨hv', hfm⟩ := canons_VV _ args l vals hl hv
    simp only [Forms, Form] at hfm
    obtain ⟨_, _, rfl, ⟨n, rfl, hn0, hn1⟩, rfl⟩ := hfm
    have hr : r = _ := hY.symm
    subst hr
    simp only [VVs, VV] at hv'
    obtain ⟨v, vs, rfl, ⟨hin, rfl⟩, rfl⟩ := hv'
    obtain ⟨T, fr, hgl⟩ := letters_at hg
    refine (Tryd.fl n hn0 hn1 w T fr hgl).mono ?_
    rintro e w' ⟨rfl, hb⟩
    refine ⟨_, rfl, ?_, hb⟩
    show VV none' w' (.str (Tryd.flagS n)) _
    simp only [VV]
    have h := fl_size n
    refine ⟨?_, trivial⟩
    unfold inK
    rw [IntKind.wrap_i64]
    omega
  · exact hY.elim
theorem p_contains : SpecOk Tryd.prog globs 10 (mkSpec real [.str, .str] (s_contains ropsFl)) := by
  refine ⟨⟨Tryd.f10, _, Tryd.func10, rfl, by kernel_rfl⟩, fun args r hY w vals hv hg => ?_⟩
  unfold mkSpec at hY
  split at hY
  · rename_i l hl
    obtain ⟨hv', hfm⟩ := canons_VV _ args l vals hl hv
    simp only [Forms, Form] at hfm
    obtain ⟨_, _, rfl, ⟨s, rfl, hs⟩, _, _, rfl, ⟨c, rfl, hc⟩, rfl⟩ := hfm
    obtain ⟨hone, hr⟩ := hY
    have hr : r = _ := hr.symm
    subst hr
    simp only [VVs, VV] at hv'
    obtain ⟨v, vs, rfl, ⟨hin, rfl⟩, v2, vs2, rfl, ⟨hin2, rfl⟩, rfl⟩ := hv'
    obtain ⟨b, rfl⟩ : ∃ b, c = ⟨#[b]⟩ := by
      obtain ⟨⟨l⟩⟩ := c
      have hone : l.length = 1 := hone
      match l, hone with
      | [b], _ => exact ⟨b, rfl⟩
    refine (Tryd.strings_Contains_one s b w).mono ?_
    rintro e w' ⟨rfl, rfl⟩
    exact ⟨_, rfl, by simp only [VV]; rfl, Below.refl _ _⟩
  · exact hY.elim
theorem tl_eq (a b : ByteArray) : (a.toList == b.toList) = decide (a = b) := by
  rw [Go.ByteArray.toList_eq, Go.ByteArray.toList_eq]
  by_cases h : a = b
  · subst h; simp
  · rw [decide_eq_false h, beq_eq_false_iff_ne]
    exact fun e => h (bytes_ext e)
theorem st0t {s : ByteArray} {k p : Int} (hk : k = 0) (hp : p = pSum s k) (h : hasC s ⟨#[105]⟩ = true) : arithR .add .i64 p 1 = pSum s (k + 1) := by
  have hr := pSum_rng s k
  rw [add_i64 (by omega) (by omega)]
  subst hp hk
  unfold pSum
  simp [bI, h]
theorem st0f {s : ByteArray} {k p : Int} (hk : k = 0) (hp : p = pSum s k) (h : hasC s ⟨#[105]⟩ = false) : p = pSum s (k + 1) := by
  subst hp hk
  unfold pSum
  simp [bI, h]
theorem st1t {s : ByteArray} {k p : Int} (hk : k = 1) (hp : p = pSum s k) (h : hasC s ⟨#[122]⟩ = true) : arithR .add .i64 p 2 = pSum s (k + 1) := by
  have hr := pSum_rng s k
  rw [add_i64 (by omega) (by omega)]
  subst hp hk
  unfold pSum
  simp [bI, h]
theorem st1f {s : ByteArray} {k p : Int} (hk : k = 1) (hp : p = pSum s k) (h : hasC s ⟨#[122]⟩ = false) : p = pSum s (k + 1) := by
  subst hp hk
  unfold pSum
  simp [bI, h]
theorem st2t {s : ByteArray} {k p : Int} (hk : k = 2) (hp : p = pSum s k) (h : hasC s ⟨#[111]⟩ = true) : arithR .add .i64 p 4 = pSum s (k + 1) := by
  have hr := pSum_rng s k
  rw [add_i64 (by omega) (by omega)]
  subst hp hk
  unfold pSum
  simp [bI, h]
theorem st2f {s : ByteArray} {k p : Int} (hk : k = 2) (hp : p = pSum s k) (h : hasC s ⟨#[111]⟩ = false) : p = pSum s (k + 1) := by
  subst hp hk
  unfold pSum
  simp [bI, h]
theorem st3t {s : ByteArray} {k p : Int} (hk : k = 3) (hp : p = pSum s k) (h : hasC s ⟨#[117]⟩ = true) : arithR .add .i64 p 8 = pSum s (k + 1) := by
  have hr := pSum_rng s k
  rw [add_i64 (by omega) (by omega)]
  subst hp hk
  unfold pSum
  simp [bI, h]
theorem st3f {s : ByteArray} {k p : Int} (hk : k = 3) (hp : p = pSum s k) (h : hasC s ⟨#[117]⟩ = false) : p = pSum s (k + 1) := by
  subst hp hk
  unfold pSum
  simp [bI, h]
theorem st4t {s : ByteArray} {k p : Int} (hk : k = 4) (hp : p = pSum s k) (h : hasC s ⟨#[120]⟩ = true) : arithR .add .i64 p 16 = pSum s (k + 1) := by
  have hr := pSum_rng s k
  rw [add_i64 (by omega) (by omega)]
  subst hp hk
  unfold pSum
  simp [bI, h]
theorem st4f {s : ByteArray} {k p : Int} (hk : k = 4) (hp : p = pSum s k) (h : hasC s ⟨#[120]⟩ = false) : p = pSum s (k + 1) := by
  subst hp hk
  unfold pSum
  simp [bI, h]
theorem p_parse : SpecOk Tryd.prog globs 6 (mkSpec real [.str] (s_parse ropsFl)) := by
  have hfns : FnsOk Tryd.prog globs [(10, .spec (mkSpec real [.str, .str] (s_contains ropsFl))), (5, .spec (mkSpec real [.int .i64] (s_pFlags ropsFl)))] := (fnsCons (fnSpec (p_contains)) (fnsCons (fnSpec (p_pFlags)) fnsNil))
  refine specL (fun _ => [0,4,7,8]) hfns (by kernel_rfl) Tryd.func6 (by kernel_rfl) (by kernel_rfl) (by kernel_rfl) 4 _ _ (.tup [.int .i64, .int .i64]) ?_
  clear hfns
  generalize hEE : envL (fun _ => [0,4,7,8]) [(10, .spec (mkSpec real [.str, .str] (s_contains ropsFl))), (5, .spec (mkSpec real [.int .i64] (s_pFlags ropsFl)))] = EE
  intro l r hl hr
  simp only [Forms, Form] at hl
  obtain ⟨_, _, rfl, ⟨x1, rfl, x1len⟩, rfl⟩ := hl
  subst hEE
  generalize hK : kR (.tup [.int .i64, .int .i64]) r = K
  generalize hO : real = O
  generalize hS0 : rops = S0
  generalize hS1 : ropsB = S1
  generalize hS2 : ropsC = S2
  generalize hS3 : ropsD = S3
  generalize hS4 : ropsE = S4
  generalize hS5 : ropsF = S5
  generalize hS6 : ropsG = S6
  generalize hS7 : ropsH = S7
  generalize hS8 : ropsI = S8
  generalize hS9 : ropsJ = S9
  generalize hS10 : ropsK = S10
  generalize hS11 : ropsL = S11
  generalize hS12 : ropsM = S12
  generalize hS13 : ropsN = S13
  generalize hS14 : ropsP = S14
  generalize hS15 : ropsQ = S15
  generalize hS16 : ropsT = S16
  generalize hS17 : ropsUm = S17
  generalize hS18 : ropsU = S18
  generalize hS19 : ropsV = S19
  generalize hS20 : ropsFl = S20
  set_option maxRecDepth 100000 in cbv
  have hr : r = _ := hr.symm
  subst hO hK hS0 hS1 hS2 hS3 hS4 hS5 hS6 hS7 hS8 hS9 hS10 hS11 hS12 hS13 hS14 hS15 hS16 hS17 hS18 hS19 hS20
  subst hr
  refine loop_rule (α := Int × Int) (fun k => ⟨[.str x1, .undef, .undef, .undef, .int .i64 k.2, .undef, .undef, .agg [.agg [.str ⟨#[105]⟩, .int .i64 1], .agg [.str ⟨#[122]⟩, .int .i64 2], .agg [.str ⟨#[111]⟩, .int .i64 4], .agg [.str ⟨#[117]⟩, .int .i64 8], .agg [.str ⟨#[120]⟩, .int .i64 16]], .int .i64 k.1, .undef, .undef, .undef, .undef, .undef, .undef, .undef, .undef, .undef, .undef, .undef, .undef, .undef, .undef, .undef, .undef, .undef, .undef, .undef, .undef], ofL [none, none, none, none, none], 5⟩)
    (fun m k => 0 ≤ k.1 ∧ k.1 ≤ 5 ∧ k.2 = pSum x1 k.1 ∧ 5 - k.1 ≤ ((m : Nat) : Int)) ?_ 5 (0, 0) ⟨by decide, by decide, rfl, by decide⟩
  rintro m ⟨k, p⟩ X ⟨h1, h2, h3, h4⟩ hX
  (generalize hK : kR _ _ = K; generalize hO : real = O; generalize hS0 : rops = S0; generalize hS1 : ropsB = S1; generalize hS2 : ropsC = S2; generalize hS3 : ropsD = S3; generalize hS4 : ropsE = S4; generalize hS5 : ropsF = S5; generalize hS6 : ropsG = S6; generalize hS7 : ropsH = S7; generalize hS8 : ropsI = S8; generalize hS9 : ropsJ = S9; generalize hS10 : ropsK = S10; generalize hS11 : ropsL = S11; generalize hS12 : ropsM = S12; generalize hS13 : ropsN = S13; generalize hS14 : ropsP = S14; generalize hS15 : ropsQ = S15; generalize hS16 : ropsT = S16; generalize hS17 : ropsUm = S17; generalize hS18 : ropsU = S18; generalize hS19 : ropsV = S19; generalize hS20 : ropsFl = S20; set_option maxRecDepth 100000 in cbv; subst hO hK hS0 hS1 hS2 hS3 hS4 hS5 hS6 hS7 hS8 hS9 hS10 hS11 hS12 hS13 hS14 hS15 hS16 hS17 hS18 hS19 hS20; dsimp only [real, rops, ropsB, ropsC, ropsD, ropsE, ropsF, ropsG, ropsH, ropsI, ropsJ, ropsK, ropsL, ropsM, ropsN, ropsP, ropsQ, ropsT, ropsUm, ropsU, ropsV, ropsFl])
  replace h1 : 0 ≤ k := h1
  replace h2 : k ≤ 5 := h2
  replace h3 : p = pSum x1 k := h3
  replace h4 : 5 - k ≤ ((m : Nat) : Int) := h4
  have g1 : arithR .add .i64 k 1 = k + 1 := add_i64 (by omega) (by omega)
  have hr5 := pSum_rng x1 k
  rw [g1]
  repeat' (first | apply And.intro | (refine imp_f fun _ => ?_) | (refine imp_t fun _ => ?_))
  all_goals simp only [c_eql_t, c_eql_f, c_neq_t, c_neq_f, c_lss_t, c_lss_f, c_leq_t, c_leq_f, c_gtr_t, c_gtr_f, c_geq_t, c_geq_f] at *
  all_goals first
    | rfl
    | (constructor <;> omega)
    | omega
    | (have q := st0t (by assumption) h3 (by assumption); exact hX (m - 1) (k + 1, arithR .add .i64 p 1) (by omega) ⟨by show 0 ≤ k + 1; omega, by show k + 1 ≤ 5; omega, q, by show 5 - (k + 1) ≤ ((m - 1 : Nat) : Int); omega⟩)
    | (have q := st0f (by assumption) h3 (by assumption); exact hX (m - 1) (k + 1, p) (by omega) ⟨by show 0 ≤ k + 1; omega, by show k + 1 ≤ 5; omega, q, by show 5 - (k + 1) ≤ ((m - 1 : Nat) : Int); omega⟩)
    | (have q := st1t (by assumption) h3 (by assumption); exact hX (m - 1) (k + 1, arithR .add .i64 p 2) (by omega) ⟨by show 0 ≤ k + 1; omega, by show k + 1 ≤ 5; omega, q, by show 5 - (k + 1) ≤ ((m - 1 : Nat) : Int); omega⟩)
    | (have q := st1f (by assumption) h3 (by assumption); exact hX (m - 1) (k + 1, p) (by omega) ⟨by show 0 ≤ k + 1; omega, by show k + 1 ≤ 5; omega, q, by show 5 - (k + 1) ≤ ((m - 1 : Nat) : Int); omega⟩)
    | (have q := st2t (by assumption) h3 (by assumption); exact hX (m - 1) (k + 1, arithR .add .i64 p 4) (by omega) ⟨by show 0 ≤ k + 1; omega, by show k + 1 ≤ 5; omega, q, by show 5 - (k + 1) ≤ ((m - 1 : Nat) : Int); omega⟩)
    | (have q := st2f (by assumption) h3 (by assumption); exact hX (m - 1) (k + 1, p) (by omega) ⟨by show 0 ≤ k + 1; omega, by show k + 1 ≤ 5; omega, q, by show 5 - (k + 1) ≤ ((m - 1 : Nat) : Int); omega⟩)
    | (have q := st3t (by assumption) h3 (by assumption); exact hX (m - 1) (k + 1, arithR .add .i64 p 8) (by omega) ⟨by show 0 ≤ k + 1; omega, by show k + 1 ≤ 5; omega, q, by show 5 - (k + 1) ≤ ((m - 1 : Nat) : Int); omega⟩)
    | (have q := st3f (by assumption) h3 (by assumption); exact hX (m - 1) (k + 1, p) (by omega) ⟨by show 0 ≤ k + 1; omega, by show k + 1 ≤ 5; omega, q, by show 5 - (k + 1) ≤ ((m - 1 : Nat) : Int); omega⟩)
    | (have q := st4t (by simp only [Int.ofNat_eq_natCast] at *; omega) h3 (by assumption); exact hX (m - 1) (k + 1, arithR .add .i64 p 16) (by omega) ⟨by show 0 ≤ k + 1; omega, by show k + 1 ≤ 5; omega, q, by show 5 - (k + 1) ≤ ((m - 1 : Nat) : Int); omega⟩)
    | (have q := st4f (by simp only [Int.ofNat_eq_natCast] at *; omega) h3 (by assumption); exact hX (m - 1) (k + 1, p) (by omega) ⟨by show 0 ≤ k + 1; omega, by show k + 1 ≤ 5; omega, q, by show 5 - (k + 1) ≤ ((m - 1 : Nat) : Int); omega⟩)
    | (have e5 : k = 5 := by omega
       subst e5
       simp only [tl_eq, Bool.not_eq_true', Bool.not_eq_false', decide_eq_true_eq, decide_eq_false_iff_not] at *
       simp only [kR, canon, canons, ekEq, numE, getW, getWord, allInts8, asInt, isK, kindEq, isArgB, strOf, cBig, cInts, cWords, allInts, allWords, r_ofLimbs, r_mkWord, Option.some.injEq, LV.wide.injEq, LV.word.injEq, LV.int.injEq, LV.bool.injEq, LV.str.injEq, LV.big.injEq, LV.tup.injEq, LV.agg.injEq, List.cons.injEq, and_true, true_and]
       simp_all [pOk])
    | trace_state
end Go.LE