import Derived.Test.YtapdblddamhdfaaDoorW55
set_option linter.unusedVariables false
set_option linter.unusedSimpArgs false
namespace Go.LE
open Go Go.Proofs Go.RowKit
theorem pf {c : Bool} {A B : Prop} (h : c = false) (b : B) : (c = false ∨ A) ∧ (c = true ∨ B) := ⟨.inl h, .inr b⟩
theorem pt {c : Bool} {A B : Prop} (h : c = true) (a : A) : (c = false ∨ A) ∧ (c = true ∨ B) := ⟨.inr a, .inl h⟩
theorem se_t {a b : ByteArray} (h : a = b) : real.strEq a b = true := by show (a.toList == b.toList) = true; rw [tl_eq]; exact decide_eq_true h
theorem se_f {a b : ByteArray} (h : a ≠ b) : real.strEq a b = false := by show (a.toList == b.toList) = false; rw [tl_eq]; exact decide_eq_false h
theorem sn_f {a b : ByteArray} (h : a = b) : real.bnot (real.strEq a b) = false := by rw [se_t h]; rfl
theorem sn_t {a b : ByteArray} (h : a ≠ b) : real.bnot (real.strEq a b) = true := by rw [se_f h]; rfl
theorem ne_f {a b : Int} (h : a = b) : real.cmp .neq a b = false := (c_neq_f a b).mpr h
theorem pe_fl {n : Int} (h0 : 0 ≤ n) (h1 : n < 32) : ropsFl.pe (Tryd.flagS n) = 0 := by show (bif pOk _ then 0 else 2) = _; rw [(fl_parse h0 h1).1]; rfl
theorem pv_fl {n : Int} (h0 : 0 ≤ n) (h1 : n < 32) : ropsFl.pv (Tryd.flagS n) = n := by show (bif pOk _ then pSum _ 5 else 0) = _; rw [(fl_parse h0 h1).1, (fl_parse h0 h1).2]; rfl
theorem pe_out {n : Int} (h : n < 0 ∨ 32 ≤ n) : ropsFl.pe (Tryd.flagS n) = 2 := by show (bif pOk _ then 0 else 2) = _; rw [fl_out h, pOk_empty]; rfl
theorem fl_ne {n : Int} (h0 : 0 ≤ n) (h1 : n < 32) : Tryd.flagS n ≠ ⟨#[]⟩ := pOk_ne (fl_parse h0 h1).1
def accB (n k : Int) : ByteArray := ⟨(Tryd.acc n k.toNat).toArray⟩
theorem acc_app {n : Int} {j : Nat} {c : UInt8} {q : ByteArray} (h : (if n / 2 ^ j % 2 = 1 then [Tryd.ltr j] else []) = [c]) (hq : q = ⟨#[c]⟩) : accB n ((j : Nat) : Int) ++ q = accB n (((j + 1 : Nat) : Nat) : Int) := by
  apply bytes_ext
  subst hq
  show _ = (Tryd.acc n j ++ (if n / 2 ^ j % 2 = 1 then [Tryd.ltr j] else []))
  rw [h]
  simp [accB]
theorem acc_no {n : Int} {j : Nat} (h : (if n / 2 ^ j % 2 = 1 then [Tryd.ltr j] else []) = []) : accB n ((j : Nat) : Int) = accB n (((j + 1 : Nat) : Nat) : Int) := by
  show _ = (⟨(Tryd.acc n j ++ (if n / 2 ^ j % 2 = 1 then [Tryd.ltr j] else [])).toArray⟩ : ByteArray)
  rw [h, List.append_nil]
  rfl
theorem bitq {n b : Int} (h0 : 0 ≤ n) (h1 : n < 32) (hb : 1 ≤ b ∧ b ≤ 16) : arithR .rem .i64 (arithR .quo .i64 n b) 2 = n / b % 2 := by
  have h2 : n.tdiv b = n / b := Int.tdiv_eq_ediv_of_nonneg h0
  have h3 : 0 ≤ n / b := Int.ediv_nonneg h0 (by omega)
  have h4 : n / b ≤ n := Int.ediv_le_self _ h0
  have e1 : arithR .quo .i64 n b = n / b := by
    show IntKind.i64.wrap (n.tdiv b) = _
    rw [h2, IntKind.wrap_i64]
    omega
  rw [e1]
  exact Int.tmod_eq_emod_of_nonneg h3
theorem cut_le {k : Int} (h1 : 0 ≤ k) (h2 : k < 5) : k ≤ arithR .add .i64 k 1 := by rw [add_i64 (by omega) (by omega)]; omega
theorem cut_sz {k : Int} (h1 : 0 ≤ k) (h2 : k < 5) : arithR .add .i64 k 1 ≤ (((⟨#[105, 122, 111, 117, 120]⟩ : ByteArray).size : Nat) : Int) := by
  rw [add_i64 (by omega) (by omega)]
  show k + 1 ≤ 5
  omega
theorem cut_fits {n k l h : Int} {p : ByteArray} (e : p = accB n k) (hk : k ≤ 5) : real.strFits p (real.strCut ⟨#[105, 122, 111, 117, 120]⟩ l h) := by
  have h1 : p.size ≤ 5 := by
    have q := Tryd.acc_len n k.toNat
    subst e
    show (Tryd.acc n k.toNat).toArray.size ≤ 5
    simp
    omega
  have h2 : (real.strCut ⟨#[105, 122, 111, 117, 120]⟩ l h).size ≤ 5 := by
    show (ByteArray.extract _ _ _).size ≤ 5
    rw [ByteArray.size_extract]
    have : (⟨#[105, 122, 111, 117, 120]⟩ : ByteArray).size = 5 := rfl
    omega
  show ((p.size + (real.strCut ⟨#[105, 122, 111, 117, 120]⟩ l h).size : Nat) : Int) ≤ IntKind.i64.max
  rw [i64_max]
  omega
theorem accT0 {n k : Int} {p : ByteArray} (e : k = 0) (h : p = accB n k) (hb : n / 1 % 2 = 1) : real.strCat p (real.strCut ⟨#[105, 122, 111, 117, 120]⟩ k (arithR .add .i64 k 1)) = accB n (arithR .add .i64 k 1) := by
  subst e
  subst h
  exact acc_app (j := 0) (if_pos hb) (by decide +kernel)
theorem accF0 {n k : Int} {p : ByteArray} (e : k = 0) (h : p = accB n k) (hb : ¬ n / 1 % 2 = 1) : p = accB n (arithR .add .i64 k 1) := by
  subst e
  subst h
  exact acc_no (j := 0) (if_neg hb)
theorem accT1 {n k : Int} {p : ByteArray} (e : k = 1) (h : p = accB n k) (hb : n / 2 % 2 = 1) : real.strCat p (real.strCut ⟨#[105, 122, 111, 117, 120]⟩ k (arithR .add .i64 k 1)) = accB n (arithR .add .i64 k 1) := by
  subst e
  subst h
  exact acc_app (j := 1) (if_pos hb) (by decide +kernel)
theorem accF1 {n k : Int} {p : ByteArray} (e : k = 1) (h : p = accB n k) (hb : ¬ n / 2 % 2 = 1) : p = accB n (arithR .add .i64 k 1) := by
  subst e
  subst h
  exact acc_no (j := 1) (if_neg hb)
theorem accT2 {n k : Int} {p : ByteArray} (e : k = 2) (h : p = accB n k) (hb : n / 4 % 2 = 1) : real.strCat p (real.strCut ⟨#[105, 122, 111, 117, 120]⟩ k (arithR .add .i64 k 1)) = accB n (arithR .add .i64 k 1) := by
  subst e
  subst h
  exact acc_app (j := 2) (if_pos hb) (by decide +kernel)
theorem accF2 {n k : Int} {p : ByteArray} (e : k = 2) (h : p = accB n k) (hb : ¬ n / 4 % 2 = 1) : p = accB n (arithR .add .i64 k 1) := by
  subst e
  subst h
  exact acc_no (j := 2) (if_neg hb)
theorem accT3 {n k : Int} {p : ByteArray} (e : k = 3) (h : p = accB n k) (hb : n / 8 % 2 = 1) : real.strCat p (real.strCut ⟨#[105, 122, 111, 117, 120]⟩ k (arithR .add .i64 k 1)) = accB n (arithR .add .i64 k 1) := by
  subst e
  subst h
  exact acc_app (j := 3) (if_pos hb) (by decide +kernel)
theorem accF3 {n k : Int} {p : ByteArray} (e : k = 3) (h : p = accB n k) (hb : ¬ n / 8 % 2 = 1) : p = accB n (arithR .add .i64 k 1) := by
  subst e
  subst h
  exact acc_no (j := 3) (if_neg hb)
theorem accT4 {n k : Int} {p : ByteArray} (e : k = 4) (h : p = accB n k) (hb : n / 16 % 2 = 1) : real.strCat p (real.strCut ⟨#[105, 122, 111, 117, 120]⟩ k (arithR .add .i64 k 1)) = accB n (arithR .add .i64 k 1) := by
  subst e
  subst h
  exact acc_app (j := 4) (if_pos hb) (by decide +kernel)
theorem accF4 {n k : Int} {p : ByteArray} (e : k = 4) (h : p = accB n k) (hb : ¬ n / 16 % 2 = 1) : p = accB n (arithR .add .i64 k 1) := by
  subst e
  subst h
  exact acc_no (j := 4) (if_neg hb)
set_option maxHeartbeats 4000000 in
theorem p_PackFlags : SpecOk Tryd.prog globs 3 (mkSpec real [.int .i64, .str] (s_PackFlags ropsFl)) := by
  have hfns : FnsOk Tryd.prog globs [(4, .spec (mkSpec real [] (s_awake09 ropsV))), (5, .spec (mkSpec real [.int .i64] (s_pFlags ropsFl))), (6, .spec (mkSpec real [.str] (s_parse ropsFl)))] := (fnsCons (fnSpec (p_awake09)) (fnsCons (fnSpec (p_pFlags)) (fnsCons (fnSpec (p_parse)) fnsNil)))
  refine specL (fun c => match c with | 0 => [0,1,5,6,7,8] | 2 => [1,12,13,14] | _ => []) hfns (by kernel_rfl) Tryd.func3 (by kernel_rfl) (by kernel_rfl) (by kernel_rfl) 4 _ _ (.bool) ?_
  clear hfns
  generalize hEE : envL (fun c => match c with | 0 => [0,1,5,6,7,8] | 2 => [1,12,13,14] | _ => []) [(4, .spec (mkSpec real [] (s_awake09 ropsV))), (5, .spec (mkSpec real [.int .i64] (s_pFlags ropsFl))), (6, .spec (mkSpec real [.str] (s_parse ropsFl)))] = EE
  intro l r hl hr
  simp only [Forms, Form] at hl
  obtain ⟨_, _, rfl, ⟨x1, rfl, x1lo, x1hi⟩, _, _, rfl, ⟨x2, rfl, x2len⟩, rfl⟩ := hl
  subst hEE
  generalize hK : kR (.bool) r = K
  generalize hO : real = O
  generalize hS0 : rops = S0
  generalize hS1 : ropsB = S1
  generalize hS2 : ropsC = S2
  generalize hS3 : ropsD = S3
  generalize hS4 : ropsE = S4
  generalize hS5 : ropsF = S5
  generalize hS6 : ropsG = S6
  generalize hS7 : ropsH = S7
  generalize hS8 : ropsI = S8
  generalize hS9 : ropsJ = S9
  generalize hS10 : ropsK = S10
  generalize hS11 : ropsL = S11
  generalize hS12 : ropsM = S12
  generalize hS13 : ropsN = S13
  generalize hS14 : ropsP = S14
  generalize hS15 : ropsQ = S15
  generalize hS16 : ropsT = S16
  generalize hS17 : ropsUm = S17
  generalize hS18 : ropsU = S18
  generalize hS19 : ropsV = S19
  generalize hS20 : ropsFl = S20
  set_option maxRecDepth 100000 in cbv
  have hr : r = _ := hr.symm
  subst hO hK hS0 hS1 hS2 hS3 hS4 hS5 hS6 hS7 hS8 hS9 hS10 hS11 hS12 hS13 hS14 hS15 hS16 hS17 hS18 hS19 hS20
  subst hr
  refine ⟨imp_f fun _ => rfl, imp_t fun hlen => ?_⟩
  clear hlen
  by_cases hz : x1 = 0
  · refine pt ((c_eql_t _ _).mpr hz) (pf ((c_gtr_f _ _).mpr (by omega)) (pf (sn_f (by subst hz; rfl)) (pt (sn_t (by decide)) (pf (ne_f (pe_fl (by omega) (by omega))) (pf (ne_f (pv_fl (by omega) (by omega))) ?_)))))
    refine loop_rule (α := Int) (fun k => ⟨[.undef, .str x2, .undef, .undef, .undef, .undef, .undef, .undef, .undef, .undef, .undef, .undef, .int .i64 (ropsFl.pv x2), .int .i64 (ropsFl.pe x2), .int .i64 k, .undef, .undef, .undef, .undef, .undef, .undef, .undef, .undef, .undef, .undef, .undef, .undef, .undef, .undef, .undef, .undef, .undef, .undef, .undef, .undef, .undef, .undef, .undef, .undef, .undef, .undef, .undef, .undef, .undef, .undef, .undef, .undef, .undef, .undef, .undef, .undef, .undef, .undef, .undef, .undef, .undef, .undef, .undef, .undef, .undef, .undef, .undef, .undef, .undef, .undef, .undef, .undef, .undef, .undef, .undef, .undef, .undef, .undef, .undef, .undef, .undef, .undef, .undef, .undef, .undef, .undef, .undef, .undef, .undef, .undef, .undef, .undef, .undef, .undef, .undef, .undef, .undef, .undef, .undef, .undef, .undef, .undef, .undef, .undef, .undef, .undef, .undef, .undef, .undef, .undef, .undef, .undef, .undef, .undef, .undef], ofL [none, none, none, none, none, none, none, none, none, none, none, none, none, none, none, none, none, none, none, none, none, none, none, none, none, none, none, none, none, none, none, none, none, none, none, none, none, none, none, none, none, none, none, none, none, none, none, none, none, none, none, none, none, none, none, none, none, none, none], 59⟩)
      (fun m k => 0 ≤ k ∧ k ≤ 32 ∧ (∀ i : Int, 0 ≤ i → i < k → Tryd.flagS i ≠ x2) ∧ 32 - k ≤ ((m : Nat) : Int)) ?_ 32 0 ⟨by decide, by decide, fun i a b => by omega, by decide⟩
    rintro m k X ⟨h1, h2, h3, h4⟩ hX
    (generalize hK : kR _ _ = K; generalize hO : real = O; generalize hS0 : rops = S0; generalize hS1 : ropsB = S1; generalize hS2 : ropsC = S2; generalize hS3 : ropsD = S3; generalize hS4 : ropsE = S4; generalize hS5 : ropsF = S5; generalize hS6 : ropsG = S6; generalize hS7 : ropsH = S7; generalize hS8 : ropsI = S8; generalize hS9 : ropsJ = S9; generalize hS10 : ropsK = S10; generalize hS11 : ropsL = S11; generalize hS12 : ropsM = S12; generalize hS13 : ropsN = S13; generalize hS14 : ropsP = S14; generalize hS15 : ropsQ = S15; generalize hS16 : ropsT = S16; generalize hS17 : ropsUm = S17; generalize hS18 : ropsU = S18; generalize hS19 : ropsV = S19; generalize hS20 : ropsFl = S20; set_option maxRecDepth 100000 in cbv; subst hO hK hS0 hS1 hS2 hS3 hS4 hS5 hS6 hS7 hS8 hS9 hS10 hS11 hS12 hS13 hS14 hS15 hS16 hS17 hS18 hS19 hS20; dsimp only [real, rops, ropsB, ropsC, ropsD, ropsE, ropsF, ropsG, ropsH, ropsI, ropsJ, ropsK, ropsL, ropsM, ropsN, ropsP, ropsQ, ropsT, ropsUm, ropsU, ropsV, ropsFl])
    replace h3 : ∀ i : Int, 0 ≤ i → i < k → Tryd.flagS i ≠ x2 := h3
    replace h4 : 32 - k ≤ ((m : Nat) : Int) := h4
    have g1 : arithR .add .i64 k 1 = k + 1 := add_i64 (by omega) (by omega)
    refine ⟨imp_f fun hk => ?_, imp_t fun hk => ?_⟩
    · rw [c_lss_t] at hk
      refine ⟨imp_f fun he => ?_, imp_t fun he => ?_⟩
      · rw [tl_eq] at he
        have he : Tryd.flagS k = x2 := of_decide_eq_true he
        obtain ⟨q1, q2⟩ := fl_parse (n := k) h1 hk
        rw [he] at q1 q2
        rw [q1, q2]
        exact pt ((c_eql_t _ _).mpr rfl) (pt ((c_eql_t _ _).mpr rfl) rfl)
      · rw [tl_eq] at he
        have he : Tryd.flagS k ≠ x2 := of_decide_eq_false he
        exact hX (m - 1) (arithR .add .i64 k 1) (by omega) ⟨by rw [g1]; omega, by rw [g1]; omega, fun i a b => by
          rw [g1] at b
          by_cases e : i = k
          · subst e; exact he
          · exact h3 i a (by omega), by rw [g1]; show 32 - (k + 1) ≤ ((m - 1 : Nat) : Int); omega⟩
    · rw [c_lss_f] at hk
      have hn := fl_none (s := x2) (fun i a b => h3 i a (by omega))
      rw [hn]
      exact pt ((c_eql_t _ _).mpr rfl) (pt ((c_eql_t _ _).mpr rfl) rfl)
  · refine pf ((c_eql_f _ _).mpr hz) ?_
    by_cases hg : x1 > 0
    · refine pt ((c_gtr_t _ _).mpr hg) ?_
      by_cases hl : x1 < 32
      · refine pt ((c_lss_t _ _).mpr hl) ?_
        refine loop_rule (α := Int × ByteArray) (fun k => ⟨[.int .i64 x1, .str x2, .undef, .undef, .undef, .str ⟨#[105, 122, 111, 117, 120]⟩, .im [.lit .i64 1, .lit .i64 2, .lit .i64 4, .lit .i64 8, .lit .i64 16], .str k.2, .int .i64 k.1, .undef, .undef, .undef, .undef, .undef, .undef, .undef, .undef, .undef, .undef, .undef, .undef, .undef, .undef, .undef, .undef, .undef, .undef, .undef, .undef, .undef, .undef, .undef, .undef, .undef, .undef, .undef, .undef, .undef, .undef, .undef, .undef, .undef, .undef, .undef, .undef, .undef, .undef, .undef, .undef, .undef, .undef, .undef, .undef, .undef, .undef, .undef, .undef, .undef, .undef, .undef, .undef, .undef, .undef, .undef, .undef, .undef, .undef, .undef, .undef, .undef, .undef, .undef, .undef, .undef, .undef, .undef, .undef, .undef, .undef, .undef, .undef, .undef, .undef, .undef, .undef, .undef, .undef, .undef, .undef, .undef, .undef, .undef, .undef, .undef, .undef, .undef, .undef, .undef, .undef, .undef, .undef, .undef, .undef, .undef, .undef, .undef, .undef, .undef, .undef, .undef], ofL [none, none, none, none, none, none, none, none, none, none, none, none, none, none, none, none, none], 17⟩)
          (fun m k => 0 ≤ k.1 ∧ k.1 ≤ 5 ∧ k.2 = accB x1 k.1 ∧ 5 - k.1 ≤ ((m : Nat) : Int)) ?_ 5 (0, ⟨#[]⟩) ⟨by decide, by decide, rfl, by decide⟩
        rintro m ⟨k, p⟩ X ⟨h1, h2, h3, h4⟩ hX
        (generalize hK : kR _ _ = K; generalize hO : real = O; generalize hS0 : rops = S0; generalize hS1 : ropsB = S1; generalize hS2 : ropsC = S2; generalize hS3 : ropsD = S3; generalize hS4 : ropsE = S4; generalize hS5 : ropsF = S5; generalize hS6 : ropsG = S6; generalize hS7 : ropsH = S7; generalize hS8 : ropsI = S8; generalize hS9 : ropsJ = S9; generalize hS10 : ropsK = S10; generalize hS11 : ropsL = S11; generalize hS12 : ropsM = S12; generalize hS13 : ropsN = S13; generalize hS14 : ropsP = S14; generalize hS15 : ropsQ = S15; generalize hS16 : ropsT = S16; generalize hS17 : ropsUm = S17; generalize hS18 : ropsU = S18; generalize hS19 : ropsV = S19; generalize hS20 : ropsFl = S20; set_option maxRecDepth 100000 in cbv; subst hO hK hS0 hS1 hS2 hS3 hS4 hS5 hS6 hS7 hS8 hS9 hS10 hS11 hS12 hS13 hS14 hS15 hS16 hS17 hS18 hS19 hS20)
        replace h1 : 0 ≤ k := h1
        replace h2 : k ≤ 5 := h2
        replace h3 : p = accB x1 k := h3
        replace h4 : 5 - k ≤ ((m : Nat) : Int) := h4
        have h0 : 0 ≤ x1 := by omega
        have h32 : x1 < 32 := hl
        have g1 : arithR .add .i64 k 1 = k + 1 := add_i64 (by omega) (by omega)
        refine ⟨imp_f fun hk => ?_, imp_t fun hk => ?_⟩
        · have hk : k < 5 := (c_lss_t _ _).mp hk
          refine ⟨⟨h1, hk⟩, ?_⟩
          refine ⟨imp_f fun e => ?_, imp_t fun e => ?_⟩
          · have e : k = 0 := (c_eql_t _ _).mp e
            refine ⟨imp_f fun hb => ?_, imp_t fun hb => ?_⟩
            · have hb := (c_eql_t _ _).mp hb
              have hb : x1 / 1 % 2 = 1 := (bitq (b := 1) h0 h32 (by decide)).symm.trans hb
              refine ⟨⟨h1, cut_le h1 hk, cut_sz h1 hk⟩, cut_fits h3 h2, ?_⟩
              exact hX (m - 1) (arithR .add .i64 k 1, real.strCat p (real.strCut ⟨#[105, 122, 111, 117, 120]⟩ k (arithR .add .i64 k 1))) (by omega) ⟨by rw [g1]; omega, by rw [g1]; omega, accT0 e h3 hb, by rw [g1]; show 5 - (k + 1) ≤ ((m - 1 : Nat) : Int); omega⟩
            · have hb := (c_eql_f _ _).mp hb
              have hb : ¬ x1 / 1 % 2 = 1 := fun h => hb ((bitq (b := 1) h0 h32 (by decide)).trans h)
              exact hX (m - 1) (arithR .add .i64 k 1, p) (by omega) ⟨by rw [g1]; omega, by rw [g1]; omega, accF0 e h3 hb, by rw [g1]; show 5 - (k + 1) ≤ ((m - 1 : Nat) : Int); omega⟩
          · have e0 : k ≠ 0 := (c_eql_f _ _).mp e
            refine ⟨imp_f fun e => ?_, imp_t fun e => ?_⟩
            · have e : k = 1 := (c_eql_t _ _).mp e
              refine ⟨imp_f fun hb => ?_, imp_t fun hb => ?_⟩
              · have hb := (c_eql_t _ _).mp hb
                have hb : x1 / 2 % 2 = 1 := (bitq (b := 2) h0 h32 (by decide)).symm.trans hb
                refine ⟨⟨h1, cut_le h1 hk, cut_sz h1 hk⟩, cut_fits h3 h2, ?_⟩
                exact hX (m - 1) (arithR .add .i64 k 1, real.strCat p (real.strCut ⟨#[105, 122, 111, 117, 120]⟩ k (arithR .add .i64 k 1))) (by omega) ⟨by rw [g1]; omega, by rw [g1]; omega, accT1 e h3 hb, by rw [g1]; show 5 - (k + 1) ≤ ((m - 1 : Nat) : Int); omega⟩
              · have hb := (c_eql_f _ _).mp hb
                have hb : ¬ x1 / 2 % 2 = 1 := fun h => hb ((bitq (b := 2) h0 h32 (by decide)).trans h)
                exact hX (m - 1) (arithR .add .i64 k 1, p) (by omega) ⟨by rw [g1]; omega, by rw [g1]; omega, accF1 e h3 hb, by rw [g1]; show 5 - (k + 1) ≤ ((m - 1 : Nat) : Int); omega⟩
            · have e1 : k ≠ 1 := (c_eql_f _ _).mp e
              refine ⟨imp_f fun e => ?_, imp_t fun e => ?_⟩
              · have e : k = 2 := (c_eql_t _ _).mp e
                refine ⟨imp_f fun hb => ?_, imp_t fun hb => ?_⟩
                · have hb := (c_eql_t _ _).mp hb
                  have hb : x1 / 4 % 2 = 1 := (bitq (b := 4) h0 h32 (by decide)).symm.trans hb
                  refine ⟨⟨h1, cut_le h1 hk, cut_sz h1 hk⟩, cut_fits h3 h2, ?_⟩
                  exact hX (m - 1) (arithR .add .i64 k 1, real.strCat p (real.strCut ⟨#[105, 122, 111, 117, 120]⟩ k (arithR .add .i64 k 1))) (by omega) ⟨by rw [g1]; omega, by rw [g1]; omega, accT2 e h3 hb, by rw [g1]; show 5 - (k + 1) ≤ ((m - 1 : Nat) : Int); omega⟩
                · have hb := (c_eql_f _ _).mp hb
                  have hb : ¬ x1 / 4 % 2 = 1 := fun h => hb ((bitq (b := 4) h0 h32 (by decide)).trans h)
                  exact hX (m - 1) (arithR .add .i64 k 1, p) (by omega) ⟨by rw [g1]; omega, by rw [g1]; omega, accF2 e h3 hb, by rw [g1]; show 5 - (k + 1) ≤ ((m - 1 : Nat) : Int); omega⟩
              · have e2 : k ≠ 2 := (c_eql_f _ _).mp e
                refine ⟨imp_f fun e => ?_, imp_t fun e => ?_⟩
                · have e : k = 3 := (c_eql_t _ _).mp e
                  refine ⟨imp_f fun hb => ?_, imp_t fun hb => ?_⟩
                  · have hb := (c_eql_t _ _).mp hb
                    have hb : x1 / 8 % 2 = 1 := (bitq (b := 8) h0 h32 (by decide)).symm.trans hb
                    refine ⟨⟨h1, cut_le h1 hk, cut_sz h1 hk⟩, cut_fits h3 h2, ?_⟩
                    exact hX (m - 1) (arithR .add .i64 k 1, real.strCat p (real.strCut ⟨#[105, 122, 111, 117, 120]⟩ k (arithR .add .i64 k 1))) (by omega) ⟨by rw [g1]; omega, by rw [g1]; omega, accT3 e h3 hb, by rw [g1]; show 5 - (k + 1) ≤ ((m - 1 : Nat) : Int); omega⟩
                  · have hb := (c_eql_f _ _).mp hb
                    have hb : ¬ x1 / 8 % 2 = 1 := fun h => hb ((bitq (b := 8) h0 h32 (by decide)).trans h)
                    exact hX (m - 1) (arithR .add .i64 k 1, p) (by omega) ⟨by rw [g1]; omega, by rw [g1]; omega, accF3 e h3 hb, by rw [g1]; show 5 - (k + 1) ≤ ((m - 1 : Nat) : Int); omega⟩
                · have e3 : k ≠ 3 := (c_eql_f _ _).mp e
                  have e : k = 4 := by omega
                  refine ⟨imp_f fun hb => ?_, imp_t fun hb => ?_⟩
                  · have hb := (c_eql_t _ _).mp hb
                    have hb : x1 / 16 % 2 = 1 := (bitq (b := 16) h0 h32 (by decide)).symm.trans hb
                    refine ⟨⟨h1, cut_le h1 hk, cut_sz h1 hk⟩, cut_fits h3 h2, ?_⟩
                    exact hX (m - 1) (arithR .add .i64 k 1, real.strCat p (real.strCut ⟨#[105, 122, 111, 117, 120]⟩ k (arithR .add .i64 k 1))) (by omega) ⟨by rw [g1]; omega, by rw [g1]; omega, accT4 e h3 hb, by rw [g1]; show 5 - (k + 1) ≤ ((m - 1 : Nat) : Int); omega⟩
                  · have hb := (c_eql_f _ _).mp hb
                    have hb : ¬ x1 / 16 % 2 = 1 := fun h => hb ((bitq (b := 16) h0 h32 (by decide)).trans h)
                    exact hX (m - 1) (arithR .add .i64 k 1, p) (by omega) ⟨by rw [g1]; omega, by rw [g1]; omega, accF4 e h3 hb, by rw [g1]; show 5 - (k + 1) ≤ ((m - 1 : Nat) : Int); omega⟩
        · have hk : 5 ≤ k := (c_lss_f _ _).mp hk
          have e5 : k = 5 := by omega
          have hp : Tryd.flagS x1 = p := by rw [h3, e5]; exact fl_acc (by omega) h32
          have hne : p ≠ ⟨#[]⟩ := hp ▸ fl_ne h0 h32
          refine pf (sn_f hp) (pt (sn_t hne) (pf (ne_f (pe_fl h0 h32)) (pf (ne_f (pv_fl h0 h32)) (pf (se_f hne) ?_))))
          clear h1 h2 h3 h4 hX
          refine loop_rule (α := Int) (fun k => ⟨[.undef, .str x2, .undef, .undef, .undef, .undef, .undef, .undef, .undef, .undef, .undef, .undef, .int .i64 (ropsFl.pv x2), .int .i64 (ropsFl.pe x2), .int .i64 k, .undef, .undef, .undef, .undef, .undef, .undef, .undef, .undef, .undef, .undef, .undef, .undef, .undef, .undef, .undef, .undef, .undef, .undef, .undef, .undef, .undef, .undef, .undef, .undef, .undef, .undef, .undef, .undef, .undef, .undef, .undef, .undef, .undef, .undef, .undef, .undef, .undef, .undef, .undef, .undef, .undef, .undef, .undef, .undef, .undef, .undef, .undef, .undef, .undef, .undef, .undef, .undef, .undef, .undef, .undef, .undef, .undef, .undef, .undef, .undef, .undef, .undef, .undef, .undef, .undef, .undef, .undef, .undef, .undef, .undef, .undef, .undef, .undef, .undef, .undef, .undef, .undef, .undef, .undef, .undef, .undef, .undef, .undef, .undef, .undef, .undef, .undef, .undef, .undef, .undef, .undef, .undef, .undef, .undef, .undef], ofL [none, none, none, none, none, none, none, none, none, none, none, none, none, none, none, none, none, none, none, none, none, none, none, none, none, none, none, none, none, none, none, none, none, none, none, none, none, none, none, none, none, none, none, none, none, none, none, none, none, none, none, none, none, none, none, none, none, none, none, none, none], 61⟩)
            (fun m k => 0 ≤ k ∧ k ≤ 32 ∧ (∀ i : Int, 0 ≤ i → i < k → Tryd.flagS i ≠ x2) ∧ 32 - k ≤ ((m : Nat) : Int)) ?_ 32 0 ⟨by decide, by decide, fun i a b => by omega, by decide⟩
          rintro m k X ⟨h1, h2, h3, h4⟩ hX
          (generalize hK : kR _ _ = K; generalize hO : real = O; generalize hS0 : rops = S0; generalize hS1 : ropsB = S1; generalize hS2 : ropsC = S2; generalize hS3 : ropsD = S3; generalize hS4 : ropsE = S4; generalize hS5 : ropsF = S5; generalize hS6 : ropsG = S6; generalize hS7 : ropsH = S7; generalize hS8 : ropsI = S8; generalize hS9 : ropsJ = S9; generalize hS10 : ropsK = S10; generalize hS11 : ropsL = S11; generalize hS12 : ropsM = S12; generalize hS13 : ropsN = S13; generalize hS14 : ropsP = S14; generalize hS15 : ropsQ = S15; generalize hS16 : ropsT = S16; generalize hS17 : ropsUm = S17; generalize hS18 : ropsU = S18; generalize hS19 : ropsV = S19; generalize hS20 : ropsFl = S20; set_option maxRecDepth 100000 in cbv; subst hO hK hS0 hS1 hS2 hS3 hS4 hS5 hS6 hS7 hS8 hS9 hS10 hS11 hS12 hS13 hS14 hS15 hS16 hS17 hS18 hS19 hS20; dsimp only [real, rops, ropsB, ropsC, ropsD, ropsE, ropsF, ropsG, ropsH, ropsI, ropsJ, ropsK, ropsL, ropsM, ropsN, ropsP, ropsQ, ropsT, ropsUm, ropsU, ropsV, ropsFl])
          replace h3 : ∀ i : Int, 0 ≤ i → i < k → Tryd.flagS i ≠ x2 := h3
          replace h4 : 32 - k ≤ ((m : Nat) : Int) := h4
          have g1 : arithR .add .i64 k 1 = k + 1 := add_i64 (by omega) (by omega)
          refine ⟨imp_f fun hk => ?_, imp_t fun hk => ?_⟩
          · rw [c_lss_t] at hk
            refine ⟨imp_f fun he => ?_, imp_t fun he => ?_⟩
            · rw [tl_eq] at he
              have he : Tryd.flagS k = x2 := of_decide_eq_true he
              obtain ⟨q1, q2⟩ := fl_parse (n := k) h1 hk
              rw [he] at q1 q2
              rw [q1, q2]
              exact pt ((c_eql_t _ _).mpr rfl) (pt ((c_eql_t _ _).mpr rfl) rfl)
            · rw [tl_eq] at he
              have he : Tryd.flagS k ≠ x2 := of_decide_eq_false he
              exact hX (m - 1) (arithR .add .i64 k 1) (by omega) ⟨by rw [g1]; omega, by rw [g1]; omega, fun i a b => by
                rw [g1] at b
                by_cases e : i = k
                · subst e; exact he
                · exact h3 i a (by omega), by rw [g1]; show 32 - (k + 1) ≤ ((m - 1 : Nat) : Int); omega⟩
          · rw [c_lss_f] at hk
            have hn := fl_none (s := x2) (fun i a b => h3 i a (by omega))
            rw [hn]
            exact pt ((c_eql_t _ _).mpr rfl) (pt ((c_eql_t _ _).mpr rfl) rfl)
      · have ho : x1 < 0 ∨ 32 ≤ x1 := by omega
        refine pf ((c_lss_f _ _).mpr (by omega)) (pf (sn_f (fl_out ho)) (pf (sn_f rfl) (pf (ne_f (pe_out ho)) ?_)))
        refine loop_rule (α := Int) (fun k => ⟨[.undef, .str x2, .undef, .undef, .undef, .undef, .undef, .undef, .undef, .undef, .undef, .undef, .int .i64 (ropsFl.pv x2), .int .i64 (ropsFl.pe x2), .int .i64 k, .undef, .undef, .undef, .undef, .undef, .undef, .undef, .undef, .undef, .undef, .undef, .undef, .undef, .undef, .undef, .undef, .undef, .undef, .undef, .undef, .undef, .undef, .undef, .undef, .undef, .undef, .undef, .undef, .undef, .undef, .undef, .undef, .undef, .undef, .undef, .undef, .undef, .undef, .undef, .undef, .undef, .undef, .undef, .undef, .undef, .undef, .undef, .undef, .undef, .undef, .undef, .undef, .undef, .undef, .undef, .undef, .undef, .undef, .undef, .undef, .undef, .undef, .undef, .undef, .undef, .undef, .undef, .undef, .undef, .undef, .undef, .undef, .undef, .undef, .undef, .undef, .undef, .undef, .undef, .undef, .undef, .undef, .undef, .undef, .undef, .undef, .undef, .undef, .undef, .undef, .undef, .undef, .undef, .undef, .undef], ofL [none, none, none, none, none, none, none, none, none, none, none, none, none, none, none, none, none, none, none, none, none, none, none, none, none, none, none, none, none, none, none, none, none, none, none, none, none, none, none, none, none, none, none, none, none, none, none, none, none, none, none, none, none, none, none, none, none, none], 58⟩)
          (fun m k => 0 ≤ k ∧ k ≤ 32 ∧ (∀ i : Int, 0 ≤ i → i < k → Tryd.flagS i ≠ x2) ∧ 32 - k ≤ ((m : Nat) : Int)) ?_ 32 0 ⟨by decide, by decide, fun i a b => by omega, by decide⟩
        rintro m k X ⟨h1, h2, h3, h4⟩ hX
        (generalize hK : kR _ _ = K; generalize hO : real = O; generalize hS0 : rops = S0; generalize hS1 : ropsB = S1; generalize hS2 : ropsC = S2; generalize hS3 : ropsD = S3; generalize hS4 : ropsE = S4; generalize hS5 : ropsF = S5; generalize hS6 : ropsG = S6; generalize hS7 : ropsH = S7; generalize hS8 : ropsI = S8; generalize hS9 : ropsJ = S9; generalize hS10 : ropsK = S10; generalize hS11 : ropsL = S11; generalize hS12 : ropsM = S12; generalize hS13 : ropsN = S13; generalize hS14 : ropsP = S14; generalize hS15 : ropsQ = S15; generalize hS16 : ropsT = S16; generalize hS17 : ropsUm = S17; generalize hS18 : ropsU = S18; generalize hS19 : ropsV = S19; generalize hS20 : ropsFl = S20; set_option maxRecDepth 100000 in cbv; subst hO hK hS0 hS1 hS2 hS3 hS4 hS5 hS6 hS7 hS8 hS9 hS10 hS11 hS12 hS13 hS14 hS15 hS16 hS17 hS18 hS19 hS20; dsimp only [real, rops, ropsB, ropsC, ropsD, ropsE, ropsF, ropsG, ropsH, ropsI, ropsJ, ropsK, ropsL, ropsM, ropsN, ropsP, ropsQ, ropsT, ropsUm, ropsU, ropsV, ropsFl])
        replace h3 : ∀ i : Int, 0 ≤ i → i < k → Tryd.flagS i ≠ x2 := h3
        replace h4 : 32 - k ≤ ((m : Nat) : Int) := h4
        have g1 : arithR .add .i64 k 1 = k + 1 := add_i64 (by omega) (by omega)
        refine ⟨imp_f fun hk => ?_, imp_t fun hk => ?_⟩
        · rw [c_lss_t] at hk
          refine ⟨imp_f fun he => ?_, imp_t fun he => ?_⟩
          · rw [tl_eq] at he
            have he : Tryd.flagS k = x2 := of_decide_eq_true he
            obtain ⟨q1, q2⟩ := fl_parse (n := k) h1 hk
            rw [he] at q1 q2
            rw [q1, q2]
            exact pt ((c_eql_t _ _).mpr rfl) (pt ((c_eql_t _ _).mpr rfl) rfl)
          · rw [tl_eq] at he
            have he : Tryd.flagS k ≠ x2 := of_decide_eq_false he
            exact hX (m - 1) (arithR .add .i64 k 1) (by omega) ⟨by rw [g1]; omega, by rw [g1]; omega, fun i a b => by
              rw [g1] at b
              by_cases e : i = k
              · subst e; exact he
              · exact h3 i a (by omega), by rw [g1]; show 32 - (k + 1) ≤ ((m - 1 : Nat) : Int); omega⟩
        · rw [c_lss_f] at hk
          have hn := fl_none (s := x2) (fun i a b => h3 i a (by omega))
          rw [hn]
          exact pt ((c_eql_t _ _).mpr rfl) (pt ((c_eql_t _ _).mpr rfl) rfl)
    · have ho : x1 < 0 ∨ 32 ≤ x1 := by omega
      refine pf ((c_gtr_f _ _).mpr (by omega)) (pf (sn_f (fl_out ho)) (pf (sn_f rfl) (pf (ne_f (pe_out ho)) ?_)))
      refine loop_rule (α := Int) (fun k => ⟨[.undef, .str x2, .undef, .undef, .undef, .undef, .undef, .undef, .undef, .undef, .undef, .undef, .int .i64 (ropsFl.pv x2), .int .i64 (ropsFl.pe x2), .int .i64 k, .undef, .undef, .undef, .undef, .undef, .undef, .undef, .undef, .undef, .undef, .undef, .undef, .undef, .undef, .undef, .undef, .undef, .undef, .undef, .undef, .undef, .undef, .undef, .undef, .undef, .undef, .undef, .undef, .undef, .undef, .undef, .undef, .undef, .undef, .undef, .undef, .undef, .undef, .undef, .undef, .undef, .undef, .undef, .undef, .undef, .undef, .undef, .undef, .undef, .undef, .undef, .undef, .undef, .undef, .undef, .undef, .undef, .undef, .undef, .undef, .undef, .undef, .undef, .undef, .undef, .undef, .undef, .undef, .undef, .undef, .undef, .undef, .undef, .undef, .undef, .undef, .undef, .undef, .undef, .undef, .undef, .undef, .undef, .undef, .undef, .undef, .undef, .undef, .undef, .undef, .undef, .undef, .undef, .undef, .undef], ofL [none, none, none, none, none, none, none, none, none, none, none, none, none, none, none, none, none, none, none, none, none, none, none, none, none, none, none, none, none, none, none, none, none, none, none, none, none, none, none, none, none, none, none, none, none, none, none, none, none, none, none, none, none, none, none, none, none, none], 58⟩)
        (fun m k => 0 ≤ k ∧ k ≤ 32 ∧ (∀ i : Int, 0 ≤ i → i < k → Tryd.flagS i ≠ x2) ∧ 32 - k ≤ ((m : Nat) : Int)) ?_ 32 0 ⟨by decide, by decide, fun i a b => by omega, by decide⟩
      rintro m k X ⟨h1, h2, h3, h4⟩ hX
      (generalize hK : kR _ _ = K; generalize hO : real = O; generalize hS0 : rops = S0; generalize hS1 : ropsB = S1; generalize hS2 : ropsC = S2; generalize hS3 : ropsD = S3; generalize hS4 : ropsE = S4; generalize hS5 : ropsF = S5; generalize hS6 : ropsG = S6; generalize hS7 : ropsH = S7; generalize hS8 : ropsI = S8; generalize hS9 : ropsJ = S9; generalize hS10 : ropsK = S10; generalize hS11 : ropsL = S11; generalize hS12 : ropsM = S12; generalize hS13 : ropsN = S13; generalize hS14 : ropsP = S14; generalize hS15 : ropsQ = S15; generalize hS16 : ropsT = S16; generalize hS17 : ropsUm = S17; generalize hS18 : ropsU = S18; generalize hS19 : ropsV = S19; generalize hS20 : ropsFl = S20; set_option maxRecDepth 100000 in cbv; subst hO hK hS0 hS1 hS2 hS3 hS4 hS5 hS6 hS7 hS8 hS9 hS10 hS11 hS12 hS13 hS14 hS15 hS16 hS17 hS18 hS19 hS20; dsimp only [real, rops, ropsB, ropsC, ropsD, ropsE, ropsF, ropsG, ropsH, ropsI, ropsJ, ropsK, ropsL, ropsM, ropsN, ropsP, ropsQ, ropsT, ropsUm, ropsU, ropsV, ropsFl])
      replace h3 : ∀ i : Int, 0 ≤ i → i < k → Tryd.flagS i ≠ x2 := h3
      replace h4 : 32 - k ≤ ((m : Nat) : Int) := h4
      have g1 : arithR .add .i64 k 1 = k + 1 := add_i64 (by omega) (by omega)
      refine ⟨imp_f fun hk => ?_, imp_t fun hk => ?_⟩
      · rw [c_lss_t] at hk
        refine ⟨imp_f fun he => ?_, imp_t fun he => ?_⟩
        · rw [tl_eq] at he
          have he : Tryd.flagS k = x2 := of_decide_eq_true he
          obtain ⟨q1, q2⟩ := fl_parse (n := k) h1 hk
          rw [he] at q1 q2
          rw [q1, q2]
          exact pt ((c_eql_t _ _).mpr rfl) (pt ((c_eql_t _ _).mpr rfl) rfl)
        · rw [tl_eq] at he
          have he : Tryd.flagS k ≠ x2 := of_decide_eq_false he
          exact hX (m - 1) (arithR .add .i64 k 1) (by omega) ⟨by rw [g1]; omega, by rw [g1]; omega, fun i a b => by
            rw [g1] at b
            by_cases e : i = k
            · subst e; exact he
            · exact h3 i a (by omega), by rw [g1]; show 32 - (k + 1) ≤ ((m - 1 : Nat) : Int); omega⟩
      · rw [c_lss_f] at hk
        have hn := fl_none (s := x2) (fun i a b => h3 i a (by omega))
        rw [hn]
        exact pt ((c_eql_t _ _).mpr rfl) (pt ((c_eql_t _ _).mpr rfl) rfl)
end Go.LE