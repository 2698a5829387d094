import Derived.Test.YtnanihpaifaceaaGreatDoorW11
import Derived.Test.YtnanihpaifaceaaGreatDoorLeO
set_option linter.unusedVariables false
set_option linter.unusedSimpArgs false
namespace Go.LE
open Go Go.Proofs
structure OpsH where
  valL : List Int → Nat
  dA : Nat → Int → Int
  small : Nat → Prop
  le : Nat → Nat → Prop
  cmp : Nat → Nat → Int
  add : Nat → Nat → Nat
  sub : Nat → Nat → Nat
  shl : Nat → Int → Nat
  okSh : Int → Prop
  len : Nat → Int
  val64 : List Int → Nat
  short : List Int → Prop
  ofI : Int → Nat
def lenN (n : Nat) : Int := (bitN n : Int)
noncomputable def ropsH : OpsH where
  valL := valL
  dA := digA
  small := small
  le := fun a b => a ≤ b
  cmp := cmpN
  add := fun a b => a + b
  sub := fun a b => a - b
  shl := fun a n => a * 2 ^ n.toNat
  okSh := fun n => 0 ≤ n ∧ n ≤ 17179869184
  len := lenN
  val64 := val64
  short := fun l => l.length ≤ 536870912
  ofI := fun n => n.toNat
def s_trim (S : OpsH) : List LV → R LV
  | [.ints _ l] => .ok (.big (S.valL l))
  | _ => .fail
def s_digit (S : OpsH) : List LV → R LV
  | [.big n, .int _ i] => .ok (.int .u64 (S.dA n i))
  | _ => .fail
def s_cmp01 (S : OpsH) : List LV → R LV
  | [.big a, .big b] => .ok (.int .i64 (S.cmp a b))
  | _ => .fail
def s_add01 (S : OpsH) : List LV → R LV
  | [.big a, .big b] => .req (S.small a) (.req (S.small b) (.ok (.big (S.add a b))))
  | _ => .fail
def s_sub01 (S : OpsH) : List LV → R LV
  | [.big a, .big b] => .req (S.small a) (.req (S.le b a) (.ok (.big (S.sub a b))))
  | _ => .fail
def s_shl01 (S : OpsH) : List LV → R LV
  | [.big a, .int _ n] => .req (S.small a) (.req (S.okSh n) (.ok (.big (S.shl a n))))
  | _ => .fail
def s_len01 (S : OpsH) : List LV → R LV
  | [.big a] => .req (S.small a) (.ok (.int .i64 (S.len a)))
  | _ => .fail
def s_of01 (S : OpsH) : List LV → R LV
  | [.ints _ l] => .req (S.short l) (.ok (.big (S.val64 l)))
  | _ => .fail
def s_small01 (S : OpsH) : List LV → R LV
  | [.int _ n] => .ok (.big (S.ofI n))
  | _ => .fail
theorem cBig_take {l : List Int} {k : Nat} (h : dig (valL l) = l.take k) : cBig (.ints .u32 (l.take k)) = some (valL l) := by
  have e : valL (l.take k) = valL l := by rw [← h, valL_dig]
  unfold cBig
  simp only [e]
  rw [decide_eq_true h]
theorem rng_u32 {l : List Int} (h : ∀ n ∈ l, IntKind.u32.min ≤ n ∧ n ≤ IntKind.u32.max) : rngL l := fun x hx => by
  have := h x hx
  simp only [IntKind.min, IntKind.max, IntKind.signed, IntKind.bits] at this
  simp at this
  omega
theorem trim_fin {l : List Int} (hr : rngL l) {k : Int} (h1 : 0 ≤ k) (h2 : k ≤ ((l.length : Nat) : Int)) (h3 : ∀ j : Nat, k ≤ (j : Int) → l.getD j 0 = 0) (h4 : k = 0 ∨ l.getD (k - 1).toNat 0 ≠ 0) :
    kR .big (.big (valL l)) (.ints .u32 (l.take k.toNat)) := by
  have := trim_dig hr (k := k.toNat) (by omega) (fun j hj => h3 j (by omega)) (h4.imp (fun h => by omega) fun h => by rwa [show (k - 1).toNat = k.toNat - 1 by omega] at h)
  simp only [kR, canon, cBig_take this]
theorem mx_len (a b : Nat) : (if (((dig b).length : Nat) : Int) > (((dig a).length : Nat) : Int) then (((dig b).length : Nat) : Int) else (((dig a).length : Nat) : Int)) = ((max (dig a).length (dig b).length : Nat) : Int) := by
  split <;> omega
theorem bitN_u32 {d : Int} (h : 0 ≤ d ∧ d < 4294967296) : bitN d.toNat ≤ 32 := by
  by_cases h0 : d.toNat = 0
  · rw [h0, bitN_zero]; omega
  · unfold bitN
    rw [if_neg h0]
    have := (Nat.log2_lt (k := 32) h0).2 (by omega)
    omega
theorem len_step {n d : Int} {k : Nat} (hd : 0 < d) (h : n + (bitN d.toNat : Int) = k) : n + 1 + (bitN (d / 2).toNat : Int) = k := by
  have := bitN_half (n := d.toNat) (by omega)
  rw [show (d / 2).toNat = d.toNat / 2 by omega]
  omega
def s_trimB (_ : OpsH) : List LV → R LV
  | [.big n] => .ok (.big n)
  | _ => .fail
theorem rng_u64 {l : List Int} (h : ∀ n ∈ l, IntKind.u64.min ≤ n ∧ n ≤ IntKind.u64.max) (i : Nat) : 0 ≤ l.getD i 0 ∧ l.getD i 0 < 18446744073709551616 := by
  rw [List.getD_eq_getElem?_getD]
  by_cases hi : i < l.length
  · have := h l[i] (List.getElem_mem hi)
    simp only [IntKind.min, IntKind.max, IntKind.signed, IntKind.bits] at this
    simp at this
    rw [List.getElem?_eq_getElem hi]
    simp
    omega
  · rw [List.getElem?_eq_none (by omega)]
    simp
end Go.LE