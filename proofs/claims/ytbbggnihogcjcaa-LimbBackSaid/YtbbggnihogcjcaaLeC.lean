import Derived.Test.YtbbggnihogcjcaaLeB
import Derived.ChangeArms
import Derived.OpenShut
import Derived.WideKeyArgs
import Derived.ChangeSame
import Derived.LaidLaws
import Derived.Deep.DeepHandedRow
import Derived.SevenTiedAt
import Derived.SizedLaws
set_option linter.unusedVariables false
set_option linter.unusedSimpArgs false
namespace Go.LE
open Go Go.RowKit Go.ChangeShapes Go.WideShapes

/-! ## arguments, read by the form: told as abstract values -/
/-- types that are read here: numbers, bools, strings, structs and arrays of such -/
def Ty.flatT : Ty → Bool
  | .int _ | .bool | .str => true
  | .struct fs => flatTs fs
  | .arr _ e => e.flatT
  | _ => false
where flatTs : List Ty → Bool
  | [] => true
  | t :: ts => t.flatT && flatTs ts
def rawAT : Ty → AT
  | .int k => .int k
  | .bool => .bool
  | .str => .str
  | .struct fs => .st (rawATs fs)
  | .arr n e => .st (List.replicate n (rawAT e))
  | .slice (.int k) => .ints k
  | .slice (.struct _) => .words
  | _ => .bool
where rawATs : List Ty → List AT
  | [] => []
  | t :: ts => rawAT t :: rawATs ts
def dataOf {H : Type} : LV → DataW H
  | .int k n | .lit k n => .lit (.int k n)
  | .bool b | .blit b => .lit (.bool b)
  | .str s | .slit s => .lit (.string s.data.toList)
  | .agg ps => .agg (dataOfs ps)
  | _ => .nil
where dataOfs : List LV → List (DataW H)
  | [] => []
  | p :: ps => dataOf p :: dataOfs ps

section
variable {H : Type} {enc : TypeId × Value → H} {P : Program} {w : World} {base : Nat} {spare : Nat → Bool} {held : Bool}
theorem inK_of_wf {k : IntKind} {n : Int} (h : (Lit.int k n).wf = true) : k.min ≤ n ∧ n ≤ k.max := by
  simpa [Lit.wf] using h
theorem cellsOf_eq {ty : Ty} {t : TypeId} (h : TyRep P ty t) : P.cellsOf t = ty.size := by
  obtain ⟨i, z, hi, hs, _⟩ := TyRep.inf h
  unfold Program.cellsOf
  rw [hi]
  exact hs

theorem els_read {e : Ty} {t : TypeId} {m : Nat} (hsz : P.cellsOf t = e.size)
    (one : ∀ cs (x : DataW H × List MemPlace), DataW.trod enc P w base spare held m t cs = some x → ∃ lv, VC none' w lv cs ∧ Form (rawAT e) lv ∧ shape e lv = true ∧ x.1 = dataOf lv ∧ x.2 = []) :
    ∀ (n : Nat) (cs : List Value) (xs : List (DataW H × List MemPlace)), cs.length = n * e.size → xs.length = n →
      (∀ i, i < n → DataW.trod enc P w base spare held m t ((cs.drop (i * P.cellsOf t)).take (P.cellsOf t)) = xs[i]?) →
      ∃ lvs, VCs none' w lvs cs ∧ Forms (List.replicate n (rawAT e)) lvs ∧ shapeEl e lvs = true ∧ lvs.length = n ∧ xs.map (·.1) = dataOf.dataOfs lvs ∧ xs.flatMap (·.2) = []
  | 0, cs, xs, hc, hx, _ => by
    have : cs = [] := List.length_eq_zero_iff.1 (by simpa using hc)
    have h2 : xs = [] := List.length_eq_zero_iff.1 hx
    subst this h2
    exact ⟨[], rfl, rfl, rfl, rfl, rfl, rfl⟩
  | n + 1, cs, xs, hc, hx, h => by
    obtain ⟨x, xs, rfl⟩ : ∃ x r, xs = x :: r := by cases xs with | nil => cases hx | cons x r => exact ⟨x, r, rfl⟩
    rw [hsz] at h
    have h0 := h 0 (by omega)
    simp only [Nat.zero_mul, List.drop_zero, List.getElem?_cons_zero] at h0
    obtain ⟨lv, g1, g2, g3, g4, g5⟩ := one _ _ h0
    have hlen : (cs.drop e.size).length = n * e.size := by rw [List.length_drop, hc, Nat.succ_mul]; omega
    obtain ⟨lvs, k1, k2, k3, k4, k5, k6⟩ := els_read hsz one n (cs.drop e.size) xs hlen (by simpa using hx) (fun i hi => by
      have := h (i + 1) (by omega)
      rw [hsz, List.drop_drop, Nat.add_comm e.size, ← Nat.succ_mul, this, List.getElem?_cons_succ])
    refine ⟨lv :: lvs, ⟨_, _, (List.take_append_drop e.size cs).symm, g1, k1⟩, ⟨lv, lvs, rfl, g2, k2⟩, ?_, by simp [k4], by simp [dataOf.dataOfs, g4, k5], by simp [g5, k6]⟩
    simp only [shapeEl, g3, k3, Bool.and_self]

mutual
theorem read_VC : ∀ (ty : Ty) (t : TypeId) (fuel : Nat) (cs : List Value) (x : DataW H × List MemPlace), TyRep P ty t → ty.flatT = true → DataW.trod enc P w base spare held fuel t cs = some x →
    ∃ lv, VC none' w lv cs ∧ Form (rawAT ty) lv ∧ shape ty lv = true ∧ x.1 = dataOf lv ∧ x.2 = []
  | .int k, t, fuel, cs, x, ht, _, h => by
    obtain ⟨n, rfl, rfl, hw⟩ := DataW.trod_int (show P.underlying t = some (.int k) by simp only [TyRep] at ht; exact ht.2) h
    have := inK_of_wf hw
    exact ⟨.int k n, by simp only [VC]; exact ⟨(inK_iff _ _).2 this, trivial⟩, by simp only [rawAT, Form]; exact ⟨n, rfl, this⟩, by simp only [shape]; exact kindEq_refl k, rfl, rfl⟩
  | .bool, t, fuel, cs, x, ht, _, h => by
    obtain ⟨b, rfl, rfl⟩ := DataW.trod_bool (show P.underlying t = some .bool by simp only [TyRep] at ht; exact ht.2) h
    exact ⟨.bool b, by simp only [VC], by simp only [rawAT, Form]; exact ⟨b, rfl⟩, rfl, rfl, rfl⟩
  | .str, t, fuel, cs, x, ht, _, h => by
    obtain ⟨s, rfl, rfl, hs⟩ := DataW.trod_string (show P.underlying t = some .string by simp only [TyRep] at ht; exact ht.2) h
    have hs2 : s.size ≤ 9223372036854775807 := hs
    have hs' : (s.size : Int) ≤ 9223372036854775807 := by omega
    exact ⟨.str s, by simp only [VC]; exact ⟨(inK_iff _ _).2 ⟨by rw [show IntKind.i64.min = -9223372036854775808 from rfl]; omega, hs'⟩, trivial⟩, by simp only [rawAT, Form]; exact ⟨s, rfl, hs'⟩, rfl, rfl, rfl⟩
  | .struct fs, t, fuel, cs, x, ht, hf, h => by
    have hsz := cellsOf_eq ht
    simp only [TyRep] at ht
    obtain ⟨_, _, _, fields, hu, hr⟩ := ht
    obtain ⟨xs, n, rfl, rfl, hl, hxl, hx⟩ := DataW.trod_struct hu h
    rw [hsz] at hl
    obtain ⟨lvs, k1, k2, k3, k4, k5⟩ := reads_VC fs fields.toList 0 n cs xs hr (by simpa only [Ty.flatT] using hf) (by simpa only [Ty.size, Nat.zero_add] using hl) (by simpa using hxl) (fun i f hi => hx i f (by simpa using hi))
    refine ⟨.agg lvs, by simp only [VC]; simpa using k1, by simp only [rawAT, Form]; exact ⟨lvs, rfl, k2⟩, by simp only [shape]; exact k3, by simp only [dataOf, k4], by simp only [k5]⟩
  | .arr n e, t, fuel, cs, x, ht, hf, h => by
    have hsz := cellsOf_eq ht
    simp only [TyRep] at ht
    obtain ⟨_, _, et, hu, hr⟩ := ht
    obtain ⟨xs, m, rfl, rfl, hl, hxl, hx⟩ := DataW.trod_array hu h
    rw [hsz] at hl
    obtain ⟨lvs, k1, k2, k3, k4, k5, k6⟩ := els_read (cellsOf_eq hr) (fun cs x h => read_VC e et m cs x hr (by simpa only [Ty.flatT] using hf) h) n cs xs (by simpa only [Ty.size] using hl) hxl hx
    refine ⟨.agg lvs, by simp only [VC]; exact k1, by simp only [rawAT, Form]; exact ⟨lvs, rfl, k2⟩, by simp only [shape, k4, k3, Bool.and_true]; exact beq_self_eq_true n, by simp only [dataOf, k5], by simp only [k6]⟩
  | .slice _, _, _, _, _, _, hf, _ => by simp [Ty.flatT] at hf
  | .func, _, _, _, _, _, hf, _ => by simp [Ty.flatT] at hf
theorem reads_VC : ∀ (ts : List Ty) (fs : List Field) (off : Nat) (n : Nat) (cs : List Value) (xs : List (DataW H × List MemPlace)), TyReps P ts fs off → Ty.flatT.flatTs ts = true → cs.length = off + Ty.sizes ts → xs.length = fs.length →
    (∀ (i : Nat) (f : Field), fs[i]? = some f → DataW.trod enc P w base spare held n f.type ((cs.drop f.offset).take (P.cellsOf f.type)) = xs[i]?) →
    ∃ lvs, VCs none' w lvs (cs.drop off) ∧ Forms (rawAT.rawATs ts) lvs ∧ shapes ts lvs = true ∧ xs.map (·.1) = dataOf.dataOfs lvs ∧ xs.flatMap (·.2) = []
  | [], fs, off, n, cs, xs, hr, _, hl, hxl, _ => by
    simp only [TyReps] at hr
    subst hr
    have h2 : xs = [] := List.length_eq_zero_iff.1 hxl
    subst h2
    refine ⟨[], ?_, rfl, rfl, rfl, rfl⟩
    simp only [VCs]
    exact List.drop_eq_nil_of_le (by simp only [Ty.sizes] at hl; omega)
  | t :: ts, fs, off, n, cs, xs, hr, hf, hl, hxl, h => by
    simp only [TyReps] at hr
    obtain ⟨f, fs, rfl, hoff, _, _, h1, h2⟩ := hr
    obtain ⟨x, xs, rfl⟩ : ∃ x r, xs = x :: r := by cases xs with | nil => cases hxl | cons x r => exact ⟨x, r, rfl⟩
    simp only [Ty.flatT.flatTs, Bool.and_eq_true] at hf
    have h0 := h 0 f rfl
    rw [hoff, cellsOf_eq h1] at h0
    obtain ⟨lv, g1, g2, g3, g4, g5⟩ := read_VC t f.type n _ x h1 hf.1 (by simpa using h0)
    obtain ⟨lvs, k1, k2, k3, k4, k5⟩ := reads_VC ts fs (off + t.size) n cs xs h2 hf.2 (by simp only [Ty.sizes] at hl; omega) (by simpa using hxl) (fun i f hi => by
      have := h (i + 1) f (by simpa using hi)
      simpa using this)
    refine ⟨lv :: lvs, ⟨_, _, ?_, g1, k1⟩, ⟨lv, lvs, rfl, g2, k2⟩, by simp only [shapes, g3, k3, Bool.and_self], by simp [dataOf.dataOfs, g4, k4], by simp [g5, k5]⟩
    rw [← List.drop_drop, List.take_append_drop]
end

/-! ### slices that came in -/
def Ty.sliceT : Ty → Bool
  | .slice (.int _) => true
  | .slice (.struct [.int .u64, .int .u64]) => true
  | _ => false
theorem spot_none {a : Addr} {v : Value} (h : w.cell? a = some v) : a = ⟨a.block, a.off, none⟩ := by
  unfold World.cell? at h
  obtain ⟨b, o, s⟩ := a
  split at h
  · cases s with
    | none => rfl
    | some s => simp at h
  · cases h
theorem spot_add {a : Addr} {i : Nat} (h : a = ⟨a.block, a.off, none⟩) : a.add i = ⟨a.block, a.off + i, none⟩ := by
  rw [h]; exact addr_add _ _ _
/-- a list by its places -/
theorem list_of {α : Type} {p : Nat → α → Prop} : ∀ (n : Nat), (∀ i, i < n → ∃ x, p i x) → ∃ l : List α, l.length = n ∧ ∀ i x, l[i]? = some x → p i x
  | 0, _ => ⟨[], rfl, fun i x h => by simp at h⟩
  | n + 1, h => by
    obtain ⟨l, h1, h2⟩ := list_of n fun i hi => h i (by omega)
    obtain ⟨x, hx⟩ := h n (by omega)
    refine ⟨l ++ [x], by simp [h1], fun i y hy => ?_⟩
    by_cases hi : i < l.length
    · rw [List.getElem?_append_left hi] at hy; exact h2 i y hy
    · rw [List.getElem?_append_right (by omega)] at hy
      have hi0 : i - l.length = 0 := by
        have := (List.getElem?_eq_some_iff.1 hy).1
        simp at this; omega
      rw [hi0] at hy
      simp at hy
      subst hy
      rw [show i = n by omega]; exact hx
theorem read_slice {ty : Ty} {t : TypeId} {fuel : Nat} {cs : List Value} {x : DataW H × List MemPlace} (ht : TyRep P ty t) (hty : ty.sliceT = true) (h : DataW.trod enc P w base spare held fuel t cs = some x)
    (hb : ∀ es sp, x.1 = .slice es sp → (es.length : Int) < 4611686018427387904) : ∃ lv, VC none' w lv cs ∧ Form (rawAT ty) lv := by
  unfold Ty.sliceT at hty
  split at hty
  · rename_i k
    simp only [TyRep] at ht
    obtain ⟨_, et, hu, hr⟩ := ht
    have hsz := cellsOf_eq (P := P) (ty := .int k) (t := et) (by simp only [TyRep]; exact hr)
    rcases DataW.trod_slice hu h with ⟨rfl, _⟩ | ⟨a, len, cap, elems, rest, n, _, rfl, hx, _, hcap, _, hlen, hel, _, _⟩
    · exact ⟨.ints k [], by simp only [VC]; exact ⟨_, rfl, by simp, SlC_nil rfl rfl⟩, by simp only [rawAT, Form]; exact ⟨[], rfl, by simp, by decide⟩⟩
    · have hlb := hb (elems.map (·.1)) (rest.map (·.1)) (by rw [hx])
      simp only [List.length_map] at hlb
      have each : ∀ i, i < len → ∃ z : Int, (k.min ≤ z ∧ z ≤ k.max) ∧ w.cell? (a.add i) = some (.int k z) := by
        intro i hi
        have h1 := hel i hi
        rw [hsz] at h1
        have : ∃ y, elems[i]? = some y := ⟨elems[i], by simp [hlen, hi]⟩
        obtain ⟨y, hy⟩ := this
        rw [hy] at h1
        obtain ⟨c, hc, ht⟩ := Option.bind_eq_some_iff.1 h1
        obtain ⟨z, rfl, _, hw⟩ := DataW.trod_int hr.2 ht
        have := (World.cells?_some hc).2.2 0 (by show 0 < 1; omega)
        refine ⟨z, inK_of_wf hw, ?_⟩
        simpa [Addr.add, Ty.size] using this
      obtain ⟨l, hl, hlp⟩ := list_of len each
      have hin : ∀ z ∈ l, k.min ≤ z ∧ z ≤ k.max := fun z hz => by
        obtain ⟨i, hi⟩ := List.mem_iff_getElem?.1 hz
        exact (hlp i z hi).1
      refine ⟨.ints k l, ?_, by simp only [rawAT, Form]; exact ⟨l, rfl, hin, by rw [hl, ← hlen]; exact hlb⟩⟩
      · simp only [VC]
        refine ⟨_, rfl, fun z hz => (inK_iff _ _).2 (hin z hz), some a, cap, by rw [hl], by rw [hl]; exact ⟨by rw [← hlen]; exact hlb, hcap⟩, ?_⟩
        by_cases h0 : len = 0
        · left
          rw [h0] at hl
          rw [List.length_eq_zero_iff.1 hl]; rfl
        · right
          obtain ⟨z0, _, hc0⟩ := each 0 (by omega)
          have hs := spot_none (a := a) (by simpa [Addr.add] using hc0)
          refine ⟨a.block, a.off, by rw [← hs], fun k => by simp [none'], fun i hi => ?_⟩
          rw [List.length_map] at hi
          rw [← spot_add hs, List.getElem?_map]
          have : l[i]? = some l[i] := by simp [hi]
          rw [this, (hlp i _ this).2]
          rfl
  · have ht' := ht
    simp only [TyRep] at ht
    obtain ⟨_, et, hu, hr⟩ := ht
    have hr' : TyRep P (.struct [.int .u64, .int .u64]) et := by simp only [TyRep]; exact hr
    have hsz : P.cellsOf et = 2 := (cellsOf_eq hr').trans rfl
    rcases DataW.trod_slice hu h with ⟨rfl, _⟩ | ⟨a, len, cap, elems, rest, n, _, rfl, hx, _, hcap, _, hlen, hel, _, _⟩
    · exact ⟨.words [], by simp only [VC]; exact ⟨_, rfl, SlC_nil rfl rfl⟩, by simp only [rawAT, Form]; exact ⟨[], rfl, by decide⟩⟩
    · have hlb := hb (elems.map (·.1)) (rest.map (·.1)) (by rw [hx])
      simp only [List.length_map] at hlb
      have each : ∀ i, i < len → ∃ z : BitVec 128, w.cell? (a.add (i * 2)) = some (.int .u64 (hiR z)) ∧ w.cell? ((a.add (i * 2)).add 1) = some (.int .u64 (loR z)) := by
        intro i hi
        have h1 := hel i hi
        rw [hsz] at h1
        have : ∃ y, elems[i]? = some y := ⟨elems[i], by simp [hlen, hi]⟩
        obtain ⟨y, hy⟩ := this
        rw [hy] at h1
        obtain ⟨c, hc, htr⟩ := Option.bind_eq_some_iff.1 h1
        obtain ⟨lv, g1, g2, _⟩ := read_VC _ et n c y hr' rfl htr
        simp only [rawAT, rawAT.rawATs, Form, Forms] at g2
        obtain ⟨_, rfl, _, _, rfl, ⟨p, rfl, hp⟩, _, _, rfl, ⟨q, rfl, hq⟩, rfl⟩ := g2
        have hw := getWord_VC (lv := .agg [.int .u64 p, .int .u64 q]) (b := mkWordR p q) (by simp only [getWord, asInt]; rfl) g1
        subst hw
        have h2 := (World.cells?_some hc).2.2
        refine ⟨mkWordR p q, ?_, ?_⟩
        · have := h2 0 (by show 0 < 2; omega)
          simpa [Addr.add, wordCells] using this
        · have := h2 1 (by show 1 < 2; omega)
          simpa [wordCells] using this
      obtain ⟨l, hl, hlp⟩ := list_of len each
      refine ⟨.words l, ?_, by simp only [rawAT, Form]; exact ⟨l, rfl, by rw [hl, ← hlen]; exact hlb⟩⟩
      simp only [VC]
      refine ⟨_, rfl, some a, cap, by rw [hl], by rw [hl]; exact ⟨by rw [← hlen]; exact hlb, hcap⟩, ?_⟩
      by_cases h0 : len = 0
      · left
        rw [h0] at hl
        rw [List.length_eq_zero_iff.1 hl]; rfl
      · right
        obtain ⟨z0, hc0, _⟩ := each 0 (by omega)
        have hs := spot_none (a := a) (by simpa [Addr.add] using hc0)
        refine ⟨a.block, a.off, by rw [← hs], fun k => by simp [none'], fun i hi => ?_⟩
        have hfl : ∀ (l : List (BitVec 128)) (i : Nat), (l.flatMap wordCells)[i]? = (l[i / 2]?).map fun b => if i % 2 = 0 then .int .u64 (hiR b) else .int .u64 (loR b) := by
          intro l
          induction l with
          | nil => intro i; simp
          | cons b l ih =>
            intro i
            rw [List.flatMap_cons]
            rcases i with _ | _ | i
            · rfl
            · rfl
            · rw [List.getElem?_append_right (by simp [wordCells])]
              rw [show i + 1 + 1 - (wordCells b).length = i by simp [wordCells], ih, show (i + 1 + 1) / 2 = i / 2 + 1 by omega, show (i + 1 + 1) % 2 = i % 2 by omega, List.getElem?_cons_succ]
        have hll : (l.flatMap wordCells).length = 2 * l.length := by
          clear hlp hl hi
          induction l with
          | nil => rfl
          | cons b l ih => rw [List.flatMap_cons, List.length_append, ih]; simp [wordCells]; omega
        rw [hll] at hi
        rw [hfl]
        have hi2 : i / 2 < l.length := by omega
        have hg : l[i / 2]? = some l[i / 2] := by simp [hi2]
        rw [hg]
        obtain ⟨p1, p2⟩ := hlp (i / 2) _ hg
        rw [spot_add hs] at p1 p2
        have p2' := p2
        rw [addr_add] at p2'
        rcases Nat.mod_two_eq_zero_or_one i with hm | hm
        · rw [Option.map_some, if_pos hm, show a.off + i = a.off + i / 2 * 2 by omega]; exact p1
        · rw [Option.map_some, if_neg (by omega), show a.off + i = a.off + i / 2 * 2 + 1 by omega]; exact p2'
  · cases hty
end
end Go.LE
namespace Go.LE
open Go Go.RowKit Go.ChangeShapes Go.WideShapes

mutual
/-- may a specification's argument be told of values of a type? -/
def atOk : AT → Ty → Bool
  | .int k, .int j => kindEq k j
  | .bool, .bool => true
  | .str, .str => true
  | .wide, .arr 8 (.int .u64) => true
  | .word, .struct [.int .u64, .int .u64] => true
  | .ints k, .slice (.int j) => kindEq k j
  | .words, .slice (.struct _) => true
  | .st l, .struct fs => atOks l fs
  | .st l, .arr n e => natEq l.length n && atEl l e
  | _, _ => false
def atOks : List AT → List Ty → Bool
  | [], [] => true
  | a :: l, t :: ts => atOk a t && atOks l ts
  | _, _ => false
def atEl : List AT → Ty → Bool
  | [], _ => true
  | a :: l, t => atOk a t && atEl l t
end
theorem rawAT_struct (fs : List Ty) : rawAT (.struct fs) = .st (rawAT.rawATs fs) := by simp only [rawAT]
mutual
theorem canon_ok : ∀ (a : AT) (ty : Ty) (x : LV), atOk a ty = true → Form (rawAT ty) x → ∃ y, canon real a x = some y
  | .int k, ty, x, h, hf => by
    cases ty <;> simp only [atOk, Bool.false_eq_true] at h
    rename_i j
    have := kindEq_eq h; subst this
    simp only [rawAT, Form] at hf
    obtain ⟨n, rfl, _⟩ := hf
    exact ⟨.int k n, by simp only [canon, isK, asInt, kindEq_refl]⟩
  | .bool, ty, x, h, hf => by
    cases ty <;> simp only [atOk, Bool.false_eq_true] at h
    simp only [rawAT, Form] at hf
    obtain ⟨n, rfl⟩ := hf
    exact ⟨.bool n, by simp only [canon, isArgB]⟩
  | .str, ty, x, h, hf => by
    cases ty <;> simp only [atOk, Bool.false_eq_true] at h
    simp only [rawAT, Form] at hf
    obtain ⟨n, rfl, _⟩ := hf
    exact ⟨.str n, by simp only [canon, strOf]⟩
  | .wide, ty, x, h, hf => by
    unfold atOk at h
    split at h <;> first | cases h | skip
    all_goals first | (rename_i e _; cases e; done) | skip
    all_goals first | (rename_i e; cases e; done) | skip
    simp only [rawAT, Form, List.replicate, Forms] at hf
    obtain ⟨_, rfl, _, _, rfl, ⟨a, rfl, _⟩, _, _, rfl, ⟨b, rfl, _⟩, _, _, rfl, ⟨c, rfl, _⟩, _, _, rfl, ⟨d, rfl, _⟩, _, _, rfl, ⟨e, rfl, _⟩, _, _, rfl, ⟨f, rfl, _⟩, _, _, rfl, ⟨g, rfl, _⟩, _, _, rfl, ⟨h, rfl, _⟩, rfl⟩ := hf
    exact ⟨_, by simp only [canon, getW, allInts8, asInt]; rfl⟩
  | .word, ty, x, h, hf => by
    unfold atOk at h
    split at h <;> first | cases h | skip
    all_goals first | (rename_i e _; cases e; done) | skip
    all_goals first | (rename_i e; cases e; done) | skip
    simp only [rawAT, rawAT.rawATs, Form, Forms] at hf
    obtain ⟨_, rfl, _, _, rfl, ⟨a, rfl, _⟩, _, _, rfl, ⟨b, rfl, _⟩, rfl⟩ := hf
    exact ⟨_, by simp only [canon, getWord, asInt]; rfl⟩
  | .big, ty, x, h, _ => by cases ty <;> simp [atOk] at h
  | .ints k, ty, x, h, hf => by
    unfold atOk at h
    split at h <;> first | (rename_i e _; cases e; done) | (rename_i e; cases e; done) | skip
    all_goals first | (cases h; done) | skip
    rename_i k' j e1
    cases e1
    have := kindEq_eq h; subst this
    simp only [rawAT, Form] at hf
    obtain ⟨l, rfl, _⟩ := hf
    exact ⟨_, by simp only [canon, cInts, kindEq_refl]; rfl⟩
  | .words, ty, x, h, hf => by
    unfold atOk at h
    split at h <;> first | (rename_i e _; cases e; done) | (rename_i e; cases e; done) | skip
    all_goals first | (cases h; done) | skip
    simp only [rawAT, Form] at hf
    obtain ⟨l, rfl, _⟩ := hf
    exact ⟨_, by simp only [canon, cWords]; rfl⟩
  | .tup _, ty, x, h, _ => by cases ty <;> simp [atOk] at h
  | .lst _, ty, x, h, _ => by cases ty <;> simp [atOk] at h
  | .cell _, ty, x, h, _ => by cases ty <;> simp [atOk] at h
  | .fnc _ _, ty, x, h, _ => by cases ty <;> simp [atOk] at h
  | .st l, ty, x, h, hf => by
    cases ty <;> simp only [atOk, Bool.false_eq_true, Bool.and_eq_true] at h
    · simp only [rawAT, Form] at hf
      obtain ⟨xs, rfl, hf⟩ := hf
      obtain ⟨ys, hy⟩ := canons_ok l _ xs h hf
      exact ⟨.agg ys, by simp only [canon, hy]⟩
    · simp only [rawAT, Form] at hf
      obtain ⟨xs, rfl, hf⟩ := hf
      have := natEq_true h.1
      subst this
      obtain ⟨ys, hy⟩ := canonEl_ok l _ xs h.2 hf
      exact ⟨.agg ys, by simp only [canon, hy]⟩
theorem canons_ok : ∀ (l : List AT) (ts : List Ty) (xs : List LV), atOks l ts = true → Forms (rawAT.rawATs ts) xs → ∃ ys, canons real l xs = some ys
  | [], ts, xs, h, hf => by
    cases ts <;> simp only [atOks, Bool.false_eq_true] at h
    simp only [rawAT.rawATs, Forms] at hf
    subst hf
    exact ⟨[], by simp only [canons]⟩
  | a :: l, ts, xs, h, hf => by
    cases ts <;> simp only [atOks, Bool.false_eq_true, Bool.and_eq_true] at h
    simp only [rawAT.rawATs, Forms] at hf
    obtain ⟨x, xs, rfl, h1, h2⟩ := hf
    obtain ⟨y, hy⟩ := canon_ok a _ x h.1 h1
    obtain ⟨ys, hys⟩ := canons_ok l _ xs h.2 h2
    exact ⟨y :: ys, by simp only [canons, hy, hys]⟩
theorem canonEl_ok : ∀ (l : List AT) (t : Ty) (xs : List LV), atEl l t = true → Forms (List.replicate l.length (rawAT t)) xs → ∃ ys, canons real l xs = some ys
  | [], t, xs, h, hf => by
    simp only [List.length_nil, List.replicate, Forms] at hf
    subst hf
    exact ⟨[], by simp only [canons]⟩
  | a :: l, t, xs, h, hf => by
    simp only [atEl, Bool.and_eq_true] at h
    simp only [List.length_cons, List.replicate, Forms] at hf
    obtain ⟨x, xs, rfl, h1, h2⟩ := hf
    obtain ⟨y, hy⟩ := canon_ok a _ x h.1 h1
    obtain ⟨ys, hys⟩ := canonEl_ok l _ xs h.2 h2
    exact ⟨y :: ys, by simp only [canons, hy, hys]⟩
end

section
variable {H : Type} {enc : TypeId × Value → H} {P : Program} {w : World}
theorem VV_of_ok {ty : Ty} {t : TypeId} {base : Nat} {v : Value} {lv : LV} (hr : TyRep P ty t) (hfl : ty.flatT = true) (hok : Value.okWide P w .any base t v) (hf : Form (rawAT ty) lv) (hv : VC none' w lv v.cells.toList) : VV none' w lv v := by
  cases ty <;> simp only [Ty.flatT, Bool.false_eq_true] at hfl
  case int k =>
    simp only [TyRep] at hr
    simp only [rawAT, Form] at hf
    obtain ⟨n, rfl, _⟩ := hf
    simp only [VC] at hv
    cases v <;> simp [Value.okWide, hr.2, Cell.okWide, Cell.ok] at hok
    simp only [VV]
    exact ⟨hv.1, by simpa [Value.cells] using hv.2⟩
  case bool =>
    simp only [TyRep] at hr
    simp only [rawAT, Form] at hf
    obtain ⟨n, rfl⟩ := hf
    simp only [VC] at hv
    cases v <;> simp [Value.okWide, hr.2, Cell.okWide, Cell.ok] at hok
    simp only [VV]
    simpa [Value.cells] using hv
  case str =>
    simp only [TyRep] at hr
    simp only [rawAT, Form] at hf
    obtain ⟨n, rfl, _⟩ := hf
    simp only [VC] at hv
    cases v <;> simp [Value.okWide, hr.2, Cell.okWide, Cell.ok] at hok
    simp only [VV]
    exact ⟨hv.1, by simpa [Value.cells] using hv.2⟩
  case struct fs =>
    simp only [TyRep] at hr
    obtain ⟨_, _, _, fields, hu, _⟩ := hr
    simp only [rawAT, Form] at hf
    obtain ⟨l, rfl, _⟩ := hf
    simp only [Value.okWide, hu] at hok
    obtain ⟨cs, rfl, _⟩ := hok
    simp only [VC] at hv
    simp only [VV]
    exact ⟨cs.toList, by simp, hv⟩
  case arr n e =>
    simp only [TyRep] at hr
    obtain ⟨_, _, et, hu, _⟩ := hr
    simp only [rawAT, Form] at hf
    obtain ⟨l, rfl, _⟩ := hf
    simp only [Value.okWide, hu] at hok
    obtain ⟨cs, rfl, _⟩ := hok
    simp only [VC] at hv
    simp only [VV]
    exact ⟨cs.toList, by simp, hv⟩

theorem VV_of_slice {ty : Ty} {t : TypeId} {base : Nat} {v : Value} {lv : LV} (hr : TyRep P ty t) (hfl : ty.sliceT = true) (hok : Value.okWide P w .any base t v) (hf : Form (rawAT ty) lv) (hv : VC none' w lv v.cells.toList) : VV none' w lv v := by
  unfold Ty.sliceT at hfl
  split at hfl
  · simp only [TyRep] at hr
    obtain ⟨_, et, hu, _⟩ := hr
    simp only [rawAT, Form] at hf
    obtain ⟨l, rfl, _⟩ := hf
    simp only [VC] at hv
    cases v <;> simp [Value.okWide, hu, Cell.okWide, Cell.ok] at hok
    obtain ⟨v', e, h1, h2⟩ := hv
    simp [Value.cells] at e
    subst e
    simp only [VV]
    exact ⟨h1, h2⟩
  · simp only [TyRep] at hr
    obtain ⟨_, et, hu, _⟩ := hr
    simp only [rawAT, Form] at hf
    obtain ⟨l, rfl, _⟩ := hf
    simp only [VC] at hv
    cases v <;> simp [Value.okWide, hu, Cell.okWide, Cell.ok] at hok
    obtain ⟨v', e, h2⟩ := hv
    simp [Value.cells] at e
    subst e
    simp only [VV]
    exact h2
  · cases hfl
def TyAll (P : Program) : List Ty → List TypeId → Prop
  | [], [] => True
  | t :: ts, i :: is => TyRep P t i ∧ (t.flatT || t.sliceT) = true ∧ TyAll P ts is
  | _, _ => False
def bytesB (P : Program) (ids : List TypeId) : Bool := ids.all fun t => match P.underlying t with | some (.slice e) => natLe 1 (P.bytesOf e) | _ => true
theorem args_read {base : Nat} {sp : Nat → Bool} {hd : Bool} : ∀ (ts : List Ty) (ids : List TypeId) (vs : List Value) (ds : List (DataW H)) (ps : List MemPlace), TyAll P ts ids → DataW.TrodAll enc P w 0 sp hd ids vs ds ps →
    (∀ (j : Nat) t v, ids[j]? = some t → vs[j]? = some v → Value.okWide P w .any base t v) → bytesB P ids = true → (DataW.weightsEach P ids ds).all (· ≤ reachBytes) = true → ∃ lvs, VVs none' w lvs vs ∧ Forms (rawAT.rawATs ts) lvs
  | [], [], vs, ds, ps, _, h, _, _, _ => by
    obtain ⟨rfl, rfl, rfl⟩ := trodAll_nil h
    exact ⟨[], rfl, rfl⟩
  | t :: ts, i :: is, vs, ds, ps, ht, h, hok, hbz, hw => by
    obtain ⟨v, vs, d, ds, p, q, rfl, rfl, rfl, h1, h2⟩ := trodAll_cons h
    obtain ⟨n, h1⟩ := h1
    have hbz' := hbz
    simp only [bytesB, List.all_cons, Bool.and_eq_true] at hbz
    have hw2 : (DataW.weightsEach P is ds).all (· ≤ reachBytes) = true := by
      simp only [DataW.weightsEach, List.all_append, Bool.and_eq_true] at hw
      exact hw.2
    obtain ⟨lvs, k1, k2⟩ := args_read ts is vs ds q ht.2.2 h2 (fun j t v h1 h2 => hok (j + 1) t v (by simpa using h1) (by simpa using h2)) hbz.2 hw2
    have hty := ht.2.1
    rw [Bool.or_eq_true] at hty
    rcases hty with hty | hty
    · obtain ⟨lv, g1, g2, _, _, _⟩ := read_VC t i n _ _ ht.1 hty h1
      exact ⟨lv :: lvs, ⟨v, vs, rfl, VV_of_ok ht.1 hty (hok 0 i v rfl rfl) g2 g1, k1⟩, ⟨lv, lvs, rfl, g2, k2⟩⟩
    · have hu : ∃ e, P.underlying i = some (.slice e) := by
        have hr := ht.1
        unfold Ty.sliceT at hty
        split at hty
        · simp only [TyRep] at hr; obtain ⟨_, et, hu, _⟩ := hr; exact ⟨et, hu⟩
        · simp only [TyRep] at hr; obtain ⟨_, et, hu, _⟩ := hr; exact ⟨et, hu⟩
        · cases hty
      obtain ⟨e, hu⟩ := hu
      have hb1 : 1 ≤ P.bytesOf e := by
        have := hbz.1
        rw [hu] at this
        exact natLe_true this
      obtain ⟨lv, g1, g2⟩ := read_slice ht.1 hty h1 (fun es sp he => by
        have he : d = .slice es sp := he
        have := sized_slice hw (j := 0) (t := i) (e := e) (elems := es) (spare := sp) rfl (by rw [he]; rfl) hu
        have h3 := Nat.mul_le_mul_left (es.length + sp.length) hb1
        have h4 : reachBytes < 2 ^ 47 := by decide
        simp only [Nat.reducePow] at h4
        omega)
      exact ⟨lv :: lvs, ⟨v, vs, rfl, VV_of_slice ht.1 hty (hok 0 i v rfl rfl) g2 g1, k1⟩, ⟨lv, lvs, rfl, g2, k2⟩⟩
  | [], _ :: _, _, _, _, h, _, _, _, _ => h.elim
  | _ :: _, [], _, _, _, h, _, _, _, _ => h.elim

/-- a law, called -/
theorem law_calls {G : List (Nat × Ty × LV)} {f : FuncId} {ats : List AT} {g : List LV → R LV} {tys : List Ty} {ids : List TypeId} (hs : SpecOk P G f (mkSpec real ats g)) (hg : ∀ l, Forms ats l → (g l).Y (.bool true))
    (hats : atOks ats tys = true) (hT : TyAll P tys ids) {base : Nat} {sp : Nat → Bool} {hd : Bool} {vs : List Value} {ds : List (DataW H)} {ps : List MemPlace} (h : DataW.TrodAll enc P w 0 sp hd ids vs ds ps)
    (hok : ∀ (j : Nat) t v, ids[j]? = some t → vs[j]? = some v → Value.okWide P w .any base t v) (hbz : bytesB P ids = true) (hw : (DataW.weightsEach P ids ds).all (· ≤ reachBytes) = true) (hGR : GR G none' w) :
    Calls P f vs.toArray w fun e w' => e = .returned (.bool true) ∧ Below w.heap.size w w' := by
  obtain ⟨lvs, k1, k2⟩ := args_read tys ids vs ds ps hT h hok hbz hw
  obtain ⟨ys, hy⟩ := canons_ok ats tys lvs hats k2
  have hfm := (canons_VV (ρ := none') (w := w) ats lvs ys vs hy k1).2
  refine (hs.2 lvs (.bool true) ?_ w vs k1 hGR).mono fun e w' ⟨v, he, hv, hb⟩ => ?_
  · unfold mkSpec
    rw [hy]
    exact hg ys hfm
  · simp only [VV] at hv
    subst hv
    exact ⟨he, hb⟩

/-- what is left when a law has been called: nothing that was there has turned -/
theorem law_post {f : Func} {s : ChangeSpec} {fresh handsOn again : Bool} {w' : World} {args : Array Value} {ds gs : List (DataW H)} {before : List MemPlace} {t : TypeId} (hl : laidOutB P = true)
    (hp : (f.params.toList.all fun t => P.readableRec t && decide (t < P.types.size)) = true) (hv : s.vars = []) (hrt : f.resultTypes = #[t]) (htb : P.underlying t = some .bool)
    (hsp : ∀ l : List (DataW H), l.length = f.params.toList.length → s.fn H l = { results := [.lit (.bool true)], args := l })
    (hW : DataW.Whole enc P f.params.toList s.vars false w args.toList ds gs before) (hb : Below w.heap.size w w') :
    s.post enc P f false fresh handsOn again w args (.bool true) w' := by
  have hW2 := hW
  obtain ⟨p, q, hA, hV, rfl, hz, _⟩ := hW
  rw [hv] at hV
  obtain ⟨rfl, rfl⟩ := trodVars_none hV
  have hlen : ∀ (ts : List TypeId) (vs : List Value) (ds : List (DataW H)) (p : List MemPlace), DataW.TrodAll enc P w 0 (fun _ => true) true ts vs ds p → ds.length = ts.length := by
    intro ts
    induction ts with
    | nil => intro vs ds p h; obtain ⟨_, rfl, _⟩ := trodAll_nil h; rfl
    | cons t ts ih => intro vs ds p h; obtain ⟨v, vs, d, ds, p, q, rfl, rfl, rfl, h1, h2⟩ := trodAll_cons h; simp [ih _ _ _ h2]
  have hs : s.fn H (ds ++ []) = { results := [.lit (.bool true)], args := ds } := by rw [List.append_nil]; exact hsp ds (hlen _ _ _ _ hA)
  have hlt : ∀ x ∈ p ++ [], x.block < w.heap.size := fun x hx => hW2.lt x hx
  rw [List.append_nil] at hlt
  have same : ∀ x ∈ p, w.sameAt w' x := by
    intro x hx
    have hx' := hlt x hx
    cases x with
    | cell b off => exact hb.cell (p := ⟨b, off, none⟩) hx'
    | map b => exact hb.block b hx'
  have stay : ∀ (sp : Nat → Bool), (∀ x ∈ p, sp x.block = true) → ∀ (ts : List TypeId) (vs : List Value) (ds : List (DataW H)) (q : List MemPlace), (ts.all fun t => P.readableRec t && decide (t < P.types.size)) = true → (∀ x ∈ q, x ∈ p) →
      DataW.TrodAll enc P w 0 (fun _ => true) true ts vs ds q → DataW.TrodAll enc P w' 0 sp true ts vs ds q := by
    intro sp hsp ts
    induction ts with
    | nil => intro vs ds q _ _ h; obtain ⟨rfl, rfl, rfl⟩ := trodAll_nil h; exact trodAll_mk0
    | cons t ts ih =>
      intro vs ds q hall hq h
      obtain ⟨v, vs, d, ds, p1, q1, rfl, rfl, rfl, h1, h2⟩ := trodAll_cons h
      simp only [List.all_cons, Bool.and_eq_true, decide_eq_true_eq] at hall
      exact trodAll_cons_mk (WideElems.Trod_stays hl hall.1.1 hall.1.2 h1 (fun x hx => same x (hq x (by simp [hx]))) (fun x hx => hsp x (hq x (by simp [hx])))) (ih _ _ _ hall.2 (fun x hx => hq x (by simp [hx])) h2)
  have hres : ∀ (b : Nat) (sp : Nat → Bool) (hd : Bool), DataW.TrodAll enc P w' b sp hd f.resultTypes.toList ((Value.bool true).resultList f.resultTypes.size) [.lit (.bool true)] [] := by
    intro b sp hd
    rw [hrt]
    exact trodAll_cons_mk (shut_bool htb _) trodAll_mk0
  have hok : ∀ (j : Nat) (t' : TypeId) (r : Value), f.resultTypes[j]? = some t' → ((Value.bool true).resultList f.resultTypes.size)[j]? = some r → Value.okWide P w' .any 0 t' r := by
    exact ok_one hrt rfl (okWide_bool_mk htb _)
  have hold : ∀ x ∈ p, (fun b => decide (b < w.heap.size)) x.block = true := fun x hx => by simpa using hlt x hx
  have hargs := fun sp hsp => stay sp hsp _ _ _ _ hp (fun x hx => hx) hA
  refine ⟨ds, [], p ++ [], [], p, [], hW2, ?_, ?_, ?_, World.keptBut_mono (fun x hx => ⟨hx, ?_⟩) (hb.frame (· ∈ p ++ [])), fun _ => ?_⟩
  · rw [hs]; exact hres _ _ _
  · rw [hs]; exact hargs _ hold
  · rw [hs, hv]; rfl
  · exact Or.inr (by simpa using hx)
  · rw [hv]
    refine ⟨hok, _, _, ([] ++ p) ++ [], ⟨[] ++ p, [], trodAll_append (hargs _ (fun _ _ => rfl)) (hres _ _ _), (show DataW.TrodVars enc P w' (fun _ => true) [] [] [] from rfl), rfl, ?_, by simp⟩, ?_⟩
    · intro b off hx
      have hin : MemPlace.cell b off ∈ p := by simpa using hx
      rw [hb.frozen (hlt _ hin)]
      exact hz b off (by simpa using hin)
    · intro x hx _
      simpa using hx

/-! ## the package's variables, as the row lists them -/
mutual
def isDat : LV → Bool
  | .int _ _ | .lit _ _ | .bool _ | .blit _ | .str _ | .slit _ => true
  | .agg ps => isDats ps
  | _ => false
def isDats : List LV → Bool
  | [] => true
  | p :: ps => isDat p && isDats ps
end
mutual
theorem Form_isDat : ∀ (ty : Ty) (x : LV), ty.flatT = true → Form (rawAT ty) x → isDat x = true
  | .int _, x, _, h => by simp only [rawAT, Form] at h; obtain ⟨n, rfl, _⟩ := h; rfl
  | .bool, x, _, h => by simp only [rawAT, Form] at h; obtain ⟨n, rfl⟩ := h; rfl
  | .str, x, _, h => by simp only [rawAT, Form] at h; obtain ⟨n, rfl, _⟩ := h; rfl
  | .struct fs, x, hf, h => by
    simp only [rawAT, Form] at h
    obtain ⟨l, rfl, h⟩ := h
    simp only [isDat]
    exact Forms_isDats fs l (by simpa only [Ty.flatT] using hf) h
  | .arr n e, x, hf, h => by
    simp only [rawAT, Form] at h
    obtain ⟨l, rfl, h⟩ := h
    simp only [isDat]
    have one := fun x => Form_isDat e x (by simpa only [Ty.flatT] using hf)
    clear hf
    induction n generalizing l with
    | zero => simp only [List.replicate, Forms] at h; subst h; rfl
    | succ n ih =>
      simp only [List.replicate, Forms] at h
      obtain ⟨x, xs, rfl, h1, h2⟩ := h
      simp only [isDats, one x h1, ih xs h2, Bool.and_self]
  | .slice _, _, hf, _ => by simp [Ty.flatT] at hf
  | .func, _, hf, _ => by simp [Ty.flatT] at hf
theorem Forms_isDats : ∀ (ts : List Ty) (xs : List LV), Ty.flatT.flatTs ts = true → Forms (rawAT.rawATs ts) xs → isDats xs = true
  | [], xs, _, h => by simp only [rawAT.rawATs, Forms] at h; subst h; rfl
  | t :: ts, xs, hf, h => by
    simp only [rawAT.rawATs, Forms] at h
    obtain ⟨x, xs, rfl, h1, h2⟩ := h
    simp only [Ty.flatT.flatTs, Bool.and_eq_true] at hf
    simp only [isDats, Form_isDat t x hf.1 h1, Forms_isDats ts xs hf.2 h2, Bool.and_self]
end
theorem bytes_ext {s t : ByteArray} (h : s.data.toList = t.data.toList) : s = t := by
  obtain ⟨⟨s⟩⟩ := s
  obtain ⟨⟨t⟩⟩ := t
  simp only at h
  rw [h]
mutual
theorem dat_VC : ∀ (x y : LV) (cs : List Value), isDat x = true → isDat y = true → (dataOf x : DataW H) = dataOf y → VC none' w y cs → VC none' w x cs
  | .int k n, y, cs, _, hy, h, hv => by
    cases y <;> simp [isDat, dataOf] at hy h
    all_goals (obtain ⟨rfl, rfl⟩ := h; simp only [VC] at hv ⊢; exact hv)
  | .lit k n, y, cs, _, hy, h, hv => by
    cases y <;> simp [isDat, dataOf] at hy h
    all_goals (obtain ⟨rfl, rfl⟩ := h; simp only [VC] at hv ⊢; exact hv)
  | .bool b, y, cs, _, hy, h, hv => by
    cases y <;> simp [isDat, dataOf] at hy h
    all_goals (subst h; simp only [VC] at hv ⊢; exact hv)
  | .blit b, y, cs, _, hy, h, hv => by
    cases y <;> simp [isDat, dataOf] at hy h
    all_goals (subst h; simp only [VC] at hv ⊢; exact hv)
  | .str s, y, cs, _, hy, h, hv => by
    cases y <;> simp only [isDat, dataOf, DataW.lit.injEq, Lit.string.injEq, reduceCtorEq, Bool.false_eq_true] at hy h
    all_goals (have := bytes_ext h; subst this; simp only [VC] at hv ⊢; exact hv)
  | .slit s, y, cs, _, hy, h, hv => by
    cases y <;> simp only [isDat, dataOf, DataW.lit.injEq, Lit.string.injEq, reduceCtorEq, Bool.false_eq_true] at hy h
    all_goals (have := bytes_ext h; subst this; simp only [VC] at hv ⊢; exact hv)
  | .agg ps, y, cs, hx, hy, h, hv => by
    cases y <;> simp only [isDat, dataOf, DataW.agg.injEq, reduceCtorEq, Bool.false_eq_true] at hx hy h
    simp only [VC] at hv ⊢
    exact dats_VC ps _ cs hx hy h hv
  | .wide _, _, _, hx, _, _, _ | .word _, _, _, hx, _, _, _ | .tup _, _, _, hx, _, _, _ | .ptr _ _, _, _, hx, _, _, _ | .gptr _ _, _, _, hx, _, _, _ | .sl _ _ _, _, _, hx, _, _, _ | .fn _ _, _, _, hx, _, _, _
  | .nils, _, _, hx, _, _, _ | .nilf, _, _, hx, _, _, _ | .im _, _, _, hx, _, _, _ | .big _, _, _, hx, _, _, _ | .words _, _, _, hx, _, _, _ | .ints _ _, _, _, hx, _, _, _ | .cell _, _, _, hx, _, _, _ | .undef, _, _, hx, _, _, _ => by simp [isDat] at hx
theorem dats_VC : ∀ (xs ys : List LV) (cs : List Value), isDats xs = true → isDats ys = true → (dataOf.dataOfs xs : List (DataW H)) = dataOf.dataOfs ys → VCs none' w ys cs → VCs none' w xs cs
  | [], [], cs, _, _, _, hv => hv
  | [], _ :: _, _, _, _, h, _ => by simp [dataOf.dataOfs] at h
  | _ :: _, [], _, _, _, h, _ => by simp [dataOf.dataOfs] at h
  | x :: xs, y :: ys, cs, hx, hy, h, hv => by
    simp only [isDats, Bool.and_eq_true] at hx hy
    simp only [dataOf.dataOfs, List.cons.injEq] at h
    simp only [VCs] at hv ⊢
    obtain ⟨c1, c2, rfl, h1, h2⟩ := hv
    exact ⟨c1, c2, rfl, dat_VC x y c1 hx.1 hy.1 h.1 h1, dats_VC xs ys c2 hx.2 hy.2 h.2 h2⟩
end

theorem GR_nil : GR [] none' w := ⟨fun g ty c h => by simp [look] at h, fun g ty c k h => by simp [look] at h⟩
theorem GR_cons {G : List (Nat × Ty × LV)} {g : Nat} {ty : Ty} {c : LV} (h1 : ∃ cs t fr, w.heap[g]? = some (.cells cs.toArray t fr) ∧ VC none' w c cs ∧ shape ty c = true ∧ flat c = true) (h : GR G none' w) : GR ((g, ty, c) :: G) none' w where
  cont g' ty' c' hl := by
    unfold look at hl
    split at hl
    · rename_i e
      have := natEq_true e; subst this
      cases hl
      exact h1
    · exact h.cont g' ty' c' hl
  apart g' ty' c' k _ := by simp [none']

theorem laid_one {n : String} {d : DataW Unit} {r : List (String × DataW Unit)} {ps : List MemPlace} {g : Nat} {t : TypeId} {ty : Ty} {c : LV} (h : DataW.LaidVars P w ((n, d) :: r) ps) (hg : P.globalNamed n = some g)
    (ht : (P.globals[g]?).map (·.type) = some t) (hr : TyRep P ty t) (hfl : ty.flatT = true) (hc : isDat c = true) (hs : shape ty c = true) (hf : flat c = true) (hd : d = dataOf c) :
    (∃ cs t fr, w.heap[g]? = some (.cells cs.toArray t fr) ∧ VC none' w c cs ∧ shape ty c = true ∧ flat c = true) ∧ ∃ q, DataW.LaidVars P w r q := by
  obtain ⟨g', t', cs, fuel, p, q, h1, h2, h3, h4, h5, _⟩ := h
  rw [hg] at h1
  cases h1
  rw [ht] at h2
  cases h2
  refine ⟨?_, q, h5⟩
  obtain ⟨lv, k1, k2, _, k4, _⟩ := read_VC ty t fuel _ _ hr hfl h4
  have hv := dat_VC c lv _ hc (Form_isDat ty lv hfl k2) (by rw [← hd]; exact k4) k1
  unfold World.var? at h3
  rw [hg] at h3
  simp only [Option.bind_some] at h3
  split at h3
  · rename_i cs' t' fr hh
    cases h3
    exact ⟨cs.toList, t', fr, by simpa using hh, hv, hs, hf⟩
  · cases h3
theorem laid_of {laid : List (String × DataW Unit)} (h : laidMetH P laid w) (hn : (laid.filter fun x => x.2.handleName?.isSome) = []) : ∃ ps, DataW.LaidVars P w laid ps := by
  unfold laidMetH at h
  rw [hn] at h
  obtain ⟨ps, h, _⟩ := h
  exact ⟨ps, h⟩
end
end Go.LE
namespace Go.LE
open Go
/-- the same contract, its result told otherwise -/
theorem spec_as {P : Program} {G : List (Nat × Ty × LV)} {f : FuncId} {O : Prim} {ts : List AT} {g g' : List LV → R LV} (h : SpecOk P G f (mkSpec O ts g)) (hg : ∀ l r, (g' l).Y r → ∃ r', (g l).Y r' ∧ Same r' r) : SpecOk P G f (mkSpec O ts g') := by
  refine ⟨h.1, fun args r hY w vals hv hgr => ?_⟩
  unfold mkSpec at hY
  split at hY
  · rename_i l hl
    obtain ⟨r', h1, h2⟩ := hg l r hY
    refine (h.2 args r' (by unfold mkSpec; rw [hl]; exact h1) w vals hv hgr).mono fun e w' ⟨v, he, hv', hb⟩ => ⟨v, he, h2 _ _ _ hv', hb⟩
  · exact hY.elim
end Go.LE
namespace Go.LE
open Go
theorem spec_or {P : Program} {G : List (Nat × Ty × LV)} {f : FuncId} {ts : List AT} {g1 g2 g : List LV → R LV} (h1 : SpecOk P G f (mkSpec real ts g1)) (h2 : SpecOk P G f (mkSpec real ts g2))
    (hg : ∀ l r, Forms ts l → (g l).Y r → (g1 l).Y r ∨ (g2 l).Y r) : SpecOk P G f (mkSpec real ts g) := by
  refine ⟨h1.1, fun args r hY w vals hv hgr => ?_⟩
  unfold mkSpec at hY
  split at hY
  · rename_i l hl
    have hf := (canons_VV ts args l vals hl hv).2
    rcases hg l r hf hY with h | h
    · exact h1.2 args r (by unfold mkSpec; rw [hl]; exact h) w vals hv hgr
    · exact h2.2 args r (by unfold mkSpec; rw [hl]; exact h) w vals hv hgr
  · exact hY.elim
end Go.LE
namespace Go.LE
open Go
theorem spec_fam {P : Program} {G : List (Nat × Ty × LV)} {f : FuncId} {ts : List AT} {ι : Type} {g' : List LV → R LV} {g : ι → List LV → R LV} (i0 : ι) (p : ι → Prop) (hp : p i0) (h : ∀ i, p i → SpecOk P G f (mkSpec real ts (g i)))
    (hg : ∀ l r, Forms ts l → (g' l).Y r → ∃ i, p i ∧ (g i l).Y r) : SpecOk P G f (mkSpec real ts g') := by
  refine ⟨(h i0 hp).1, fun args r hY w vals hv hgr => ?_⟩
  unfold mkSpec at hY
  split at hY
  · rename_i l hl
    have hf := (canons_VV ts args l vals hl hv).2
    obtain ⟨i, hi, hy⟩ := hg l r hf hY
    exact (h i hi).2 args r (by unfold mkSpec; rw [hl]; exact hy) w vals hv hgr
  · exact hY.elim
end Go.LE