import Derived.Test.YtapdblddamhdfaaDoorPT1
import Derived.Test.YtapdblddamhdfaaDoorPT2
import Derived.RangeFuncRecord
set_option linter.unusedVariables false
set_option linter.unusedSimpArgs false
set_option linter.unusedVariables false
namespace Go.Proofs
open Go.RowKit
def Tryd.tab : Array Value := #[.string ⟨#[105]⟩, .int .i64 1, .string ⟨#[122]⟩, .int .i64 2, .string ⟨#[111]⟩, .int .i64 4, .string ⟨#[117]⟩, .int .i64 8, .string ⟨#[120]⟩, .int .i64 16]
theorem Tryd.and_bit (n : Int) (k : Nat) (hk : k < 5) : (bits .and .i64 n ((2 : Int) ^ k) != 0) = decide (n / 2 ^ k % 2 = 1) := by
  have h2 : BitVec.ofInt 64 ((2 : Int) ^ k) = BitVec.twoPow 64 k := by
    rcases k with _ | _ | _ | _ | _ | k <;> first | decide | omega
  have hw : IntKind.i64.wrap ((2 : Int) ^ k) = 2 ^ k := by
    rcases k with _ | _ | _ | _ | _ | k <;> first | decide | omega
  have h1 : (BitVec.ofInt 64 n).getLsbD k = decide (n / 2 ^ k % 2 = 1) := by
    rw [BitVec.getLsbD, BitVec.toNat_ofInt, Nat.testBit_eq_decide_div_mod_eq]
    apply decide_eq_decide.2
    rcases k with _ | _ | _ | _ | _ | k <;> first | (simp; omega) | omega
  show (IntKind.i64.wrap ((BitVec.ofInt 64 n &&& BitVec.ofInt 64 ((2 : Int) ^ k)).toNat : Int) != 0) = _
  rw [h2, BitVec.and_twoPow, h1]
  by_cases h : n / 2 ^ k % 2 = 1
  · rw [if_pos (by simp [h])]
    rcases k with _ | _ | _ | _ | _ | k <;> first | (simp only [h, decide_true]; decide) | omega
  · rw [if_neg (by simp [h])]
    simp only [h, decide_false]
    decide
theorem Tryd.isb_alloc {B b : Nat} {bs : List Value} {w : World} (h : Lib.IsBuilder 41 5 B b bs w) (o : Obj) : Lib.IsBuilder 41 5 B b bs (w.alloc o) := by
  have key : ∀ p, Lib.BuilderAt 41 5 B b p bs w → Lib.BuilderAt 41 5 B b p bs (w.alloc o) := by
    intro p hp
    have hl := hp.lt
    obtain ⟨h1, v, h2, h3, h4⟩ := hp
    refine ⟨h1, v, ?_, h3.alloc o, h4⟩
    show (w.heap.push o)[b]? = _
    rw [Array.getElem?_push_lt hl]
    rw [Array.getElem?_eq_getElem hl] at h2
    exact h2
  rcases h with h | h
  · exact Or.inl (key _ h)
  · exact Or.inr (key _ h)
theorem Tryd.isb_lt {B b : Nat} {bs : List Value} {w : World} (h : Lib.IsBuilder 41 5 B b bs w) : b < w.heap.size := by
  rcases h with h | h <;> exact h.lt
theorem Tryd.tab_at {w : World} {T : TypeId} {fr : Nat × Nat} (hg : w.heap[0]? = some (.cells Tryd.tab T fr)) (o : Obj) (j : Nat) : (w.alloc o).cell? ⟨0, j, none⟩ = Tryd.tab[j]? := by
  have hl : 0 < w.heap.size := (Array.getElem?_eq_some_iff.1 hg).1
  have h2 : (w.alloc o).heap[0]? = some (.cells Tryd.tab T fr) := by
    show (w.heap.push o)[0]? = _
    rw [Array.getElem?_push_lt hl]
    rw [Array.getElem?_eq_getElem hl] at hg
    exact hg
  rw [Lib.cell_of_heap h2]
theorem Tryd.ix0 (wr : World) : Sem.run Tryd.prog (Instr.index 43 (.agg #[.string ⟨#[105]⟩, .int .i64 1, .string ⟨#[122]⟩, .int .i64 2, .string ⟨#[111]⟩, .int .i64 4, .string ⟨#[117]⟩, .int .i64 8, .string ⟨#[120]⟩, .int .i64 16]) (.int .i64 0)) wr = .ok (.agg #[.string ⟨#[105]⟩, .int .i64 1]) wr := by kernel_rfl
theorem Tryd.ix1 (wr : World) : Sem.run Tryd.prog (Instr.index 43 (.agg #[.string ⟨#[105]⟩, .int .i64 1, .string ⟨#[122]⟩, .int .i64 2, .string ⟨#[111]⟩, .int .i64 4, .string ⟨#[117]⟩, .int .i64 8, .string ⟨#[120]⟩, .int .i64 16]) (.int .i64 1)) wr = .ok (.agg #[.string ⟨#[122]⟩, .int .i64 2]) wr := by kernel_rfl
theorem Tryd.ix2 (wr : World) : Sem.run Tryd.prog (Instr.index 43 (.agg #[.string ⟨#[105]⟩, .int .i64 1, .string ⟨#[122]⟩, .int .i64 2, .string ⟨#[111]⟩, .int .i64 4, .string ⟨#[117]⟩, .int .i64 8, .string ⟨#[120]⟩, .int .i64 16]) (.int .i64 2)) wr = .ok (.agg #[.string ⟨#[111]⟩, .int .i64 4]) wr := by kernel_rfl
theorem Tryd.ix3 (wr : World) : Sem.run Tryd.prog (Instr.index 43 (.agg #[.string ⟨#[105]⟩, .int .i64 1, .string ⟨#[122]⟩, .int .i64 2, .string ⟨#[111]⟩, .int .i64 4, .string ⟨#[117]⟩, .int .i64 8, .string ⟨#[120]⟩, .int .i64 16]) (.int .i64 3)) wr = .ok (.agg #[.string ⟨#[117]⟩, .int .i64 8]) wr := by kernel_rfl
theorem Tryd.ix4 (wr : World) : Sem.run Tryd.prog (Instr.index 43 (.agg #[.string ⟨#[105]⟩, .int .i64 1, .string ⟨#[122]⟩, .int .i64 2, .string ⟨#[111]⟩, .int .i64 4, .string ⟨#[117]⟩, .int .i64 8, .string ⟨#[120]⟩, .int .i64 16]) (.int .i64 4)) wr = .ok (.agg #[.string ⟨#[120]⟩, .int .i64 16]) wr := by kernel_rfl
def Tryd.ltr (k : Nat) : UInt8 := match k with | 0 => 105 | 1 => 122 | 2 => 111 | 3 => 117 | _ => 120
def Tryd.acc (n : Int) : Nat → List UInt8 | 0 => [] | k + 1 => Tryd.acc n k ++ (if n / 2 ^ k % 2 = 1 then [Tryd.ltr k] else [])
def Tryd.flagS (n : Int) : ByteArray := if n = 0 then ⟨#[45]⟩ else if n % 32 = n then ⟨(Tryd.acc n 5).toArray⟩ else ⟨#[]⟩
theorem Tryd.acc_len (n : Int) (k : Nat) : (Tryd.acc n k).length ≤ k := by
  induction k with
  | zero => exact Nat.le_refl 0
  | succ k ih => simp only [Tryd.acc, List.length_append]; split <;> simp <;> omega
set_option maxHeartbeats 4000000 in
set_option maxRecDepth 100000 in
theorem Tryd.fl (n : Int) (hn0 : -9223372036854775808 ≤ n) (hn1 : n ≤ 9223372036854775807) (w : World) (T : TypeId) (fr : Nat × Nat) (hg : w.heap[0]? = some (.cells Tryd.tab T fr)) :
    Calls Tryd.prog 5 #[.int .i64 n] w fun e w' => e = .returned (.string (Tryd.flagS n)) ∧ Below w.heap.size w w' := by
  have c0 : (w.alloc (.cells #[.pointer none, .slice none 0 0] 41)).cell? ⟨0, 0, none⟩ = some (.string ⟨#[105]⟩) := Tryd.tab_at hg _ 0
  have c1 : (w.alloc (.cells #[.pointer none, .slice none 0 0] 41)).cell? ⟨0, 1, none⟩ = some (.int .i64 1) := Tryd.tab_at hg _ 1
  have c2 : (w.alloc (.cells #[.pointer none, .slice none 0 0] 41)).cell? ⟨0, 2, none⟩ = some (.string ⟨#[122]⟩) := Tryd.tab_at hg _ 2
  have c3 : (w.alloc (.cells #[.pointer none, .slice none 0 0] 41)).cell? ⟨0, 3, none⟩ = some (.int .i64 2) := Tryd.tab_at hg _ 3
  have c4 : (w.alloc (.cells #[.pointer none, .slice none 0 0] 41)).cell? ⟨0, 4, none⟩ = some (.string ⟨#[111]⟩) := Tryd.tab_at hg _ 4
  have c5 : (w.alloc (.cells #[.pointer none, .slice none 0 0] 41)).cell? ⟨0, 5, none⟩ = some (.int .i64 4) := Tryd.tab_at hg _ 5
  have c6 : (w.alloc (.cells #[.pointer none, .slice none 0 0] 41)).cell? ⟨0, 6, none⟩ = some (.string ⟨#[117]⟩) := Tryd.tab_at hg _ 6
  have c7 : (w.alloc (.cells #[.pointer none, .slice none 0 0] 41)).cell? ⟨0, 7, none⟩ = some (.int .i64 8) := Tryd.tab_at hg _ 7
  have c8 : (w.alloc (.cells #[.pointer none, .slice none 0 0] 41)).cell? ⟨0, 8, none⟩ = some (.string ⟨#[120]⟩) := Tryd.tab_at hg _ 8
  have c9 : (w.alloc (.cells #[.pointer none, .slice none 0 0] 41)).cell? ⟨0, 9, none⟩ = some (.int .i64 16) := Tryd.tab_at hg _ 9
  go_enter Tryd.func5, Tryd.ntmps5
  go_wp2
  go_loopw [4, 9] (fun r i wr => ∃ k : Nat, k ≤ 5 ∧ i = .int .i64 k ∧ r = .int .i64 (n - n % 2 ^ k) ∧ Lib.IsBuilder 41 5 w.heap.size w.heap.size (Lib.byteCells (Tryd.acc n k)) wr ∧ Below w.heap.size w wr) (fun _ i _ => 5 - (RowKit.intOf i).toNat)
  case atStart =>
    refine ⟨0, by decide, rfl, ?_, Lib.fresh_isBuilder 41 5 w, (Below.refl _ w).alloc (Nat.le_refl _) _⟩
    simp
  case round =>
    obtain ⟨k, hk, rfl, rfl, hI, hB⟩ := hrel
    by_cases h5 : k = 5
    · subst h5
      go_wp2_with (go_at_call 9; refine (Tryd.Builder_String_any w.heap.size w.heap.size (Tryd.acc n 5) _ hI (by have := hB.size; omega)).mono ?_)
      all_goals try (rintro e W1 ⟨rfl, b1⟩; go_wp2)
      all_goals go_ret
      · rename_i hz
        have hz : n = 0 := by simpa using hz
        refine ⟨?_, hB⟩
        show Ending.returned (.string ⟨#[45]⟩) = Ending.returned (.string (Tryd.flagS n))
        unfold Tryd.flagS
        rw [if_pos hz]
      · rename_i hz hr
        have hz : ¬ n = 0 := by simpa using hz
        have hr : ¬ n % 32 = n := by intro h; rw [h] at hr; simp at hr
        refine ⟨?_, hB⟩
        show Ending.returned (.string ⟨#[]⟩) = Ending.returned (.string (Tryd.flagS n))
        unfold Tryd.flagS
        rw [if_neg hz, if_neg hr]
      · rename_i hz hr
        have hz : ¬ n = 0 := by simpa using hz
        have hr : n % 32 = n := by have : n - n % 32 = 0 := by simpa using hr
                                   omega
        refine ⟨?_, hB.trans b1⟩
        show Ending.returned (.string ⟨(Tryd.acc n 5).toArray⟩) = Ending.returned (.string (Tryd.flagS n))
        unfold Tryd.flagS
        rw [if_neg hz, if_pos hr]
    · obtain rfl | rfl | rfl | rfl | rfl : k = 0 ∨ k = 1 ∨ k = 2 ∨ k = 3 ∨ k = 4 := by omega
      · have hix := Tryd.ix0 wr
        have hlt := Tryd.isb_lt hI
        have hbit := Tryd.and_bit n 0 (by decide)
        have hal := Tryd.acc_len n 0
        have h0 := World.alloc_heap_new wr (.cells #[.string ⟨#[105]⟩, .int .i64 1] 42)
        have e0 : (wr.alloc (.cells #[.string ⟨#[105]⟩, .int .i64 1] 42)).cell? ⟨wr.heap.size, 0, none⟩ = some (.string ⟨#[105]⟩) := by rw [Lib.cell_of_heap h0]; rfl
        have e1 : (wr.alloc (.cells #[.string ⟨#[105]⟩, .int .i64 1] 42)).cell? ⟨wr.heap.size, 1, none⟩ = some (.int .i64 1) := by rw [Lib.cell_of_heap h0]; rfl
        go_wp2_with (go_at_call 8; refine (Tryd.ws w.heap.size w.heap.size _ ⟨#[105]⟩ _ (Tryd.isb_alloc hI _) (by rw [Lib.byteCells_length]; show _ + 1 ≤ _; omega) (by show _ ≤ (wr.heap.push _).size; simp; omega)).mono ?_)
        · rintro e W1 ⟨rfl, h1, b1, k1⟩
          have hb : (bits .and .i64 n 1 != 0) = true := by assumption
          have hbk : n / 2 ^ 0 % 2 = 1 := of_decide_eq_true (hbit.symm.trans hb)
          have h0' := k1 _ _ h0 (by simp; omega) (by intro c fz h; cases h)
          have e1' : W1.cell? ⟨wr.heap.size, 1, none⟩ = some (.int .i64 1) := by rw [Lib.cell_of_heap h0']; rfl
          go_wp2
          go_roundw
          case rel =>
            refine ⟨1, by decide, rfl, ?_, ?_, (hB.alloc (by omega) _).trans b1⟩
            · congr 1
              first | omega | (rw [show wrap64 _ = _ from rfl]; unfold wrap64; omega)
            · show Lib.IsBuilder 41 5 w.heap.size w.heap.size (Lib.byteCells (Tryd.acc n 0 ++ if n / 2 ^ 0 % 2 = 1 then [Tryd.ltr 0] else [])) W1
              rw [if_pos hbk, Lib.byteCells_append]
              exact Or.inr h1
          case measure =>
            show 5 - 1 < 5 - 0
            decide
        · rename_i hb
          have hbk : ¬ n / 2 ^ 0 % 2 = 1 := of_decide_eq_false (hbit.symm.trans hb)
          go_roundw
          case rel =>
            refine ⟨1, by decide, rfl, ?_, ?_, hB.alloc (by omega) _⟩
            · congr 1
              omega
            · show Lib.IsBuilder 41 5 w.heap.size w.heap.size (Lib.byteCells (Tryd.acc n 0 ++ if n / 2 ^ 0 % 2 = 1 then [Tryd.ltr 0] else [])) _
              rw [if_neg hbk, List.append_nil]
              exact Tryd.isb_alloc hI _
          case measure =>
            show 5 - 1 < 5 - 0
            decide
      · have hix := Tryd.ix1 wr
        have hlt := Tryd.isb_lt hI
        have hbit := Tryd.and_bit n 1 (by decide)
        have hal := Tryd.acc_len n 1
        have h0 := World.alloc_heap_new wr (.cells #[.string ⟨#[122]⟩, .int .i64 2] 42)
        have e0 : (wr.alloc (.cells #[.string ⟨#[122]⟩, .int .i64 2] 42)).cell? ⟨wr.heap.size, 0, none⟩ = some (.string ⟨#[122]⟩) := by rw [Lib.cell_of_heap h0]; rfl
        have e1 : (wr.alloc (.cells #[.string ⟨#[122]⟩, .int .i64 2] 42)).cell? ⟨wr.heap.size, 1, none⟩ = some (.int .i64 2) := by rw [Lib.cell_of_heap h0]; rfl
        go_wp2_with (go_at_call 8; refine (Tryd.ws w.heap.size w.heap.size _ ⟨#[122]⟩ _ (Tryd.isb_alloc hI _) (by rw [Lib.byteCells_length]; show _ + 1 ≤ _; omega) (by show _ ≤ (wr.heap.push _).size; simp; omega)).mono ?_)
        · rintro e W1 ⟨rfl, h1, b1, k1⟩
          have hb : (bits .and .i64 n 2 != 0) = true := by assumption
          have hbk : n / 2 ^ 1 % 2 = 1 := of_decide_eq_true (hbit.symm.trans hb)
          have h0' := k1 _ _ h0 (by simp; omega) (by intro c fz h; cases h)
          have e1' : W1.cell? ⟨wr.heap.size, 1, none⟩ = some (.int .i64 2) := by rw [Lib.cell_of_heap h0']; rfl
          go_wp2
          go_roundw
          case rel =>
            refine ⟨2, by decide, rfl, ?_, ?_, (hB.alloc (by omega) _).trans b1⟩
            · congr 1
              first | omega | (rw [show wrap64 _ = _ from rfl]; unfold wrap64; omega)
            · show Lib.IsBuilder 41 5 w.heap.size w.heap.size (Lib.byteCells (Tryd.acc n 1 ++ if n / 2 ^ 1 % 2 = 1 then [Tryd.ltr 1] else [])) W1
              rw [if_pos hbk, Lib.byteCells_append]
              exact Or.inr h1
          case measure =>
            show 5 - 2 < 5 - 1
            decide
        · rename_i hb
          have hbk : ¬ n / 2 ^ 1 % 2 = 1 := of_decide_eq_false (hbit.symm.trans hb)
          go_roundw
          case rel =>
            refine ⟨2, by decide, rfl, ?_, ?_, hB.alloc (by omega) _⟩
            · congr 1
              omega
            · show Lib.IsBuilder 41 5 w.heap.size w.heap.size (Lib.byteCells (Tryd.acc n 1 ++ if n / 2 ^ 1 % 2 = 1 then [Tryd.ltr 1] else [])) _
              rw [if_neg hbk, List.append_nil]
              exact Tryd.isb_alloc hI _
          case measure =>
            show 5 - 2 < 5 - 1
            decide
      · have hix := Tryd.ix2 wr
        have hlt := Tryd.isb_lt hI
        have hbit := Tryd.and_bit n 2 (by decide)
        have hal := Tryd.acc_len n 2
        have h0 := World.alloc_heap_new wr (.cells #[.string ⟨#[111]⟩, .int .i64 4] 42)
        have e0 : (wr.alloc (.cells #[.string ⟨#[111]⟩, .int .i64 4] 42)).cell? ⟨wr.heap.size, 0, none⟩ = some (.string ⟨#[111]⟩) := by rw [Lib.cell_of_heap h0]; rfl
        have e1 : (wr.alloc (.cells #[.string ⟨#[111]⟩, .int .i64 4] 42)).cell? ⟨wr.heap.size, 1, none⟩ = some (.int .i64 4) := by rw [Lib.cell_of_heap h0]; rfl
        go_wp2_with (go_at_call 8; refine (Tryd.ws w.heap.size w.heap.size _ ⟨#[111]⟩ _ (Tryd.isb_alloc hI _) (by rw [Lib.byteCells_length]; show _ + 1 ≤ _; omega) (by show _ ≤ (wr.heap.push _).size; simp; omega)).mono ?_)
        · rintro e W1 ⟨rfl, h1, b1, k1⟩
          have hb : (bits .and .i64 n 4 != 0) = true := by assumption
          have hbk : n / 2 ^ 2 % 2 = 1 := of_decide_eq_true (hbit.symm.trans hb)
          have h0' := k1 _ _ h0 (by simp; omega) (by intro c fz h; cases h)
          have e1' : W1.cell? ⟨wr.heap.size, 1, none⟩ = some (.int .i64 4) := by rw [Lib.cell_of_heap h0']; rfl
          go_wp2
          go_roundw
          case rel =>
            refine ⟨3, by decide, rfl, ?_, ?_, (hB.alloc (by omega) _).trans b1⟩
            · congr 1
              first | omega | (rw [show wrap64 _ = _ from rfl]; unfold wrap64; omega)
            · show Lib.IsBuilder 41 5 w.heap.size w.heap.size (Lib.byteCells (Tryd.acc n 2 ++ if n / 2 ^ 2 % 2 = 1 then [Tryd.ltr 2] else [])) W1
              rw [if_pos hbk, Lib.byteCells_append]
              exact Or.inr h1
          case measure =>
            show 5 - 3 < 5 - 2
            decide
        · rename_i hb
          have hbk : ¬ n / 2 ^ 2 % 2 = 1 := of_decide_eq_false (hbit.symm.trans hb)
          go_roundw
          case rel =>
            refine ⟨3, by decide, rfl, ?_, ?_, hB.alloc (by omega) _⟩
            · congr 1
              omega
            · show Lib.IsBuilder 41 5 w.heap.size w.heap.size (Lib.byteCells (Tryd.acc n 2 ++ if n / 2 ^ 2 % 2 = 1 then [Tryd.ltr 2] else [])) _
              rw [if_neg hbk, List.append_nil]
              exact Tryd.isb_alloc hI _
          case measure =>
            show 5 - 3 < 5 - 2
            decide
      · have hix := Tryd.ix3 wr
        have hlt := Tryd.isb_lt hI
        have hbit := Tryd.and_bit n 3 (by decide)
        have hal := Tryd.acc_len n 3
        have h0 := World.alloc_heap_new wr (.cells #[.string ⟨#[117]⟩, .int .i64 8] 42)
        have e0 : (wr.alloc (.cells #[.string ⟨#[117]⟩, .int .i64 8] 42)).cell? ⟨wr.heap.size, 0, none⟩ = some (.string ⟨#[117]⟩) := by rw [Lib.cell_of_heap h0]; rfl
        have e1 : (wr.alloc (.cells #[.string ⟨#[117]⟩, .int .i64 8] 42)).cell? ⟨wr.heap.size, 1, none⟩ = some (.int .i64 8) := by rw [Lib.cell_of_heap h0]; rfl
        go_wp2_with (go_at_call 8; refine (Tryd.ws w.heap.size w.heap.size _ ⟨#[117]⟩ _ (Tryd.isb_alloc hI _) (by rw [Lib.byteCells_length]; show _ + 1 ≤ _; omega) (by show _ ≤ (wr.heap.push _).size; simp; omega)).mono ?_)
        · rintro e W1 ⟨rfl, h1, b1, k1⟩
          have hb : (bits .and .i64 n 8 != 0) = true := by assumption
          have hbk : n / 2 ^ 3 % 2 = 1 := of_decide_eq_true (hbit.symm.trans hb)
          have h0' := k1 _ _ h0 (by simp; omega) (by intro c fz h; cases h)
          have e1' : W1.cell? ⟨wr.heap.size, 1, none⟩ = some (.int .i64 8) := by rw [Lib.cell_of_heap h0']; rfl
          go_wp2
          go_roundw
          case rel =>
            refine ⟨4, by decide, rfl, ?_, ?_, (hB.alloc (by omega) _).trans b1⟩
            · congr 1
              first | omega | (rw [show wrap64 _ = _ from rfl]; unfold wrap64; omega)
            · show Lib.IsBuilder 41 5 w.heap.size w.heap.size (Lib.byteCells (Tryd.acc n 3 ++ if n / 2 ^ 3 % 2 = 1 then [Tryd.ltr 3] else [])) W1
              rw [if_pos hbk, Lib.byteCells_append]
              exact Or.inr h1
          case measure =>
            show 5 - 4 < 5 - 3
            decide
        · rename_i hb
          have hbk : ¬ n / 2 ^ 3 % 2 = 1 := of_decide_eq_false (hbit.symm.trans hb)
          go_roundw
          case rel =>
            refine ⟨4, by decide, rfl, ?_, ?_, hB.alloc (by omega) _⟩
            · congr 1
              omega
            · show Lib.IsBuilder 41 5 w.heap.size w.heap.size (Lib.byteCells (Tryd.acc n 3 ++ if n / 2 ^ 3 % 2 = 1 then [Tryd.ltr 3] else [])) _
              rw [if_neg hbk, List.append_nil]
              exact Tryd.isb_alloc hI _
          case measure =>
            show 5 - 4 < 5 - 3
            decide
      · have hix := Tryd.ix4 wr
        have hlt := Tryd.isb_lt hI
        have hbit := Tryd.and_bit n 4 (by decide)
        have hal := Tryd.acc_len n 4
        have h0 := World.alloc_heap_new wr (.cells #[.string ⟨#[120]⟩, .int .i64 16] 42)
        have e0 : (wr.alloc (.cells #[.string ⟨#[120]⟩, .int .i64 16] 42)).cell? ⟨wr.heap.size, 0, none⟩ = some (.string ⟨#[120]⟩) := by rw [Lib.cell_of_heap h0]; rfl
        have e1 : (wr.alloc (.cells #[.string ⟨#[120]⟩, .int .i64 16] 42)).cell? ⟨wr.heap.size, 1, none⟩ = some (.int .i64 16) := by rw [Lib.cell_of_heap h0]; rfl
        go_wp2_with (go_at_call 8; refine (Tryd.ws w.heap.size w.heap.size _ ⟨#[120]⟩ _ (Tryd.isb_alloc hI _) (by rw [Lib.byteCells_length]; show _ + 1 ≤ _; omega) (by show _ ≤ (wr.heap.push _).size; simp; omega)).mono ?_)
        · rintro e W1 ⟨rfl, h1, b1, k1⟩
          have hb : (bits .and .i64 n 16 != 0) = true := by assumption
          have hbk : n / 2 ^ 4 % 2 = 1 := of_decide_eq_true (hbit.symm.trans hb)
          have h0' := k1 _ _ h0 (by simp; omega) (by intro c fz h; cases h)
          have e1' : W1.cell? ⟨wr.heap.size, 1, none⟩ = some (.int .i64 16) := by rw [Lib.cell_of_heap h0']; rfl
          go_wp2
          go_roundw
          case rel =>
            refine ⟨5, by decide, rfl, ?_, ?_, (hB.alloc (by omega) _).trans b1⟩
            · congr 1
              first | omega | (rw [show wrap64 _ = _ from rfl]; unfold wrap64; omega)
            · show Lib.IsBuilder 41 5 w.heap.size w.heap.size (Lib.byteCells (Tryd.acc n 4 ++ if n / 2 ^ 4 % 2 = 1 then [Tryd.ltr 4] else [])) W1
              rw [if_pos hbk, Lib.byteCells_append]
              exact Or.inr h1
          case measure =>
            show 5 - 5 < 5 - 4
            decide
        · rename_i hb
          have hbk : ¬ n / 2 ^ 4 % 2 = 1 := of_decide_eq_false (hbit.symm.trans hb)
          go_roundw
          case rel =>
            refine ⟨5, by decide, rfl, ?_, ?_, hB.alloc (by omega) _⟩
            · congr 1
              omega
            · show Lib.IsBuilder 41 5 w.heap.size w.heap.size (Lib.byteCells (Tryd.acc n 4 ++ if n / 2 ^ 4 % 2 = 1 then [Tryd.ltr 4] else [])) _
              rw [if_neg hbk, List.append_nil]
              exact Tryd.isb_alloc hI _
          case measure =>
            show 5 - 5 < 5 - 4
            decide
end Go.Proofs