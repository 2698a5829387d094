import Derived.Test.YtnanihpaifaceaaGreatDoorProg
import Derived.Tactics
import Derived.Tactics2
import Derived.Defers
import Derived.Laws.Pointers
import Derived.Laws.LoneSync
import Derived.RegionTactic
import Derived.RegionCalls
import Derived.BigCall
import Derived.Laws.NewBlocks
import Derived.RangeFuncRecord
import Derived.Deep.RegionHeld3
import Derived.WalkKit
import Derived.Deep.MidRow
import Derived.Lib.SmallJoins
import Derived.Lib.Builder
set_option linter.unusedVariables false
set_option linter.unusedSimpArgs false
set_option linter.unusedVariables false
namespace Go.Proofs
open Go.RowKit
theorem Tryz.disable (w : World) : (callFunc 168 #[]).run Tryz.prog w = .ok (.value (.tuple #[])) w := run_call_mark0 Tryz.func168 (by kernel_rfl) (by kernel_rfl) (by kernel_rfl) .disable (by kernel_rfl) w
theorem Tryz.enable (w : World) : (callFunc 170 #[]).run Tryz.prog w = .ok (.value (.tuple #[])) w := run_call_mark0 Tryz.func170 (by kernel_rfl) (by kernel_rfl) (by kernel_rfl) .enable (by kernel_rfl) w
theorem Tryz.acquire (a : Addr) (w : World) : (callFunc 171 #[.pointer (some a)]).run Tryz.prog w = .ok (.value (.tuple #[])) w := run_call_marked Tryz.func171 (by kernel_rfl) (by kernel_rfl) (by kernel_rfl) .acquire (by kernel_rfl) a w
theorem Tryz.releaseMerge (a : Addr) (w : World) : (callFunc 173 #[.pointer (some a)]).run Tryz.prog w = .ok (.value (.tuple #[])) w := run_call_marked Tryz.func173 (by kernel_rfl) (by kernel_rfl) (by kernel_rfl) .releaseMerge (by kernel_rfl) a w
set_option maxRecDepth 100000 in
set_option maxHeartbeats 1600000 in
theorem Tryz.store_deferred (a : Addr) (x : Value) (u : FrameMode) (w : World) (hc : w.cell? a = some x) (hz : w.frozen? a = false) :
    CallsD Tryz.prog 160 #[.pointer (some a), .bool true] u w fun e u' w' => u' = u ∧ (e = .returned (.tuple #[]) ∧ w' = w.drew.setCell a (.int .u32 1)) := by
  have hc' : w.drew.cell? a = some x := by go_simp
  have hz' : w.drew.frozen? a = false := by go_simp
  have hst := run_call_store (P := Tryz.prog) Tryz.func165 (by kernel_rfl) (by kernel_rfl) (by kernel_rfl) (by kernel_rfl) (k := .u32) (y := 1) hc' hz'
  go_enter_d Tryz.func160, Tryz.ntmps160
  go_wp2
  go_region_calls
  all_goals (go_end0; exact ⟨rfl, rfl⟩)
set_option maxRecDepth 100000 in
set_option maxHeartbeats 1600000 in
theorem Tryz.unlock_deferred (a : Addr) (u : FrameMode) (w : World) (hc : w.cell? a = some (.int .i32 1)) (hz : w.frozen? a = false) :
    CallsD Tryz.prog 159 #[.pointer (some a)] u w fun e u' w' => u' = u ∧ (e = .returned (.tuple #[]) ∧ w' = w.setCell a (.int .i32 0)) := by
  have hd := Tryz.disable
  have he := Tryz.enable
  have hr := Tryz.releaseMerge
  have hadd := run_call_add (P := Tryz.prog) Tryz.func174 (by kernel_rfl) (by kernel_rfl) (by kernel_rfl) .i32 (by kernel_rfl) (y := -1) (s := 0) hc hz (by simp [go_sem]; rfl)
  have hcv := run_convert_to_unsafe (P := Tryz.prog) (src := 245) (dst := 249) Tryz.underlying245 Tryz.underlying249 (by kernel_rfl) hc
  go_enter_d Tryz.func159, Tryz.ntmps159
  go_wp2
  go_end0
  go_wp2
  go_end0
  exact ⟨rfl, rfl⟩
set_option maxRecDepth 100000 in
set_option maxHeartbeats 1600000 in
theorem Tryz.lock_free (a : Addr) (w : World) (hc : w.cell? a = some (.int .i32 0)) (hz : w.frozen? a = false) :
    Calls Tryz.prog 158 #[.pointer (some a)] w fun e w' => e = .returned (.tuple #[]) ∧ w' = w.setCell a (.int .i32 1) := by
  have hd := Tryz.disable
  have he := Tryz.enable
  have ha := Tryz.acquire
  have hcas := run_call_cas_hit (P := Tryz.prog) Tryz.func169 (by kernel_rfl) (by kernel_rfl) (by kernel_rfl) .i32 (by kernel_rfl) (y := 1) hc hz
  have hc' : (w.setCell a (.int .i32 1)).cell? a = some (.int .i32 1) := World.cell?_setCell_same w a _ hc
  have hcv := run_convert_to_unsafe (P := Tryz.prog) (src := 245) (dst := 249) Tryz.underlying245 Tryz.underlying249 (by kernel_rfl) hc'
  go_enter Tryz.func158, Tryz.ntmps158
  go_wp2
  first | go_end0 | (simp only [Exit.inBlock, Exit.then]; refine bodyPost_ret (results_none rfl _ _ _) rfl ?_) | refine bodyPost_ret (results_none rfl _ _ _) rfl ?_
  go_wp2
  go_end0
  exact ⟨rfl, rfl⟩
end Go.Proofs
set_option linter.unusedVariables false
namespace Go.Proofs
open Go.RowKit
set_option maxRecDepth 100000
theorem Tryz.newton_new (r : Addr) (w : World) : Calls Tryz.prog 113 #[.pointer (some r)] w fun e w' => e = .returned (.pointer (some ⟨w.heap.size, 0, none⟩)) ∧ w' = w.alloc (.cells #[.pointer (some r)] 212) := by
  go_enter Tryz.func113, Tryz.ntmps113
  go_wp2
  go_ret
  exact ⟨rfl, rfl⟩
theorem Tryz.newtonroot_new (r : Addr) (w : World) : Calls Tryz.prog 114 #[.pointer (some r)] w fun e w' => e = .returned (.pointer (some ⟨w.heap.size, 0, none⟩)) ∧ w' = w.alloc (.cells #[.pointer (some r)] 216) := by
  go_enter Tryz.func114, Tryz.ntmps114
  go_wp2
  go_ret
  exact ⟨rfl, rfl⟩
theorem Tryz.gold_new (r : Addr) (w : World) : Calls Tryz.prog 115 #[.pointer (some r)] w fun e w' => e = .returned (.pointer (some ⟨w.heap.size, 0, none⟩)) ∧ w' = w.alloc (.cells #[.pointer (some r)] 220) := by
  go_enter Tryz.func115, Tryz.ntmps115
  go_wp2
  go_ret
  exact ⟨rfl, rfl⟩
theorem Tryz.goldroot_new (r : Addr) (w : World) : Calls Tryz.prog 116 #[.pointer (some r)] w fun e w' => e = .returned (.pointer (some ⟨w.heap.size, 0, none⟩)) ∧ w' = w.alloc (.cells #[.pointer (some r)] 224) := by
  go_enter Tryz.func116, Tryz.ntmps116
  go_wp2
  go_ret
  exact ⟨rfl, rfl⟩
/-- All blocks but s are as they were; new ones may lie behind them. -/
structure Kept (s : Nat) (w w' : World) : Prop where
  os : w'.os = w.os
  tape : w'.tape = w.tape
  output : w'.output = w.output
  size : w.heap.size ≤ w'.heap.size
  block : ∀ k, k < w.heap.size → k ≠ s → w'.heap[k]? = w.heap[k]?
theorem Kept.refl (s : Nat) (w : World) : Kept s w w := ⟨rfl, rfl, rfl, Nat.le_refl _, fun _ _ _ => rfl⟩
theorem Kept.trans {s : Nat} {a b c : World} (h : Kept s a b) (k : Kept s b c) : Kept s a c :=
  ⟨k.os.trans h.os, k.tape.trans h.tape, k.output.trans h.output, Nat.le_trans h.size k.size, fun i hi hs => (k.block i (Nat.lt_of_lt_of_le hi h.size) hs).trans (h.block i hi hs)⟩
theorem Kept.drew {s : Nat} {a w : World} (h : Kept s a w) : Kept s a w.drew := ⟨h.os, h.tape, h.output, h.size, h.block⟩
theorem Kept.of_below {s : Nat} {w w' : World} (h : Below w.heap.size w w') : Kept s w w' := ⟨h.os, h.tape, h.output, h.size, fun k hk _ => h.block k hk⟩
theorem Kept.alloc {s : Nat} {a w : World} (h : Kept s a w) (o : Obj) : Kept s a (w.alloc o) := h.trans (Kept.of_below ((Below.refl _ w).alloc (Nat.le_refl _) o))
theorem Kept.setCell {s : Nat} {a w : World} (h : Kept s a w) (i : Nat) (v : Value) : Kept s a (w.setCell ⟨s, i, none⟩ v) :=
  ⟨h.os, h.tape, h.output, by rw [World.size_setCell]; exact h.size, fun k hk hs => by rw [Below.heap_setCell w _ v k hs]; exact h.block k hk hs⟩
theorem Kept.below {s B : Nat} {w w' : World} (h : Kept s w w') (hs : B ≤ s) (hB : B ≤ w.heap.size) : Below B w w' := ⟨h.os, h.tape, h.output, h.size, fun k hk => h.block k (by omega) (by omega)⟩
theorem Kept.cell {s : Nat} {w w' : World} (h : Kept s w w') {k i : Nat} {v : Value} (hk : k ≠ s) (hc : w.cell? ⟨k, i, none⟩ = some v) : w'.cell? ⟨k, i, none⟩ = some v :=
  (World.cell?_of_block (w := w) (h.block k (World.block_lt_of_cell? w _ hc) hk)).trans hc
theorem Tryz.set5 {w : World} {s : Nat} {y0 y1 y2 y3 y4 y5 y6 y7 y8 c0 c1 c2 c3 c4 : Value} (h : w.heap[s]? = some (.cells #[y0, y1, y2, y3, y4, y5, y6, y7, y8, c0, c1, c2, c3, c4] 81 (0, 0))) (a b c d e : Value) :
    (((((w.setCell ⟨s, 4, none⟩ a).setCell ⟨s, 5, none⟩ b).setCell ⟨s, 6, none⟩ c).setCell ⟨s, 7, none⟩ d).setCell ⟨s, 8, none⟩ e).heap[s]? = some (.cells #[y0, y1, y2, y3, a, b, c, d, e, c0, c1, c2, c3, c4] 81 (0, 0)) := by
  have q1 := Joins.block_setCell (i := 4) h a
  have q2 := Joins.block_setCell (i := 5) q1 b
  have q3 := Joins.block_setCell (i := 6) q2 c
  have q4 := Joins.block_setCell (i := 7) q3 d
  have q5 := Joins.block_setCell (i := 8) q4 e
  exact q5
set_option maxHeartbeats 4000000 in
theorem Tryz.ready_fn (p s : Nat) (hps : ¬ s = p) (r : Addr) (w : World) (hp : w.cell? ⟨p, 0, none⟩ = some (.pointer (some ⟨s, 0, none⟩))) (y0 y1 y2 x4 x5 x6 x7 x8 c0 c1 c2 c3 c4 : Value)
    (hs : w.heap[s]? = some (.cells #[y0, y1, y2, .pointer (some r), x4, x5, x6, x7, x8, c0, c1, c2, c3, c4] 81 (0, 0))) :
    Calls Tryz.prog 112 #[.pointer (some ⟨p, 0, none⟩)] w fun e w' => e = .returned (.tuple #[]) ∧ (∃ e3 e4, w'.heap[s]? = some (.cells #[y0, y1, y2, .pointer (some r), .nilIface, .iface 179 (.agg #[]), .iface 180 (.agg #[]), e3, e4, c0, c1, c2, c3, c4] 81 (0, 0))) ∧ Kept s w w' := by
  have hs0 : s < w.heap.size := (Array.getElem?_eq_some_iff.1 hs).1
  have hr : w.cell? ⟨s, 3, none⟩ = some (.pointer (some r)) := by rw [Lib.cell_of_heap hs]; rfl
  have h4 : w.cell? ⟨s, 4, none⟩ = some x4 := by rw [Lib.cell_of_heap hs]; rfl
  have z4 : w.frozen? ⟨s, 4, none⟩ = false := Lib.frozen_of_heap hs 4
  have h5 : w.cell? ⟨s, 5, none⟩ = some x5 := by rw [Lib.cell_of_heap hs]; rfl
  have z5 : w.frozen? ⟨s, 5, none⟩ = false := Lib.frozen_of_heap hs 5
  have h6 : w.cell? ⟨s, 6, none⟩ = some x6 := by rw [Lib.cell_of_heap hs]; rfl
  have z6 : w.frozen? ⟨s, 6, none⟩ = false := Lib.frozen_of_heap hs 6
  have h7 : w.cell? ⟨s, 7, none⟩ = some x7 := by rw [Lib.cell_of_heap hs]; rfl
  have z7 : w.frozen? ⟨s, 7, none⟩ = false := Lib.frozen_of_heap hs 7
  have h8 : w.cell? ⟨s, 8, none⟩ = some x8 := by rw [Lib.cell_of_heap hs]; rfl
  have z8 : w.frozen? ⟨s, 8, none⟩ = false := Lib.frozen_of_heap hs 8
  have n1 := World.new_ne w _ hp
  have n2 := World.new_ne w _ hr
  have a4 : (((((w.alloc (.cells #[.pointer (some r)] 212)).alloc (.cells #[.pointer (some r)] 216)).alloc (.cells #[.pointer (some r)] 220)).alloc (.cells #[.pointer (some r)] 224))).cell? ⟨s, 4, none⟩ = some x4 := by simp (maxDischargeDepth := 9) [h4, World.cell?_alloc_some]
  have b4 : (((((w.alloc (.cells #[.pointer (some r)] 212)).alloc (.cells #[.pointer (some r)] 216)).alloc (.cells #[.pointer (some r)] 220)).alloc (.cells #[.pointer (some r)] 224))).frozen? ⟨s, 4, none⟩ = false := by rw [World.frozen?_alloc_past _ _ _ (by first | omega | (simp; omega)), World.frozen?_alloc_past _ _ _ (by first | omega | (simp; omega)), World.frozen?_alloc_past _ _ _ (by first | omega | (simp; omega)), World.frozen?_alloc_past _ _ _ (by first | omega | (simp; omega))]; exact z4
  have a5 : (((((w.alloc (.cells #[.pointer (some r)] 212)).alloc (.cells #[.pointer (some r)] 216)).alloc (.cells #[.pointer (some r)] 220)).alloc (.cells #[.pointer (some r)] 224))).cell? ⟨s, 5, none⟩ = some x5 := by simp (maxDischargeDepth := 9) [h5, World.cell?_alloc_some]
  have b5 : (((((w.alloc (.cells #[.pointer (some r)] 212)).alloc (.cells #[.pointer (some r)] 216)).alloc (.cells #[.pointer (some r)] 220)).alloc (.cells #[.pointer (some r)] 224))).frozen? ⟨s, 5, none⟩ = false := by rw [World.frozen?_alloc_past _ _ _ (by first | omega | (simp; omega)), World.frozen?_alloc_past _ _ _ (by first | omega | (simp; omega)), World.frozen?_alloc_past _ _ _ (by first | omega | (simp; omega)), World.frozen?_alloc_past _ _ _ (by first | omega | (simp; omega))]; exact z5
  have a6 : (((((w.alloc (.cells #[.pointer (some r)] 212)).alloc (.cells #[.pointer (some r)] 216)).alloc (.cells #[.pointer (some r)] 220)).alloc (.cells #[.pointer (some r)] 224))).cell? ⟨s, 6, none⟩ = some x6 := by simp (maxDischargeDepth := 9) [h6, World.cell?_alloc_some]
  have b6 : (((((w.alloc (.cells #[.pointer (some r)] 212)).alloc (.cells #[.pointer (some r)] 216)).alloc (.cells #[.pointer (some r)] 220)).alloc (.cells #[.pointer (some r)] 224))).frozen? ⟨s, 6, none⟩ = false := by rw [World.frozen?_alloc_past _ _ _ (by first | omega | (simp; omega)), World.frozen?_alloc_past _ _ _ (by first | omega | (simp; omega)), World.frozen?_alloc_past _ _ _ (by first | omega | (simp; omega)), World.frozen?_alloc_past _ _ _ (by first | omega | (simp; omega))]; exact z6
  have a7 : (((((w.alloc (.cells #[.pointer (some r)] 212)).alloc (.cells #[.pointer (some r)] 216)).alloc (.cells #[.pointer (some r)] 220)).alloc (.cells #[.pointer (some r)] 224))).cell? ⟨s, 7, none⟩ = some x7 := by simp (maxDischargeDepth := 9) [h7, World.cell?_alloc_some]
  have b7 : (((((w.alloc (.cells #[.pointer (some r)] 212)).alloc (.cells #[.pointer (some r)] 216)).alloc (.cells #[.pointer (some r)] 220)).alloc (.cells #[.pointer (some r)] 224))).frozen? ⟨s, 7, none⟩ = false := by rw [World.frozen?_alloc_past _ _ _ (by first | omega | (simp; omega)), World.frozen?_alloc_past _ _ _ (by first | omega | (simp; omega)), World.frozen?_alloc_past _ _ _ (by first | omega | (simp; omega)), World.frozen?_alloc_past _ _ _ (by first | omega | (simp; omega))]; exact z7
  have a8 : (((((w.alloc (.cells #[.pointer (some r)] 212)).alloc (.cells #[.pointer (some r)] 216)).alloc (.cells #[.pointer (some r)] 220)).alloc (.cells #[.pointer (some r)] 224))).cell? ⟨s, 8, none⟩ = some x8 := by simp (maxDischargeDepth := 9) [h8, World.cell?_alloc_some]
  have b8 : (((((w.alloc (.cells #[.pointer (some r)] 212)).alloc (.cells #[.pointer (some r)] 216)).alloc (.cells #[.pointer (some r)] 220)).alloc (.cells #[.pointer (some r)] 224))).frozen? ⟨s, 8, none⟩ = false := by rw [World.frozen?_alloc_past _ _ _ (by first | omega | (simp; omega)), World.frozen?_alloc_past _ _ _ (by first | omega | (simp; omega)), World.frozen?_alloc_past _ _ _ (by first | omega | (simp; omega)), World.frozen?_alloc_past _ _ _ (by first | omega | (simp; omega))]; exact z8
  go_enter Tryz.func112, Tryz.ntmps112
  go_wp2
  go_region_held3 (fun w' : World => w'.cell? ⟨p, 0, none⟩ = some (.pointer (some ⟨s, 0, none⟩)) ∧ w'.cell? ⟨s, 3, none⟩ = some (.pointer (some r))) (first | with_reducible exact ⟨hp, hr⟩ | simp (maxDischargeDepth := 9) [hp, hr, hps, World.cell?_alloc_some, World.cell?_setCell_other]) (first | (go_at_call 113; refine (Tryz.newton_new _ _).mono ?_; rintro e w' ⟨rfl, rfl⟩) | (go_at_call 114; refine (Tryz.newtonroot_new _ _).mono ?_; rintro e w' ⟨rfl, rfl⟩) | (go_at_call 115; refine (Tryz.gold_new _ _).mono ?_; rintro e w' ⟨rfl, rfl⟩) | (go_at_call 116; refine (Tryz.goldroot_new _ _).mono ?_; rintro e w' ⟨rfl, rfl⟩))
  go_end0
  have q0 : ((((w.alloc (.cells #[.pointer (some r)] 212)).alloc (.cells #[.pointer (some r)] 216)).alloc (.cells #[.pointer (some r)] 220)).alloc (.cells #[.pointer (some r)] 224)).heap[s]? = w.heap[s]? := by
    rw [Below.heap_alloc _ _ _ (by simp; omega), Below.heap_alloc _ _ _ (by simp; omega), Below.heap_alloc _ _ _ (by simp; omega), Below.heap_alloc _ _ _ hs0]
  rw [hs] at q0
  have hd : ∀ x : World, x.drew.heap = x.heap := fun _ => rfl
  refine ⟨rfl, ⟨.iface 186 (.agg #[.pointer (some ⟨w.heap.size, 0, none⟩), .pointer (some ⟨w.heap.size + 1, 0, none⟩)]), .iface 192 (.agg #[.pointer (some ⟨w.heap.size + 1 + 1, 0, none⟩), .pointer (some ⟨w.heap.size + 1 + 1 + 1, 0, none⟩)]), ?_⟩, ?_⟩
  · rw [hd]
    exact Tryz.set5 q0 _ _ _ _ _
  · exact ((((((((((Kept.refl s w).alloc _).alloc _).alloc _).alloc _).setCell _ _).setCell _ _).setCell _ _).setCell _ _).setCell _ _).drew
end Go.Proofs
set_option linter.unusedVariables false
namespace Go.Proofs
open Go.RowKit
set_option maxRecDepth 100000
theorem Tryz.set01 {w : World} {s : Nat} {y0 y1 y2 y3 y4 y5 y6 y7 y8 c0 c1 c2 c3 c4 : Value} (h : w.heap[s]? = some (.cells #[y0, y1, y2, y3, y4, y5, y6, y7, y8, c0, c1, c2, c3, c4] 81 (0, 0))) (a : Value) :
    (w.setCell ⟨s, 0, none⟩ a).heap[s]? = some (.cells #[a, y1, y2, y3, y4, y5, y6, y7, y8, c0, c1, c2, c3, c4] 81 (0, 0)) ∧
    (w.setCell ⟨s, 1, none⟩ a).heap[s]? = some (.cells #[y0, a, y2, y3, y4, y5, y6, y7, y8, c0, c1, c2, c3, c4] 81 (0, 0)) ∧
    (w.setCell ⟨s, 10, none⟩ a).heap[s]? = some (.cells #[y0, y1, y2, y3, y4, y5, y6, y7, y8, c0, a, c2, c3, c4] 81 (0, 0)) :=
  ⟨Joins.block_setCell (i := 0) h a, Joins.block_setCell (i := 1) h a, Joins.block_setCell (i := 10) h a⟩
set_option maxHeartbeats 4000000 in
theorem Tryz.slow (p s : Nat) (hps : ¬ s = p) (r : Addr) (w : World) (hp : w.cell? ⟨p, 0, none⟩ = some (.pointer (some ⟨s, 0, none⟩))) (y2 x4 x5 x6 x7 x8 c0 c1 c2 c3 c4 : Value)
    (hs : w.heap[s]? = some (.cells #[.int .u32 0, .int .i32 0, y2, .pointer (some r), x4, x5, x6, x7, x8, c0, c1, c2, c3, c4] 81 (0, 0))) :
    Calls Tryz.prog 138 #[.pointer (some ⟨s, 0, none⟩), .func (.func 112) #[] #[.pointer (some ⟨p, 0, none⟩)]] w fun e w' => e = .returned (.tuple #[]) ∧ (∃ e3 e4, w'.heap[s]? = some (.cells #[.int .u32 1, .int .i32 0, y2, .pointer (some r), .nilIface, .iface 179 (.agg #[]), .iface 180 (.agg #[]), e3, e4, c0, c1, c2, c3, c4] 81 (0, 0))) ∧ Kept s w w' := by
  have h0 : w.cell? ⟨s, 0, none⟩ = some (.int .u32 0) := by rw [Lib.cell_of_heap hs]; rfl
  have h1 : w.cell? ⟨s, 1, none⟩ = some (.int .i32 0) := by rw [Lib.cell_of_heap hs]; rfl
  have f1 : w.frozen? ⟨s, 1, none⟩ = false := Lib.frozen_of_heap hs 1
  have hs1 := (Tryz.set01 hs (.int .i32 1)).2.1
  have hl := run_call_load (P := Tryz.prog) Tryz.func157 (by kernel_rfl) (by kernel_rfl) (by kernel_rfl) .u32 (by kernel_rfl) (w := w.setCell ⟨s, 1, none⟩ (.int .i32 1)) (a := ⟨s, 0, none⟩) (x := 0) ((World.cell?_setCell_other _ ⟨s, 1, none⟩ ⟨s, 0, none⟩ _ (by simp)).trans h0)
  have hp1 : (w.setCell ⟨s, 1, none⟩ (.int .i32 1)).cell? ⟨p, 0, none⟩ = some (.pointer (some ⟨s, 0, none⟩)) := (World.cell?_setCell_other _ ⟨s, 1, none⟩ ⟨p, 0, none⟩ _ (by simp [hps])).trans hp
  have hnot : ∀ (x : Bool) (w : World), (Op.unary .not (.bool x)).run Tryz.prog w = .ok (.bool (!x)) w := fun _ _ => rfl
  go_enter_defers Tryz.func138, Tryz.ntmps138
  go_wp2_with (first | (go_at_call 158; refine (Tryz.lock_free ⟨s, 1, none⟩ _ (by go_simp) (by go_simp)).mono ?_; rintro e w' ⟨rfl, rfl⟩) | (go_at_call 137; go_in) | (go_at_call 112; refine (Tryz.ready_fn p s hps r _ hp1 _ _ _ _ _ _ _ _ _ _ _ _ _ hs1).mono ?_; rintro e w2 ⟨rfl, ⟨e3, e4, hs2⟩, hk⟩))
  refine leaves_cons (f := 160) (args := #[.pointer (some ⟨s, 0, none⟩), .bool true]) (by simp) (by simp [go_sem]) ?_
  refine (Tryz.store_deferred ⟨s, 0, none⟩ (.int .u32 0) .returning _ (by rw [Lib.cell_of_heap hs2]; rfl) (Lib.frozen_of_heap hs2 0)).mono ?_
  rintro e u' w3 ⟨rfl, rfl, rfl⟩
  have hs3 := (Tryz.set01 (w := w2.drew) hs2 (.int .u32 1)).1
  refine leaves_cons (f := 159) (args := #[.pointer (some ⟨s, 1, none⟩)]) (by simp [settle]) (by simp [go_sem]) ?_
  refine (Tryz.unlock_deferred ⟨s, 1, none⟩ _ _ (by rw [Lib.cell_of_heap hs3]; rfl) (Lib.frozen_of_heap hs3 1)).mono ?_
  rintro e u' w4 ⟨rfl, rfl, rfl⟩
  have hs4 := (Tryz.set01 hs3 (.int .i32 0)).2.1
  have hk4 : Kept s w ((w2.drew.setCell ⟨s, 0, none⟩ (.int .u32 1)).setCell ⟨s, 1, none⟩ (.int .i32 0)) := (((((Kept.refl s w).setCell 1 _).trans hk).drew).setCell 0 _).setCell 1 _
  simp [Leaves, settle, results, Tryz.results138]
  exact ⟨⟨e3, e4, hs4⟩, hk4⟩
/-- (*sync.Once).Do, not yet done. -/
theorem Tryz.do_first (p s : Nat) (hps : ¬ s = p) (r : Addr) (w : World) (hp : w.cell? ⟨p, 0, none⟩ = some (.pointer (some ⟨s, 0, none⟩))) (y2 x4 x5 x6 x7 x8 c0 c1 c2 c3 c4 : Value)
    (hs : w.heap[s]? = some (.cells #[.int .u32 0, .int .i32 0, y2, .pointer (some r), x4, x5, x6, x7, x8, c0, c1, c2, c3, c4] 81 (0, 0))) :
    Calls Tryz.prog 111 #[.pointer (some ⟨s, 0, none⟩), .func (.func 112) #[] #[.pointer (some ⟨p, 0, none⟩)]] w fun e w' => e = .returned (.tuple #[]) ∧ (∃ e3 e4, w'.heap[s]? = some (.cells #[.int .u32 1, .int .i32 0, y2, .pointer (some r), .nilIface, .iface 179 (.agg #[]), .iface 180 (.agg #[]), e3, e4, c0, c1, c2, c3, c4] 81 (0, 0))) ∧ Kept s w w' := by
  have h0 : w.cell? ⟨s, 0, none⟩ = some (.int .u32 0) := by rw [Lib.cell_of_heap hs]; rfl
  have hl := run_call_load (P := Tryz.prog) Tryz.func157 (by kernel_rfl) (by kernel_rfl) (by kernel_rfl) .u32 (by kernel_rfl) h0
  have hnot : ∀ (x : Bool) (w : World), (Op.unary .not (.bool x)).run Tryz.prog w = .ok (.bool (!x)) w := fun _ _ => rfl
  go_enter Tryz.func111, Tryz.ntmps111
  go_wp2_with (first | (go_at_call 138; refine (Tryz.slow p s hps r _ hp _ _ _ _ _ _ _ _ _ _ _ hs).mono ?_; rintro e w2 ⟨rfl, hs2, hk⟩) | (go_at_call 137; go_in))
  go_end0
  exact ⟨rfl, hs2, hk⟩
/-- (*sync.Once).Do, done. -/
theorem Tryz.do_done (s : Nat) (fv : Value) (w : World) (h0 : w.cell? ⟨s, 0, none⟩ = some (.int .u32 1)) :
    Calls Tryz.prog 111 #[.pointer (some ⟨s, 0, none⟩), fv] w fun e w' => e = .returned (.tuple #[]) ∧ w' = w := by
  have hl := run_call_load (P := Tryz.prog) Tryz.func157 (by kernel_rfl) (by kernel_rfl) (by kernel_rfl) .u32 (by kernel_rfl) h0
  have hnot : ∀ (x : Bool) (w : World), (Op.unary .not (.bool x)).run Tryz.prog w = .ok (.bool (!x)) w := fun _ _ => rfl
  go_enter Tryz.func111, Tryz.ntmps111
  go_wp2
  go_end0
  exact ⟨rfl, rfl⟩
end Go.Proofs
set_option linter.unusedVariables false
namespace Go.Proofs
open Go.RowKit
set_option maxRecDepth 100000
/-- The set of engines at block s: not yet made (d = 0), or made (d = 1); its lock is free. -/
def SetAt (s : Nat) (w : World) : Prop := ∃ (d : Int) (y2 : Value) (r : Addr) (x4 x5 x6 x7 x8 : Value) (n0 n1 n2 n3 n4 : Int),
  w.heap[s]? = some (.cells #[.int .u32 d, .int .i32 0, y2, .pointer (some r), x4, x5, x6, x7, x8, .int .i64 n0, .int .i64 n1, .int .i64 n2, .int .i64 n3, .int .i64 n4] 81 (0, 0)) ∧ (d = 0 ∨ d = 1 ∧ x5 = .iface 179 (.agg #[]))
def SetRdy (s : Nat) (w : World) : Prop := ∃ (y2 : Value) (r : Addr) (x4 x6 x7 x8 : Value) (n0 n1 n2 n3 n4 : Int),
  w.heap[s]? = some (.cells #[.int .u32 1, .int .i32 0, y2, .pointer (some r), x4, .iface 179 (.agg #[]), x6, x7, x8, .int .i64 n0, .int .i64 n1, .int .i64 n2, .int .i64 n3, .int .i64 n4] 81 (0, 0))
theorem SetRdy.at {s : Nat} {w : World} (h : SetRdy s w) : SetAt s w := by
  obtain ⟨y2, r, x4, x6, x7, x8, n0, n1, n2, n3, n4, h⟩ := h
  exact ⟨1, y2, r, x4, _, x6, x7, x8, n0, n1, n2, n3, n4, h, .inr ⟨rfl, rfl⟩⟩
theorem SetAt.lt {s : Nat} {w : World} (h : SetAt s w) : s < w.heap.size := by
  obtain ⟨d, y2, r, x4, x5, x6, x7, x8, n0, n1, n2, n3, n4, h, _⟩ := h
  exact (Array.getElem?_eq_some_iff.1 h).1
theorem SetAt.of_eq {s : Nat} {w w' : World} (h : SetAt s w) (e : w'.heap[s]? = w.heap[s]?) : SetAt s w' := by
  unfold SetAt at *
  rw [e]
  exact h
theorem SetRdy.of_eq {s : Nat} {w w' : World} (h : SetRdy s w) (e : w'.heap[s]? = w.heap[s]?) : SetRdy s w' := by
  unfold SetRdy at *
  rw [e]
  exact h
theorem SetRdy.below {s : Nat} {w w' : World} (h : SetRdy s w) (b : Below w.heap.size w w') : SetRdy s w' := h.of_eq (b.block s h.at.lt)
theorem SetAt.below {s : Nat} {w w' : World} (h : SetAt s w) (b : Below w.heap.size w w') : SetAt s w' := h.of_eq (b.block s h.lt)
theorem SetAt.alloc {s : Nat} {w : World} (h : SetAt s w) (o : Obj) : SetAt s (w.alloc o) := h.of_eq (Below.heap_alloc w o s h.lt)
theorem SetRdy.alloc {s : Nat} {w : World} (h : SetRdy s w) (o : Obj) : SetRdy s (w.alloc o) := h.of_eq (Below.heap_alloc w o s h.at.lt)
set_option maxHeartbeats 4000000 in
theorem Tryz.ready (s : Nat) (w : World) (h : SetAt s w) :
    Calls Tryz.prog 85 #[.pointer (some ⟨s, 0, none⟩)] w fun e w' => e = .returned (.tuple #[]) ∧ SetRdy s w' ∧ Kept s w w' := by
  have hlt := h.lt
  have hmf : ∀ (fn : Fn) (first cap : Array Value) (w : World), (Instr.makeFunc fn first cap).run Tryz.prog w = .ok (.func fn first cap) w := fun _ _ _ _ => rfl
  have h' := h.alloc (.cells #[.pointer (some ⟨s, 0, none⟩)] 45)
  have hp : (w.alloc (.cells #[.pointer (some ⟨s, 0, none⟩)] 45)).cell? ⟨w.heap.size, 0, none⟩ = some (.pointer (some ⟨s, 0, none⟩)) := by simp
  obtain ⟨d, y2, r, x4, x5, x6, x7, x8, n0, n1, n2, n3, n4, hs, hd⟩ := h'
  rcases hd with rfl | ⟨rfl, rfl⟩
  · go_enter Tryz.func85, Tryz.ntmps85
    go_wp2_with (go_at_call 111; refine (Tryz.do_first w.heap.size s (by omega) r _ hp _ _ _ _ _ _ _ _ _ _ _ hs).mono ?_; rintro e w2 ⟨rfl, ⟨e3, e4, hs2⟩, hk⟩)
    go_end0
    exact ⟨rfl, ⟨_, _, _, _, _, _, _, _, _, _, _, hs2⟩, ((Kept.refl s w).alloc _).trans hk⟩
  · have h0 : (w.alloc (.cells #[.pointer (some ⟨s, 0, none⟩)] 45)).cell? ⟨s, 0, none⟩ = some (.int .u32 1) := by rw [Lib.cell_of_heap hs]; rfl
    go_enter Tryz.func85, Tryz.ntmps85
    go_wp2_with (go_at_call 111; refine (Tryz.do_done s _ _ h0).mono ?_; rintro e w2 ⟨rfl, rfl⟩)
    go_end0
    exact ⟨rfl, ⟨_, _, _, _, _, _, _, _, _, _, _, hs⟩, (Kept.refl s w).alloc _⟩
set_option maxHeartbeats 4000000 in
theorem Tryz.set_of (s : Nat) (w : World) (h : SetAt s w) :
    Calls Tryz.prog 58 #[.pointer (some ⟨s, 0, none⟩), .int .i64 1] w fun e w' => e = .returned (.tuple #[.iface 179 (.agg #[]), .bool true]) ∧ SetRdy s w' ∧ Kept s w w' := by
  have hnot : ∀ (x : Bool) (w : World), (Op.unary .not (.bool x)).run Tryz.prog w = .ok (.bool (!x)) w := fun _ _ => rfl
  go_enter Tryz.func58, Tryz.ntmps58
  go_wp2_with (first | (go_at_call 85; refine (Tryz.ready s _ h).mono ?_; rintro e w2 ⟨rfl, hr, hk⟩; obtain ⟨z2, z3, z4, z6, z7, z8, m0, m1, m2, m3, m4, hs⟩ := id hr; have hc5 : w2.cell? ⟨s, 5, none⟩ = some (.iface 179 (.agg #[])) := (by rw [Lib.cell_of_heap hs]; rfl)) | (go_at_call 44; go_in))
  go_ret2
  exact ⟨rfl, hr, hk⟩
end Go.Proofs