import Derived.Test.YtnanihpaifaceaaGreatDoorUH
import Derived.Deep.RegionHeld3
import Derived.Test.YtnanihpaifaceaaGreatDoorLeT
set_option linter.unusedVariables false
set_option linter.unusedSimpArgs false
set_option linter.unusedVariables false
namespace Go.Proofs
open Go.RowKit Go.LE
set_option maxRecDepth 100000
set_option maxHeartbeats 8000000 in
theorem Tryz.fpu_Div (U s : Nat) (hUs : U ≠ s) (hsg : Go.LE.look globs s = none) (f m : Int) (hf0 : inK .i64 f) (hm0 : inK .i64 m) (a b : BitVec 128) (ha : fFits f a = true) (hb : fFits f b = true) (hm : isM m = true) (w : World) (hU : w.heap[U]? = some (.cells #[.pointer (some ⟨s, 0, none⟩)] 50 (0, 0))) (hg : GR globs none' w) (h : SetAt s w) :
    Calls Tryz.prog 10 #[.pointer (some ⟨U, 0, none⟩), .int .i64 f, .int .i64 m, .agg #[.int .u64 (hiR a), .int .u64 (loR a)], .agg #[.int .u64 (hiR b), .int .u64 (loR b)]] w fun e w' => e = .returned (.tuple #[.agg #[.int .u64 (hiR (dvW f m a b)), .int .u64 (loR (dvW f m a b))], .int .i64 (dvX f m a b)]) ∧ SetAt s w' ∧ Kept s w w' := by
  have hlt := h.lt
  have hdo := fun w hU hg h => Tryz.fpu_do_div U s hUs hsg f m hf0 hm0 a b ha hb hm w hU hg h
  have hk3 := ((((Kept.refl s w).alloc (.cells #[.int .u64 (hiR a), .int .u64 (loR a)] 25)).alloc (.cells #[.int .u64 (hiR b), .int .u64 (loR b)] 25)).alloc (.cells #[.int .u64 0, .int .u64 0] 25))
  have h3 := (((h.alloc (.cells #[.int .u64 (hiR a), .int .u64 (loR a)] 25)).alloc (.cells #[.int .u64 (hiR b), .int .u64 (loR b)] 25)).alloc (.cells #[.int .u64 0, .int .u64 0] 25))
  have e1 : (((w.alloc (.cells #[.int .u64 (hiR a), .int .u64 (loR a)] 25)).alloc (.cells #[.int .u64 (hiR b), .int .u64 (loR b)] 25)).alloc (.cells #[.int .u64 0, .int .u64 0] 25)).heap[w.heap.size]? = some (.cells #[.int .u64 (hiR a), .int .u64 (loR a)] 25 (0, 0)) := by
    have q0 : (w.alloc (.cells #[.int .u64 (hiR a), .int .u64 (loR a)] 25)).heap[w.heap.size]? = some (.cells #[.int .u64 (hiR a), .int .u64 (loR a)] 25) := by have := World.alloc_heap_new w (.cells #[.int .u64 (hiR a), .int .u64 (loR a)] 25); simpa using this
    have q1 := (Below.heap_alloc (w.alloc (.cells #[.int .u64 (hiR a), .int .u64 (loR a)] 25)) (.cells #[.int .u64 (hiR b), .int .u64 (loR b)] 25) (w.heap.size) (by simp <;> omega)).trans q0
    have q2 := (Below.heap_alloc ((w.alloc (.cells #[.int .u64 (hiR a), .int .u64 (loR a)] 25)).alloc (.cells #[.int .u64 (hiR b), .int .u64 (loR b)] 25)) (.cells #[.int .u64 0, .int .u64 0] 25) (w.heap.size) (by simp <;> omega)).trans q1
    exact q2
  have e2 : (((w.alloc (.cells #[.int .u64 (hiR a), .int .u64 (loR a)] 25)).alloc (.cells #[.int .u64 (hiR b), .int .u64 (loR b)] 25)).alloc (.cells #[.int .u64 0, .int .u64 0] 25)).heap[w.heap.size + 1]? = some (.cells #[.int .u64 (hiR b), .int .u64 (loR b)] 25 (0, 0)) := by
    have q0 : ((w.alloc (.cells #[.int .u64 (hiR a), .int .u64 (loR a)] 25)).alloc (.cells #[.int .u64 (hiR b), .int .u64 (loR b)] 25)).heap[w.heap.size + 1]? = some (.cells #[.int .u64 (hiR b), .int .u64 (loR b)] 25) := by have := World.alloc_heap_new (w.alloc (.cells #[.int .u64 (hiR a), .int .u64 (loR a)] 25)) (.cells #[.int .u64 (hiR b), .int .u64 (loR b)] 25); simpa using this
    have q1 := (Below.heap_alloc ((w.alloc (.cells #[.int .u64 (hiR a), .int .u64 (loR a)] 25)).alloc (.cells #[.int .u64 (hiR b), .int .u64 (loR b)] 25)) (.cells #[.int .u64 0, .int .u64 0] 25) (w.heap.size + 1) (by simp <;> omega)).trans q0
    exact q1
  have e3 : (((w.alloc (.cells #[.int .u64 (hiR a), .int .u64 (loR a)] 25)).alloc (.cells #[.int .u64 (hiR b), .int .u64 (loR b)] 25)).alloc (.cells #[.int .u64 0, .int .u64 0] 25)).heap[w.heap.size + 1 + 1]? = some (.cells #[.int .u64 0, .int .u64 0] 25 (0, 0)) := by
    have q0 : (((w.alloc (.cells #[.int .u64 (hiR a), .int .u64 (loR a)] 25)).alloc (.cells #[.int .u64 (hiR b), .int .u64 (loR b)] 25)).alloc (.cells #[.int .u64 0, .int .u64 0] 25)).heap[w.heap.size + 1 + 1]? = some (.cells #[.int .u64 0, .int .u64 0] 25) := by have := World.alloc_heap_new ((w.alloc (.cells #[.int .u64 (hiR a), .int .u64 (loR a)] 25)).alloc (.cells #[.int .u64 (hiR b), .int .u64 (loR b)] 25)) (.cells #[.int .u64 0, .int .u64 0] 25); simpa using this
    exact q0
  have u3 := (Tryz.up (Tryz.up (Tryz.up hU (.cells #[.int .u64 (hiR a), .int .u64 (loR a)] 25)) (.cells #[.int .u64 (hiR b), .int .u64 (loR b)] 25)) (.cells #[.int .u64 0, .int .u64 0] 25))
  have hg3 := Tryz.GR_kept hsg hg hk3
  obtain ⟨c00, c01, -, -⟩ := Tryz.cells2 e1
  obtain ⟨c10, c11, -, -⟩ := Tryz.cells2 e2
  go_enter Tryz.func10, Tryz.ntmps10
  go_wp2_with (go_at_call 25; refine (hdo _ u3 hg3 h3).mono ?_; rintro e w4 ⟨rfl, hr4, hk4⟩; have z4 := Tryz.up (Tryz.thru e3 hk4 (by omega)) (.cells #[.int .u64 (hiR (dvW f m a b)), .int .u64 (loR (dvW f m a b)), .int .i64 (dvX f m a b), .int .i64 0] 52); have r4 := World.alloc_heap_new w4 (.cells #[.int .u64 (hiR (dvW f m a b)), .int .u64 (loR (dvW f m a b)), .int .i64 (dvX f m a b), .int .i64 0] 52))
  have k4 := (hk3.trans hk4).alloc (.cells #[.int .u64 (hiR (dvW f m a b)), .int .u64 (loR (dvW f m a b)), .int .i64 (dvX f m a b), .int .i64 0] 52)
  have h4 := hr4.alloc (.cells #[.int .u64 (hiR (dvW f m a b)), .int .u64 (loR (dvW f m a b)), .int .i64 (dvX f m a b), .int .i64 0] 52)
  have s4 : w.heap.size + 1 + 1 + 1 ≤ w4.heap.size := by have := hk4.size; simpa using this
  obtain ⟨ra0, ra1, ra2, ra3, -, -, -, -⟩ := Tryz.cells4 r4
  obtain ⟨za0, za1, zf0, zf1⟩ := Tryz.cells2 z4
  obtain ⟨rb0, rb1, rb2, rb3, -, -, -, -⟩ := Tryz.cells4 ((Tryz.set2_other (w4.alloc (.cells #[.int .u64 (hiR (dvW f m a b)), .int .u64 (loR (dvW f m a b)), .int .i64 (dvX f m a b), .int .i64 0] 52)) (w.heap.size + 1 + 1) w4.heap.size (by omega) (.int .u64 (hiR (dvW f m a b))) (.int .u64 (loR (dvW f m a b)))).trans r4)
  go_region_held3 (fun w' : World => w'.cell? ⟨w4.heap.size, 0, none⟩ = some (.int .u64 (hiR (dvW f m a b))) ∧ w'.cell? ⟨w4.heap.size, 1, none⟩ = some (.int .u64 (loR (dvW f m a b))) ∧ w'.cell? ⟨w4.heap.size, 2, none⟩ = some (.int .i64 (dvX f m a b))) (first | with_reducible exact ⟨ra0, ra1, ra2⟩ | exact ⟨ra0, ra1, ra2⟩ | exact ⟨rb0, rb1, rb2⟩) (first | fail)
  go_wp2
  have hA := Tryz.in_drew (Tryz.set2 z4 (.int .u64 (hiR (dvW f m a b))) (.int .u64 (loR (dvW f m a b))))
  refine bodyPost_ret (Tryz.results_ct (d := _) rfl _ _ (w.heap.size + 1 + 1) 25 _ _ (by rfl) hA Tryz.underlying25 rfl (by kernel_rfl)) rfl ?_
  exact ⟨rfl, h4.of_eq (Tryz.in_drew (Tryz.set2_other _ _ _ (by omega) _ _)), (k4.set2 (by omega) _ _).drew⟩
set_option maxHeartbeats 8000000 in
theorem Tryz.fpu_Sqrt (U s : Nat) (hUs : U ≠ s) (hsg : Go.LE.look globs s = none) (f m : Int) (hf0 : inK .i64 f) (hm0 : inK .i64 m) (a : BitVec 128) (ha : fFits f a = true) (hm : isM m = true) (w : World) (hU : w.heap[U]? = some (.cells #[.pointer (some ⟨s, 0, none⟩)] 50 (0, 0))) (hg : GR globs none' w) (h : SetAt s w) :
    Calls Tryz.prog 11 #[.pointer (some ⟨U, 0, none⟩), .int .i64 f, .int .i64 m, .agg #[.int .u64 (hiR a), .int .u64 (loR a)]] w fun e w' => e = .returned (.tuple #[.agg #[.int .u64 (hiR (sqW f m a)), .int .u64 (loR (sqW f m a))], .int .i64 (sqX f m a)]) ∧ SetAt s w' ∧ Kept s w w' := by
  have hlt := h.lt
  have hdo := fun w hU hg h => Tryz.fpu_do_sqrt U s hUs hsg f m hf0 hm0 a (0 : BitVec 128) ha hm w hU hg h
  simp only [show hiR (0 : BitVec 128) = 0 by decide, show loR (0 : BitVec 128) = 0 by decide] at hdo
  have hk3 := (((Kept.refl s w).alloc (.cells #[.int .u64 (hiR a), .int .u64 (loR a)] 25)).alloc (.cells #[.int .u64 0, .int .u64 0] 25))
  have h3 := ((h.alloc (.cells #[.int .u64 (hiR a), .int .u64 (loR a)] 25)).alloc (.cells #[.int .u64 0, .int .u64 0] 25))
  have e1 : ((w.alloc (.cells #[.int .u64 (hiR a), .int .u64 (loR a)] 25)).alloc (.cells #[.int .u64 0, .int .u64 0] 25)).heap[w.heap.size]? = some (.cells #[.int .u64 (hiR a), .int .u64 (loR a)] 25 (0, 0)) := by
    have q0 : (w.alloc (.cells #[.int .u64 (hiR a), .int .u64 (loR a)] 25)).heap[w.heap.size]? = some (.cells #[.int .u64 (hiR a), .int .u64 (loR a)] 25) := by have := World.alloc_heap_new w (.cells #[.int .u64 (hiR a), .int .u64 (loR a)] 25); simpa using this
    have q1 := (Below.heap_alloc (w.alloc (.cells #[.int .u64 (hiR a), .int .u64 (loR a)] 25)) (.cells #[.int .u64 0, .int .u64 0] 25) (w.heap.size) (by simp <;> omega)).trans q0
    exact q1
  have e2 : ((w.alloc (.cells #[.int .u64 (hiR a), .int .u64 (loR a)] 25)).alloc (.cells #[.int .u64 0, .int .u64 0] 25)).heap[w.heap.size + 1]? = some (.cells #[.int .u64 0, .int .u64 0] 25 (0, 0)) := by
    have q0 : ((w.alloc (.cells #[.int .u64 (hiR a), .int .u64 (loR a)] 25)).alloc (.cells #[.int .u64 0, .int .u64 0] 25)).heap[w.heap.size + 1]? = some (.cells #[.int .u64 0, .int .u64 0] 25) := by have := World.alloc_heap_new (w.alloc (.cells #[.int .u64 (hiR a), .int .u64 (loR a)] 25)) (.cells #[.int .u64 0, .int .u64 0] 25); simpa using this
    exact q0
  have u3 := (Tryz.up (Tryz.up hU (.cells #[.int .u64 (hiR a), .int .u64 (loR a)] 25)) (.cells #[.int .u64 0, .int .u64 0] 25))
  have hg3 := Tryz.GR_kept hsg hg hk3
  obtain ⟨c00, c01, -, -⟩ := Tryz.cells2 e1
  go_enter Tryz.func11, Tryz.ntmps11
  go_wp2_with (go_at_call 25; refine (hdo _ u3 hg3 h3).mono ?_; rintro e w4 ⟨rfl, hr4, hk4⟩; have z4 := Tryz.up (Tryz.thru e2 hk4 (by omega)) (.cells #[.int .u64 (hiR (sqW f m a)), .int .u64 (loR (sqW f m a)), .int .i64 (sqX f m a), .int .i64 0] 52); have r4 := World.alloc_heap_new w4 (.cells #[.int .u64 (hiR (sqW f m a)), .int .u64 (loR (sqW f m a)), .int .i64 (sqX f m a), .int .i64 0] 52))
  have k4 := (hk3.trans hk4).alloc (.cells #[.int .u64 (hiR (sqW f m a)), .int .u64 (loR (sqW f m a)), .int .i64 (sqX f m a), .int .i64 0] 52)
  have h4 := hr4.alloc (.cells #[.int .u64 (hiR (sqW f m a)), .int .u64 (loR (sqW f m a)), .int .i64 (sqX f m a), .int .i64 0] 52)
  have s4 : w.heap.size + 1 + 1 ≤ w4.heap.size := by have := hk4.size; simpa using this
  obtain ⟨ra0, ra1, ra2, ra3, -, -, -, -⟩ := Tryz.cells4 r4
  obtain ⟨za0, za1, zf0, zf1⟩ := Tryz.cells2 z4
  obtain ⟨rb0, rb1, rb2, rb3, -, -, -, -⟩ := Tryz.cells4 ((Tryz.set2_other (w4.alloc (.cells #[.int .u64 (hiR (sqW f m a)), .int .u64 (loR (sqW f m a)), .int .i64 (sqX f m a), .int .i64 0] 52)) (w.heap.size + 1) w4.heap.size (by omega) (.int .u64 (hiR (sqW f m a))) (.int .u64 (loR (sqW f m a)))).trans r4)
  go_region_held3 (fun w' : World => w'.cell? ⟨w4.heap.size, 0, none⟩ = some (.int .u64 (hiR (sqW f m a))) ∧ w'.cell? ⟨w4.heap.size, 1, none⟩ = some (.int .u64 (loR (sqW f m a))) ∧ w'.cell? ⟨w4.heap.size, 2, none⟩ = some (.int .i64 (sqX f m a))) (first | with_reducible exact ⟨ra0, ra1, ra2⟩ | exact ⟨ra0, ra1, ra2⟩ | exact ⟨rb0, rb1, rb2⟩) (first | fail)
  go_wp2
  have hA := Tryz.in_drew (Tryz.set2 z4 (.int .u64 (hiR (sqW f m a))) (.int .u64 (loR (sqW f m a))))
  refine bodyPost_ret (Tryz.results_ct (d := _) rfl _ _ (w.heap.size + 1) 25 _ _ (by rfl) hA Tryz.underlying25 rfl (by kernel_rfl)) rfl ?_
  exact ⟨rfl, h4.of_eq (Tryz.in_drew (Tryz.set2_other _ _ _ (by omega) _ _)), (k4.set2 (by omega) _ _).drew⟩
end Go.Proofs
set_option linter.unusedVariables false
namespace Go.Proofs
open Go.RowKit Go.LE
set_option maxRecDepth 100000
set_option maxHeartbeats 4000000 in
theorem Tryz.rom_new (w : World) : Calls Tryz.prog 33 #[] w fun e w' => e = .returned (.pointer (some ⟨w.heap.size, 0, none⟩)) ∧ w' = w.alloc (.cells Tryz.zeroCells90 90) := by
  go_enter Tryz.func33, Tryz.ntmps33
  go_wp2
  go_ret
  exact ⟨rfl, rfl⟩
set_option maxHeartbeats 4000000 in
theorem Tryz.engine_new (w : World) : Calls Tryz.prog 24 #[] w fun e w' => e = .returned (.pointer (some ⟨w.heap.size + 1, 0, none⟩)) ∧ w' = (w.alloc (.cells Tryz.zeroCells90 90)).alloc (.cells #[.int .u32 0, .int .i32 0, .int .u32 0, .pointer (some ⟨w.heap.size, 0, none⟩), .nilIface, .nilIface, .nilIface, .nilIface, .nilIface, .int .i64 0, .int .i64 0, .int .i64 0, .int .i64 0, .int .i64 0] 81) := by
  go_enter Tryz.func24, Tryz.ntmps24
  go_wp2_with (go_at_call 33; refine (Tryz.rom_new _).mono ?_; rintro e w4 ⟨rfl, rfl⟩)
  go_ret
  exact ⟨rfl, rfl⟩
/-- a processor at block U, whose set lies at block s -/
structure FpuAt (U s : Nat) (w : World) : Prop where
  ne : U ≠ s
  at_ : w.heap[U]? = some (.cells #[.pointer (some ⟨s, 0, none⟩)] 50 (0, 0))
  set : SetAt s w
theorem FpuAt.kept {U s : Nat} {w w' : World} (h : FpuAt U s w) (k : Kept s w w') (hs : SetAt s w') : FpuAt U s w' := ⟨h.ne, Tryz.thru h.at_ k h.ne, hs⟩
theorem FpuAt.alloc {U s : Nat} {w : World} (h : FpuAt U s w) (o : Obj) : FpuAt U s (w.alloc o) := ⟨h.ne, Tryz.up h.at_ o, h.set.alloc o⟩
theorem FpuAt.below {U s : Nat} {w w' : World} (h : FpuAt U s w) (b : Below w.heap.size w w') : FpuAt U s w' := ⟨h.ne, Tryz.thruB h.at_ b, h.set.below b⟩
set_option maxHeartbeats 4000000 in
theorem Tryz.fpu_new (w : World) : Calls Tryz.prog 9 #[] w fun e w' => e = .returned (.pointer (some ⟨w.heap.size + 1 + 1, 0, none⟩)) ∧ FpuAt (w.heap.size + 1 + 1) (w.heap.size + 1) w' ∧ Below w.heap.size w w' := by
  go_enter Tryz.func9, Tryz.ntmps9
  go_wp2_with (go_at_call 24; refine (Tryz.engine_new _).mono ?_; rintro e w4 ⟨rfl, rfl⟩)
  go_ret
  refine ⟨rfl, ⟨by omega, ?_, ?_⟩, ?_⟩
  · have := World.alloc_heap_new ((w.alloc (.cells Tryz.zeroCells90 90)).alloc (.cells #[.int .u32 0, .int .i32 0, .int .u32 0, .pointer (some ⟨w.heap.size, 0, none⟩), .nilIface, .nilIface, .nilIface, .nilIface, .nilIface, .int .i64 0, .int .i64 0, .int .i64 0, .int .i64 0, .int .i64 0] 81)) (.cells #[.pointer (some ⟨w.heap.size + 1, 0, none⟩)] 50)
    simpa using this
  · refine SetAt.alloc ⟨0, _, _, _, _, _, _, _, _, _, _, _, _, Tryz.new2 w _ _, .inl rfl⟩ _
  · exact (((Below.refl _ w).alloc (Nat.le_refl _) _).alloc (by simp) _).alloc (by simp <;> omega) _
theorem Tryz.GR_off {w : World} (hg : GR globs none' w) {s : Nat} (h : w.heap.size ≤ s) : Go.LE.look globs s = none := by
  cases e : Go.LE.look globs s with
  | none => rfl
  | some c => have := hg.lt e; omega
theorem Tryz.eq25 (a b : BitVec 128) (w : World) : (binOp .eql 25 (.agg #[.int .u64 (hiR a), .int .u64 (loR a)]) (.agg #[.int .u64 (hiR b), .int .u64 (loR b)])).run Tryz.prog w = .ok (.bool (decide (a = b))) w := by
  have h := equalIn_ty (P := Tryz.prog) (.struct [.int .u64, .int .u64]) 25 10000 w (wordCells a) (wordCells b) (tyChk_ok _ _ (by kernel_rfl)) (by simp only [CT, CTs]; exact ⟨[_], _, rfl, ⟨_, rfl⟩, [_], _, rfl, ⟨_, rfl⟩, rfl⟩) (by simp only [CT, CTs]; exact ⟨[_], _, rfl, ⟨_, rfl⟩, [_], _, rfl, ⟨_, rfl⟩, rfl⟩) (by decide)
  rw [ceq_word] at h
  have h2 : (Op.equalIn 10000 25 (.agg #[.int .u64 (hiR a), .int .u64 (loR a)]) (.agg #[.int .u64 (hiR b), .int .u64 (loR b)])).run Tryz.prog w = .ok (decide (a = b)) w := h
  simp only [binOp]
  simp [Op.equal, Op.maxDepth, h2]
theorem Tryz.neq25 (a b : BitVec 128) (w : World) : (binOp .neq 25 (.agg #[.int .u64 (hiR a), .int .u64 (loR a)]) (.agg #[.int .u64 (hiR b), .int .u64 (loR b)])).run Tryz.prog w = .ok (.bool (!decide (a = b))) w := by
  have h := equalIn_ty (P := Tryz.prog) (.struct [.int .u64, .int .u64]) 25 10000 w (wordCells a) (wordCells b) (tyChk_ok _ _ (by kernel_rfl)) (by simp only [CT, CTs]; exact ⟨[_], _, rfl, ⟨_, rfl⟩, [_], _, rfl, ⟨_, rfl⟩, rfl⟩) (by simp only [CT, CTs]; exact ⟨[_], _, rfl, ⟨_, rfl⟩, [_], _, rfl, ⟨_, rfl⟩, rfl⟩) (by decide)
  rw [ceq_word] at h
  have h2 : (Op.equalIn 10000 25 (.agg #[.int .u64 (hiR a), .int .u64 (loR a)]) (.agg #[.int .u64 (hiR b), .int .u64 (loR b)])).run Tryz.prog w = .ok (decide (a = b)) w := h
  simp only [binOp]
  simp [Op.equal, Op.maxDepth, h2]
end Go.Proofs
set_option linter.unusedVariables false
namespace Go.Proofs
open Go.RowKit Go.LE
set_option maxRecDepth 100000
theorem Tryz.i1 : inK .i64 1 := by rw [inK_iff]; decide
theorem Tryz.i2 : inK .i64 2 := by rw [inK_iff]; decide
theorem Tryz.i0 : inK .i64 0 := by rw [inK_iff]; decide
set_option maxHeartbeats 8000000 in
theorem Tryz.awake (w : World) (hg : GR globs none' w) : Calls Tryz.prog 8 #[] w fun e w' => e = .returned (.bool true) ∧ Below w.heap.size w w' := by
  obtain ⟨f1, f2, f3, f4⟩ := awk_fits
  obtain ⟨d1, d2⟩ := awk_div
  obtain ⟨q1, q2⟩ := awk_sqrt
  have hsg := Tryz.GR_off hg (s := w.heap.size + 1) (by omega)
  have h1 : hiR 1065353216#128 = 0 ∧ loR 1065353216#128 = 1065353216 := by decide +kernel
  have h2 : hiR 1077936128#128 = 0 ∧ loR 1077936128#128 = 1077936128 := by decide +kernel
  have h3 : hiR 1073741824#128 = 0 ∧ loR 1073741824#128 = 1073741824 := by decide +kernel
  have h4 : hiR 1051372203#128 = 0 ∧ loR 1051372203#128 = 1051372203 := by decide +kernel
  have h5 : hiR 1068827891#128 = 0 ∧ loR 1068827891#128 = 1068827891 := by decide +kernel
  have hd := fun (W : World) (hF : FpuAt (w.heap.size + 1 + 1) (w.heap.size + 1) W) (hG : GR globs none' W) => Tryz.fpu_Div (w.heap.size + 1 + 1) (w.heap.size + 1) hF.ne hsg 2 1 Tryz.i2 Tryz.i1 1065353216#128 1077936128#128 f1 f2 f4 W hF.at_ hG hF.set
  have hs := fun (W : World) (hF : FpuAt (w.heap.size + 1 + 1) (w.heap.size + 1) W) (hG : GR globs none' W) => Tryz.fpu_Sqrt (w.heap.size + 1 + 1) (w.heap.size + 1) hF.ne hsg 2 1 Tryz.i2 Tryz.i1 1073741824#128 f3 f4 W hF.at_ hG hF.set
  simp only [d1, d2, h1, h2, h4] at hd
  simp only [q1, q2, h3, h5] at hs
  have e1 := Tryz.eq25 1051372203#128 1051372203#128
  have e2 := Tryz.eq25 1068827891#128 1068827891#128
  simp only [h4, h5, decide_true] at e1 e2
  clear f1 f2 f3 f4 d1 d2 q1 q2 h1 h2 h3 h4 h5
  go_enter Tryz.func8, Tryz.ntmps8
  go_wp2_with (go_at_call 9; refine (Tryz.fpu_new _).mono ?_; rintro e w4 ⟨rfl, hF4, hb4⟩)
  have hg4 := Tryz.GR_below hg hb4
  go_wp2_with (go_at_call 10; refine (hd _ hF4 hg4).mono ?_; rintro e w5 ⟨rfl, hs5, hk5⟩; have hW := World.alloc_heap_new w5 (.cells #[.int .u64 0, .int .u64 1051372203] 25))
  have hF5 := (hF4.kept hk5 hs5).alloc (.cells #[.int .u64 0, .int .u64 1051372203] 25)
  have hg5 := Tryz.GR_kept hsg hg4 (hk5.alloc (.cells #[.int .u64 0, .int .u64 1051372203] 25))
  have hb5 : Below w.heap.size w (w5.alloc (.cells #[.int .u64 0, .int .u64 1051372203] 25)) := hb4.trans ((hk5.alloc _).below (by omega) hb4.size)
  have l5 := Tryz.lt_of hF4.at_
  have l5' := hk5.size
  go_wp2_with (go_at_call 11; refine (hs _ hF5 hg5).mono ?_; rintro e w6 ⟨rfl, hs6, hk6⟩; have hW6 := Tryz.up (Tryz.thru hW hk6 (by omega)) (.cells #[.int .u64 0, .int .u64 1068827891] 25); obtain ⟨ca0, ca1, -, -⟩ := Tryz.cells2 hW6; obtain ⟨cb0, cb1, -, -⟩ := Tryz.cells2 (World.alloc_heap_new w6 (.cells #[.int .u64 0, .int .u64 1068827891] 25)))
  go_ret
  exact ⟨rfl, hb5.trans ((hk6.alloc _).below (by omega) hb5.size)⟩
end Go.Proofs