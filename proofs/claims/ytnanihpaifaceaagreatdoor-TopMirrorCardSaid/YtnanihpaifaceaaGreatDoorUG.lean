import Derived.Test.YtnanihpaifaceaaGreatDoorUF
import Derived.Deep.RegionHeld3
import Derived.MapKept
import Derived.Carry
set_option linter.unusedVariables false
set_option linter.unusedSimpArgs false
set_option linter.unusedVariables false
namespace Go.Proofs
open Go.RowKit Go.LE
set_option maxRecDepth 100000
theorem Tryz.results_ct {P : Program} {fn : Func} {p u : Tmp} {ty : TypeId} (h : fn.results = #[.cell p ty, .tmp u]) (tmps : Array Value) (w : World) (g1 : Nat) (t1 : TypeId) (c1 : Array Value) (f1 : Nat × Nat) (d : TypeDesc)
    (hp : tmps.getD p undef = .pointer (some ⟨g1, 0, none⟩)) (hg1 : w.heap[g1]? = some (.cells c1 t1 f1))
    (hu : P.underlying ty = some d) (hd : (match d with | .struct _ | .array _ _ => true | _ => false) = true) (hi1 : (P.info? ty).map (·.size) = some c1.size) :
    (results fn tmps).run P w = .ok (.tuple #[.agg c1, tmps.getD u undef]) w := by
  have hp' : tmps[p]?.getD undef = .pointer (some ⟨g1, 0, none⟩) := by simpa using hp
  simp [results, h, hp', asAddr, run_loadVar_row w g1 t1 ty c1 f1 d hg1 hu hd hi1]
set_option maxHeartbeats 8000000 in
theorem Tryz.fpu_div (U s : Nat) (hUs : U ≠ s) (hsg : Go.LE.look globs s = none) (f m : Int) (hf0 : inK .i64 f) (hm0 : inK .i64 m) (a b : BitVec 128) (ha : fFits f a = true) (hb : fFits f b = true) (hm : isM m = true) (w : World) (hU : w.heap[U]? = some (.cells #[.pointer (some ⟨s, 0, none⟩)] 50 (0, 0))) (hg : GR globs none' w) (h : SetAt s w) :
    Calls Tryz.prog 39 #[.pointer (some ⟨U, 0, none⟩), .agg #[.int .i64 1, .int .i64 1, .int .i64 f, .int .i64 m, .int .u64 (hiR a), .int .u64 (loR a), .int .u64 (hiR b), .int .u64 (loR b)]] w fun e w' => e = .returned (.tuple #[.agg #[.int .u64 (hiR (dvW f m a b)), .int .u64 (loR (dvW f m a b))], .int .i64 (dvX f m a b)]) ∧ SetAt s w' ∧ Kept s w w' := by
  have hlt := h.lt
  have hsd := fun w hg => Tryz.c_sdiv f a b hf0 w hg
  have hk3 := (((Kept.refl s w).alloc (.cells #[.int .i64 1, .int .i64 1, .int .i64 f, .int .i64 m, .int .u64 (hiR a), .int .u64 (loR a), .int .u64 (hiR b), .int .u64 (loR b)] 55)).alloc (.cells #[.int .u64 0, .int .u64 0] 25))
  have h3 := ((h.alloc (.cells #[.int .i64 1, .int .i64 1, .int .i64 f, .int .i64 m, .int .u64 (hiR a), .int .u64 (loR a), .int .u64 (hiR b), .int .u64 (loR b)] 55)).alloc (.cells #[.int .u64 0, .int .u64 0] 25))
  have e1 : ((w.alloc (.cells #[.int .i64 1, .int .i64 1, .int .i64 f, .int .i64 m, .int .u64 (hiR a), .int .u64 (loR a), .int .u64 (hiR b), .int .u64 (loR b)] 55)).alloc (.cells #[.int .u64 0, .int .u64 0] 25)).heap[w.heap.size]? = some (.cells #[.int .i64 1, .int .i64 1, .int .i64 f, .int .i64 m, .int .u64 (hiR a), .int .u64 (loR a), .int .u64 (hiR b), .int .u64 (loR b)] 55 (0, 0)) := by
    have q0 : (w.alloc (.cells #[.int .i64 1, .int .i64 1, .int .i64 f, .int .i64 m, .int .u64 (hiR a), .int .u64 (loR a), .int .u64 (hiR b), .int .u64 (loR b)] 55)).heap[w.heap.size]? = some (.cells #[.int .i64 1, .int .i64 1, .int .i64 f, .int .i64 m, .int .u64 (hiR a), .int .u64 (loR a), .int .u64 (hiR b), .int .u64 (loR b)] 55) := by have := World.alloc_heap_new w (.cells #[.int .i64 1, .int .i64 1, .int .i64 f, .int .i64 m, .int .u64 (hiR a), .int .u64 (loR a), .int .u64 (hiR b), .int .u64 (loR b)] 55); simpa using this
    have q1 := (Below.heap_alloc (w.alloc (.cells #[.int .i64 1, .int .i64 1, .int .i64 f, .int .i64 m, .int .u64 (hiR a), .int .u64 (loR a), .int .u64 (hiR b), .int .u64 (loR b)] 55)) (.cells #[.int .u64 0, .int .u64 0] 25) (w.heap.size) (by simp <;> omega)).trans q0
    exact q1
  have e2 : ((w.alloc (.cells #[.int .i64 1, .int .i64 1, .int .i64 f, .int .i64 m, .int .u64 (hiR a), .int .u64 (loR a), .int .u64 (hiR b), .int .u64 (loR b)] 55)).alloc (.cells #[.int .u64 0, .int .u64 0] 25)).heap[w.heap.size + 1]? = some (.cells #[.int .u64 0, .int .u64 0] 25 (0, 0)) := by
    have q0 : ((w.alloc (.cells #[.int .i64 1, .int .i64 1, .int .i64 f, .int .i64 m, .int .u64 (hiR a), .int .u64 (loR a), .int .u64 (hiR b), .int .u64 (loR b)] 55)).alloc (.cells #[.int .u64 0, .int .u64 0] 25)).heap[w.heap.size + 1]? = some (.cells #[.int .u64 0, .int .u64 0] 25) := by have := World.alloc_heap_new (w.alloc (.cells #[.int .i64 1, .int .i64 1, .int .i64 f, .int .i64 m, .int .u64 (hiR a), .int .u64 (loR a), .int .u64 (hiR b), .int .u64 (loR b)] 55)) (.cells #[.int .u64 0, .int .u64 0] 25); simpa using this
    exact q0
  have u3 := Tryz.up (Tryz.up hU (.cells #[.int .i64 1, .int .i64 1, .int .i64 f, .int .i64 m, .int .u64 (hiR a), .int .u64 (loR a), .int .u64 (hiR b), .int .u64 (loR b)] 55)) (.cells #[.int .u64 0, .int .u64 0] 25)
  have hg3 := Tryz.GR_kept hsg hg hk3
  obtain ⟨caa0, caa1, caa2, caa3, caa4, caa5, caa6, caa7, caf0, caf1, caf2, caf3, caf4, caf5, caf6, caf7⟩ := Tryz.cells8 e1
  cases hd : divOk f a b with
  | true =>
    have hw : dvW f m a b = divW f a b := by unfold dvW; rw [hd]; rfl
    have hx : dvX f m a b = divX f a b := by unfold dvX; rw [hd]; rfl
    rw [hw, hx]
    rw [hd] at hsd
    go_enter Tryz.func39, Tryz.ntmps39
    go_wp2_with (go_at_call 45; refine (hsd _ hg3).mono ?_; rintro e w4 ⟨rfl, hb4⟩; have z4 := Tryz.up (Tryz.thruB e2 hb4) (.cells #[.int .u64 (hiR (divW f a b)), .int .u64 (loR (divW f a b))] 25); obtain ⟨gz0, gz1, gf0, gf1⟩ := Tryz.cells2 z4)
    have hA := Tryz.set2 z4 (.int .u64 (hiR (divW f a b))) (.int .u64 (loR (divW f a b)))
    have s4 : w.heap.size + 1 + 1 ≤ w4.heap.size := by have := hb4.size; simpa using this
    refine bodyPost_ret (Tryz.results_ct (d := _) rfl _ _ (w.heap.size + 1) 25 _ _ (by rfl) hA Tryz.underlying25 rfl (by kernel_rfl)) rfl ?_
    refine ⟨rfl, ?_, ?_⟩
    · exact ((h3.below hb4).alloc _).of_eq (Tryz.set2_other _ _ _ (by omega) _ _)
    · exact ((hk3.trans (Kept.of_below hb4)).alloc _).set2 (by omega) _ _
  | false =>
    obtain ⟨ua, ub⟩ := div_finite ha hb hd
    have hw : dvW f m a b = rW f m (dvNeg f a b) (qvE f a b) (qvW f a b) (qvM f a b) := by unfold dvW; rw [hd]; rfl
    have hx : dvX f m a b = rX f m (dvNeg f a b) (qvE f a b) (qvW f a b) (qvM f a b) := by unfold dvX; rw [hd]; rfl
    have hfin := fun w hg h => Tryz.quot_finite s hsg f m hf0 hm0 a b ua ub hm w hg h
    rw [← hw, ← hx] at hfin
    rw [hd] at hsd
    clear hw hx
    go_enter Tryz.func39, Tryz.ntmps39
    go_wp2_with (go_at_call 45; refine (hsd _ hg3).mono ?_; rintro e w4 ⟨rfl, hb4⟩; have z4 := Tryz.up (Tryz.thruB e2 hb4) (.cells #[.int .u64 (hiR (divW f a b)), .int .u64 (loR (divW f a b))] 25); have u4 := Tryz.up (Tryz.thruB u3 hb4) (.cells #[.int .u64 (hiR (divW f a b)), .int .u64 (loR (divW f a b))] 25); have r4 := Tryz.up (Tryz.thruB e1 hb4) (.cells #[.int .u64 (hiR (divW f a b)), .int .u64 (loR (divW f a b))] 25))
    have hcu : (w4.alloc (.cells #[.int .u64 (hiR (divW f a b)), .int .u64 (loR (divW f a b))] 25)).cell? ⟨U, 0, none⟩ = some (.pointer (some ⟨s, 0, none⟩)) := by rw [Lib.cell_of_heap u4]; rfl
    obtain ⟨cba0, cba1, cba2, cba3, cba4, cba5, cba6, cba7, cbf0, cbf1, cbf2, cbf3, cbf4, cbf5, cbf6, cbf7⟩ := Tryz.cells8 r4
    have k4 := (hk3.trans (Kept.of_below hb4)).alloc (.cells #[.int .u64 (hiR (divW f a b)), .int .u64 (loR (divW f a b))] 25)
    have h4 := (h3.below hb4).alloc (.cells #[.int .u64 (hiR (divW f a b)), .int .u64 (loR (divW f a b))] 25)
    have s4 : w.heap.size + 1 + 1 ≤ w4.heap.size := by have := hb4.size; simpa using this
    have u5 := Tryz.up u4 (.cells #[.int .u64 0, .int .u64 0] 25)
    have r5 := Tryz.up r4 (.cells #[.int .u64 0, .int .u64 0] 25)
    have z5 := Tryz.up z4 (.cells #[.int .u64 0, .int .u64 0] 25)
    have t5 := Tryz.new2 w4 (.cells #[.int .u64 (hiR (divW f a b)), .int .u64 (loR (divW f a b))] 25) (.cells #[.int .u64 0, .int .u64 0] 25)
    have hcu5 : ((w4.alloc (.cells #[.int .u64 (hiR (divW f a b)), .int .u64 (loR (divW f a b))] 25)).alloc (.cells #[.int .u64 0, .int .u64 0] 25)).cell? ⟨U, 0, none⟩ = some (.pointer (some ⟨s, 0, none⟩)) := by rw [Lib.cell_of_heap u5]; rfl
    obtain ⟨cfa0, cfa1, cfa2, cfa3, cfa4, cfa5, cfa6, cfa7, cff0, cff1, cff2, cff3, cff4, cff5, cff6, cff7⟩ := Tryz.cells8 r5
    have k5 := (k4.alloc (.cells #[.int .u64 0, .int .u64 0] 25)).drew
    have h5 := h4.alloc (.cells #[.int .u64 0, .int .u64 0] 25)
    have l4 : U < w4.heap.size := by have := Tryz.lt_of u3; have := hb4.size; omega
    go_region_held3 (fun w' : World => w'.cell? ⟨U, 0, none⟩ = some (.pointer (some ⟨s, 0, none⟩)) ∧ w'.cell? ⟨w.heap.size, 0, none⟩ = some (.int .i64 1) ∧ w'.cell? ⟨w.heap.size, 1, none⟩ = some (.int .i64 1) ∧ w'.cell? ⟨w.heap.size, 2, none⟩ = some (.int .i64 f) ∧ w'.cell? ⟨w.heap.size, 3, none⟩ = some (.int .i64 m) ∧ w'.cell? ⟨w.heap.size, 4, none⟩ = some (.int .u64 (hiR a)) ∧ w'.cell? ⟨w.heap.size, 5, none⟩ = some (.int .u64 (loR a)) ∧ w'.cell? ⟨w.heap.size, 6, none⟩ = some (.int .u64 (hiR b)) ∧ w'.cell? ⟨w.heap.size, 7, none⟩ = some (.int .u64 (loR b))) (first | with_reducible exact ⟨hcu, cba0, cba1, cba2, cba3, cba4, cba5, cba6, cba7⟩ | exact ⟨hcu, cba0, cba1, cba2, cba3, cba4, cba5, cba6, cba7⟩ | with_reducible exact ⟨hcu10, cca0, cca1, cca2, cca3, cca4, cca5, cca6, cca7⟩ | with_reducible exact ⟨hcu11, cda0, cda1, cda2, cda3, cda4, cda5, cda6, cda7⟩ | with_reducible exact ⟨hcu12, cea0, cea1, cea2, cea3, cea4, cea5, cea6, cea7⟩ | with_reducible exact ⟨hcu5, cfa0, cfa1, cfa2, cfa3, cfa4, cfa5, cfa6, cfa7⟩ | exact ⟨hcu5, cfa0, cfa1, cfa2, cfa3, cfa4, cfa5, cfa6, cfa7⟩)
      (first | (go_at_call 46; refine (hfin (w4.alloc (.cells #[.int .u64 (hiR (divW f a b)), .int .u64 (loR (divW f a b))] 25)).drew (Tryz.GR_kept hsg hg k4.drew) (h4.of_eq rfl)).mono ?_; rintro e w10 ⟨rfl, hr10, hk10⟩; have u10 := Tryz.thru (Tryz.in_drew u4) hk10 hUs; have r10 := Tryz.thru (Tryz.in_drew r4) hk10 (by omega); have z10 := Tryz.thru (Tryz.in_drew z4) hk10 (by omega); have hcu10 : w10.cell? ⟨U, 0, none⟩ = some (.pointer (some ⟨s, 0, none⟩)) := (by rw [Lib.cell_of_heap u10]; rfl); obtain ⟨cca0, cca1, cca2, cca3, cca4, cca5, cca6, cca7, ccf0, ccf1, ccf2, ccf3, ccf4, ccf5, ccf6, ccf7⟩ := Tryz.cells8 r10; have lu := Tryz.lt_of u10; have lr := Tryz.lt_of r10; have lz := Tryz.lt_of z10; have isB : True := trivial; have t10 := World.alloc_heap_new w10 (.cells #[.int .u64 0, .int .u64 0] 25); obtain ⟨tc0, tc1, tf0, tf1⟩ := Tryz.cells2 t10; have hcu11 : (w10.alloc (.cells #[.int .u64 0, .int .u64 0] 25)).cell? ⟨U, 0, none⟩ = some (.pointer (some ⟨s, 0, none⟩)) := (by rw [Lib.cell_of_heap (Tryz.up u10 (.cells #[.int .u64 0, .int .u64 0] 25))]; rfl); obtain ⟨cda0, cda1, cda2, cda3, cda4, cda5, cda6, cda7, cdf0, cdf1, cdf2, cdf3, cdf4, cdf5, cdf6, cdf7⟩ := Tryz.cells8 (Tryz.up r10 (.cells #[.int .u64 0, .int .u64 0] 25)); have hcu12 : (w10.alloc (.cells #[.int .u64 (hiR (dvW f m a b)), .int .u64 (loR (dvW f m a b))] 25)).cell? ⟨U, 0, none⟩ = some (.pointer (some ⟨s, 0, none⟩)) := (by rw [Lib.cell_of_heap (Tryz.up u10 (.cells #[.int .u64 (hiR (dvW f m a b)), .int .u64 (loR (dvW f m a b))] 25))]; rfl); obtain ⟨cea0, cea1, cea2, cea3, cea4, cea5, cea6, cea7, cef0, cef1, cef2, cef3, cef4, cef5, cef6, cef7⟩ := Tryz.cells8 (Tryz.up r10 (.cells #[.int .u64 (hiR (dvW f m a b)), .int .u64 (loR (dvW f m a b))] 25)); have zF := Tryz.up z10 (.cells #[.int .u64 (hiR (dvW f m a b)), .int .u64 (loR (dvW f m a b))] 25); have tF := World.alloc_heap_new w10 (.cells #[.int .u64 (hiR (dvW f m a b)), .int .u64 (loR (dvW f m a b))] 25); obtain ⟨gz0, gz1, gf0, gf1⟩ := Tryz.cells2 zF; obtain ⟨kz0, kz1, kf0, kf1⟩ := Tryz.cells2 z10; obtain ⟨hz0, hz1, -, -⟩ := Tryz.cells2 tF; have rF := hr10.alloc (.cells #[.int .u64 (hiR (dvW f m a b)), .int .u64 (loR (dvW f m a b))] 25); have kF := (k4.drew.trans hk10).alloc (.cells #[.int .u64 (hiR (dvW f m a b)), .int .u64 (loR (dvW f m a b))] 25)) | (go_at_call 46; refine (hfin ((w4.alloc (.cells #[.int .u64 (hiR (divW f a b)), .int .u64 (loR (divW f a b))] 25)).alloc (.cells #[.int .u64 0, .int .u64 0] 25)).drew (Tryz.GR_kept hsg hg k5) (h5.of_eq rfl)).mono ?_; rintro e w10 ⟨rfl, hr10, hk10⟩; have u10 := Tryz.thru (Tryz.in_drew u5) hk10 hUs; have r10 := Tryz.thru (Tryz.in_drew r5) hk10 (by omega); have z10 := Tryz.thru (Tryz.in_drew z5) hk10 (by omega); have isD : True := trivial; have t10 := Tryz.thru (Tryz.in_drew t5) hk10 (by have := h4.lt; simp at this; omega); have hcu10 : w10.cell? ⟨U, 0, none⟩ = some (.pointer (some ⟨s, 0, none⟩)) := (by rw [Lib.cell_of_heap u10]; rfl); obtain ⟨cca0, cca1, cca2, cca3, cca4, cca5, cca6, cca7, ccf0, ccf1, ccf2, ccf3, ccf4, ccf5, ccf6, ccf7⟩ := Tryz.cells8 r10; obtain ⟨tc0, tc1, tf0, tf1⟩ := Tryz.cells2 t10; have hcu12 : ((w10.setCell ⟨w4.heap.size + 1, 0, none⟩ (.int .u64 (hiR (dvW f m a b)))).setCell ⟨w4.heap.size + 1, 1, none⟩ (.int .u64 (loR (dvW f m a b)))).cell? ⟨U, 0, none⟩ = some (.pointer (some ⟨s, 0, none⟩)) := (by rw [Lib.cell_of_heap ((Tryz.set2_other w10 (w4.heap.size + 1) U (by omega) (.int .u64 (hiR (dvW f m a b))) (.int .u64 (loR (dvW f m a b)))).trans u10)]; rfl); obtain ⟨cea0, cea1, cea2, cea3, cea4, cea5, cea6, cea7, cef0, cef1, cef2, cef3, cef4, cef5, cef6, cef7⟩ := Tryz.cells8 ((Tryz.set2_other w10 (w4.heap.size + 1) w.heap.size (by omega) (.int .u64 (hiR (dvW f m a b))) (.int .u64 (loR (dvW f m a b)))).trans r10); have zF := (Tryz.set2_other w10 (w4.heap.size + 1) (w.heap.size + 1) (by omega) (.int .u64 (hiR (dvW f m a b))) (.int .u64 (loR (dvW f m a b)))).trans z10; have tF := Tryz.set2 t10 (.int .u64 (hiR (dvW f m a b))) (.int .u64 (loR (dvW f m a b))); obtain ⟨gz0, gz1, gf0, gf1⟩ := Tryz.cells2 zF; obtain ⟨kz0, kz1, kf0, kf1⟩ := Tryz.cells2 z10; obtain ⟨hz0, hz1, -, -⟩ := Tryz.cells2 tF; have rF := hr10.of_eq (Tryz.set2_other w10 (w4.heap.size + 1) s (by omega) (.int .u64 (hiR (dvW f m a b))) (.int .u64 (loR (dvW f m a b)))); have kF := (k5.trans hk10).set2 (b := w4.heap.size + 1) (by omega) (.int .u64 (hiR (dvW f m a b))) (.int .u64 (loR (dvW f m a b)))))
    all_goals go_wp2
    all_goals first
      | (have _m := isB; have hA := Tryz.up (Tryz.set2 z10 (.int .u64 (hiR (dvW f m a b))) (.int .u64 (loR (dvW f m a b)))) (.cells #[.int .u64 (hiR (dvW f m a b)), .int .u64 (loR (dvW f m a b))] 25); refine bodyPost_ret (Tryz.results_ct (d := _) rfl _ _ (w.heap.size + 1) 25 _ _ (by rfl) hA Tryz.underlying25 rfl (by kernel_rfl)) rfl ?_; refine ⟨rfl, ((hr10.of_eq (Tryz.set2_other _ _ _ (by omega) _ _)).alloc _).at, ((k4.drew.trans hk10).set2 (by omega) _ _).alloc _⟩)
      | (have _m := isD; have hA := Tryz.set2 zF (.int .u64 (hiR (dvW f m a b))) (.int .u64 (loR (dvW f m a b))); refine bodyPost_ret (Tryz.results_ct (d := _) rfl _ _ (w.heap.size + 1) 25 _ _ (by rfl) hA Tryz.underlying25 rfl (by kernel_rfl)) rfl ?_; refine ⟨rfl, (rF.of_eq (Tryz.set2_other _ _ _ (by omega) _ _)).at, kF.set2 (by omega) _ _⟩)
set_option maxHeartbeats 8000000 in
theorem Tryz.fpu_sqrt (U s : Nat) (hUs : U ≠ s) (hsg : Go.LE.look globs s = none) (f m : Int) (hf0 : inK .i64 f) (hm0 : inK .i64 m) (a b : BitVec 128) (ha : fFits f a = true) (hm : isM m = true) (w : World) (hU : w.heap[U]? = some (.cells #[.pointer (some ⟨s, 0, none⟩)] 50 (0, 0))) (hg : GR globs none' w) (h : SetAt s w) :
    Calls Tryz.prog 40 #[.pointer (some ⟨U, 0, none⟩), .agg #[.int .i64 2, .int .i64 1, .int .i64 f, .int .i64 m, .int .u64 (hiR a), .int .u64 (loR a), .int .u64 (hiR b), .int .u64 (loR b)]] w fun e w' => e = .returned (.tuple #[.agg #[.int .u64 (hiR (sqW f m a)), .int .u64 (loR (sqW f m a))], .int .i64 (sqX f m a)]) ∧ SetAt s w' ∧ Kept s w w' := by
  have hlt := h.lt
  have hsd := fun w hg => Tryz.c_ssqrt f a hf0 w hg
  have hk3 := (((Kept.refl s w).alloc (.cells #[.int .i64 2, .int .i64 1, .int .i64 f, .int .i64 m, .int .u64 (hiR a), .int .u64 (loR a), .int .u64 (hiR b), .int .u64 (loR b)] 55)).alloc (.cells #[.int .u64 0, .int .u64 0] 25))
  have h3 := ((h.alloc (.cells #[.int .i64 2, .int .i64 1, .int .i64 f, .int .i64 m, .int .u64 (hiR a), .int .u64 (loR a), .int .u64 (hiR b), .int .u64 (loR b)] 55)).alloc (.cells #[.int .u64 0, .int .u64 0] 25))
  have e1 : ((w.alloc (.cells #[.int .i64 2, .int .i64 1, .int .i64 f, .int .i64 m, .int .u64 (hiR a), .int .u64 (loR a), .int .u64 (hiR b), .int .u64 (loR b)] 55)).alloc (.cells #[.int .u64 0, .int .u64 0] 25)).heap[w.heap.size]? = some (.cells #[.int .i64 2, .int .i64 1, .int .i64 f, .int .i64 m, .int .u64 (hiR a), .int .u64 (loR a), .int .u64 (hiR b), .int .u64 (loR b)] 55 (0, 0)) := by
    have q0 : (w.alloc (.cells #[.int .i64 2, .int .i64 1, .int .i64 f, .int .i64 m, .int .u64 (hiR a), .int .u64 (loR a), .int .u64 (hiR b), .int .u64 (loR b)] 55)).heap[w.heap.size]? = some (.cells #[.int .i64 2, .int .i64 1, .int .i64 f, .int .i64 m, .int .u64 (hiR a), .int .u64 (loR a), .int .u64 (hiR b), .int .u64 (loR b)] 55) := by have := World.alloc_heap_new w (.cells #[.int .i64 2, .int .i64 1, .int .i64 f, .int .i64 m, .int .u64 (hiR a), .int .u64 (loR a), .int .u64 (hiR b), .int .u64 (loR b)] 55); simpa using this
    have q1 := (Below.heap_alloc (w.alloc (.cells #[.int .i64 2, .int .i64 1, .int .i64 f, .int .i64 m, .int .u64 (hiR a), .int .u64 (loR a), .int .u64 (hiR b), .int .u64 (loR b)] 55)) (.cells #[.int .u64 0, .int .u64 0] 25) (w.heap.size) (by simp <;> omega)).trans q0
    exact q1
  have e2 : ((w.alloc (.cells #[.int .i64 2, .int .i64 1, .int .i64 f, .int .i64 m, .int .u64 (hiR a), .int .u64 (loR a), .int .u64 (hiR b), .int .u64 (loR b)] 55)).alloc (.cells #[.int .u64 0, .int .u64 0] 25)).heap[w.heap.size + 1]? = some (.cells #[.int .u64 0, .int .u64 0] 25 (0, 0)) := by
    have q0 : ((w.alloc (.cells #[.int .i64 2, .int .i64 1, .int .i64 f, .int .i64 m, .int .u64 (hiR a), .int .u64 (loR a), .int .u64 (hiR b), .int .u64 (loR b)] 55)).alloc (.cells #[.int .u64 0, .int .u64 0] 25)).heap[w.heap.size + 1]? = some (.cells #[.int .u64 0, .int .u64 0] 25) := by have := World.alloc_heap_new (w.alloc (.cells #[.int .i64 2, .int .i64 1, .int .i64 f, .int .i64 m, .int .u64 (hiR a), .int .u64 (loR a), .int .u64 (hiR b), .int .u64 (loR b)] 55)) (.cells #[.int .u64 0, .int .u64 0] 25); simpa using this
    exact q0
  have u3 := Tryz.up (Tryz.up hU (.cells #[.int .i64 2, .int .i64 1, .int .i64 f, .int .i64 m, .int .u64 (hiR a), .int .u64 (loR a), .int .u64 (hiR b), .int .u64 (loR b)] 55)) (.cells #[.int .u64 0, .int .u64 0] 25)
  have hg3 := Tryz.GR_kept hsg hg hk3
  obtain ⟨caa0, caa1, caa2, caa3, caa4, caa5, caa6, caa7, caf0, caf1, caf2, caf3, caf4, caf5, caf6, caf7⟩ := Tryz.cells8 e1
  cases hd : sqrOk f a with
  | true =>
    have hw : sqW f m a = sqrW f a := by unfold sqW; rw [hd]; rfl
    have hx : sqX f m a = sqrX f a := by unfold sqX; rw [hd]; rfl
    rw [hw, hx]
    rw [hd] at hsd
    go_enter Tryz.func40, Tryz.ntmps40
    go_wp2_with (go_at_call 47; refine (hsd _ hg3).mono ?_; rintro e w4 ⟨rfl, hb4⟩; have z4 := Tryz.up (Tryz.thruB e2 hb4) (.cells #[.int .u64 (hiR (sqrW f a)), .int .u64 (loR (sqrW f a))] 25); obtain ⟨gz0, gz1, gf0, gf1⟩ := Tryz.cells2 z4)
    have hA := Tryz.set2 z4 (.int .u64 (hiR (sqrW f a))) (.int .u64 (loR (sqrW f a)))
    have s4 : w.heap.size + 1 + 1 ≤ w4.heap.size := by have := hb4.size; simpa using this
    refine bodyPost_ret (Tryz.results_ct (d := _) rfl _ _ (w.heap.size + 1) 25 _ _ (by rfl) hA Tryz.underlying25 rfl (by kernel_rfl)) rfl ?_
    refine ⟨rfl, ?_, ?_⟩
    · exact ((h3.below hb4).alloc _).of_eq (Tryz.set2_other _ _ _ (by omega) _ _)
    · exact ((hk3.trans (Kept.of_below hb4)).alloc _).set2 (by omega) _ _
  | false =>
    obtain ⟨ua, un⟩ := sqrt_finite ha hd
    have hw : sqW f m a = rW f m false (rtE f a) (rtS f a) (rtM f a) := by unfold sqW; rw [hd]; rfl
    have hx : sqX f m a = rX f m false (rtE f a) (rtS f a) (rtM f a) := by unfold sqX; rw [hd]; rfl
    have hfin := fun w hg h => Tryz.root_finite s hsg f m hf0 hm0 a ua un hm w hg h
    rw [← hw, ← hx] at hfin
    rw [hd] at hsd
    clear hw hx
    go_enter Tryz.func40, Tryz.ntmps40
    go_wp2_with (go_at_call 47; refine (hsd _ hg3).mono ?_; rintro e w4 ⟨rfl, hb4⟩; have z4 := Tryz.up (Tryz.thruB e2 hb4) (.cells #[.int .u64 (hiR (sqrW f a)), .int .u64 (loR (sqrW f a))] 25); have u4 := Tryz.up (Tryz.thruB u3 hb4) (.cells #[.int .u64 (hiR (sqrW f a)), .int .u64 (loR (sqrW f a))] 25); have r4 := Tryz.up (Tryz.thruB e1 hb4) (.cells #[.int .u64 (hiR (sqrW f a)), .int .u64 (loR (sqrW f a))] 25))
    have hcu : (w4.alloc (.cells #[.int .u64 (hiR (sqrW f a)), .int .u64 (loR (sqrW f a))] 25)).cell? ⟨U, 0, none⟩ = some (.pointer (some ⟨s, 0, none⟩)) := by rw [Lib.cell_of_heap u4]; rfl
    obtain ⟨cba0, cba1, cba2, cba3, cba4, cba5, cba6, cba7, cbf0, cbf1, cbf2, cbf3, cbf4, cbf5, cbf6, cbf7⟩ := Tryz.cells8 r4
    have k4 := (hk3.trans (Kept.of_below hb4)).alloc (.cells #[.int .u64 (hiR (sqrW f a)), .int .u64 (loR (sqrW f a))] 25)
    have h4 := (h3.below hb4).alloc (.cells #[.int .u64 (hiR (sqrW f a)), .int .u64 (loR (sqrW f a))] 25)
    have s4 : w.heap.size + 1 + 1 ≤ w4.heap.size := by have := hb4.size; simpa using this
    have u5 := Tryz.up u4 (.cells #[.int .u64 0, .int .u64 0] 25)
    have r5 := Tryz.up r4 (.cells #[.int .u64 0, .int .u64 0] 25)
    have z5 := Tryz.up z4 (.cells #[.int .u64 0, .int .u64 0] 25)
    have t5 := Tryz.new2 w4 (.cells #[.int .u64 (hiR (sqrW f a)), .int .u64 (loR (sqrW f a))] 25) (.cells #[.int .u64 0, .int .u64 0] 25)
    have hcu5 : ((w4.alloc (.cells #[.int .u64 (hiR (sqrW f a)), .int .u64 (loR (sqrW f a))] 25)).alloc (.cells #[.int .u64 0, .int .u64 0] 25)).cell? ⟨U, 0, none⟩ = some (.pointer (some ⟨s, 0, none⟩)) := by rw [Lib.cell_of_heap u5]; rfl
    obtain ⟨cfa0, cfa1, cfa2, cfa3, cfa4, cfa5, cfa6, cfa7, cff0, cff1, cff2, cff3, cff4, cff5, cff6, cff7⟩ := Tryz.cells8 r5
    have k5 := (k4.alloc (.cells #[.int .u64 0, .int .u64 0] 25)).drew
    have h5 := h4.alloc (.cells #[.int .u64 0, .int .u64 0] 25)
    have l4 : U < w4.heap.size := by have := Tryz.lt_of u3; have := hb4.size; omega
    go_region_held3 (fun w' : World => w'.cell? ⟨U, 0, none⟩ = some (.pointer (some ⟨s, 0, none⟩)) ∧ w'.cell? ⟨w.heap.size, 0, none⟩ = some (.int .i64 2) ∧ w'.cell? ⟨w.heap.size, 1, none⟩ = some (.int .i64 1) ∧ w'.cell? ⟨w.heap.size, 2, none⟩ = some (.int .i64 f) ∧ w'.cell? ⟨w.heap.size, 3, none⟩ = some (.int .i64 m) ∧ w'.cell? ⟨w.heap.size, 4, none⟩ = some (.int .u64 (hiR a)) ∧ w'.cell? ⟨w.heap.size, 5, none⟩ = some (.int .u64 (loR a)) ∧ w'.cell? ⟨w.heap.size, 6, none⟩ = some (.int .u64 (hiR b)) ∧ w'.cell? ⟨w.heap.size, 7, none⟩ = some (.int .u64 (loR b))) (first | with_reducible exact ⟨hcu, cba0, cba1, cba2, cba3, cba4, cba5, cba6, cba7⟩ | exact ⟨hcu, cba0, cba1, cba2, cba3, cba4, cba5, cba6, cba7⟩ | with_reducible exact ⟨hcu10, cca0, cca1, cca2, cca3, cca4, cca5, cca6, cca7⟩ | with_reducible exact ⟨hcu11, cda0, cda1, cda2, cda3, cda4, cda5, cda6, cda7⟩ | with_reducible exact ⟨hcu12, cea0, cea1, cea2, cea3, cea4, cea5, cea6, cea7⟩ | with_reducible exact ⟨hcu5, cfa0, cfa1, cfa2, cfa3, cfa4, cfa5, cfa6, cfa7⟩ | exact ⟨hcu5, cfa0, cfa1, cfa2, cfa3, cfa4, cfa5, cfa6, cfa7⟩)
      (first | (go_at_call 48; refine (hfin (w4.alloc (.cells #[.int .u64 (hiR (sqrW f a)), .int .u64 (loR (sqrW f a))] 25)).drew (Tryz.GR_kept hsg hg k4.drew) (h4.of_eq rfl)).mono ?_; rintro e w10 ⟨rfl, hr10, hk10⟩; have u10 := Tryz.thru (Tryz.in_drew u4) hk10 hUs; have r10 := Tryz.thru (Tryz.in_drew r4) hk10 (by omega); have z10 := Tryz.thru (Tryz.in_drew z4) hk10 (by omega); have hcu10 : w10.cell? ⟨U, 0, none⟩ = some (.pointer (some ⟨s, 0, none⟩)) := (by rw [Lib.cell_of_heap u10]; rfl); obtain ⟨cca0, cca1, cca2, cca3, cca4, cca5, cca6, cca7, ccf0, ccf1, ccf2, ccf3, ccf4, ccf5, ccf6, ccf7⟩ := Tryz.cells8 r10; have lu := Tryz.lt_of u10; have lr := Tryz.lt_of r10; have lz := Tryz.lt_of z10; have isB : True := trivial; have t10 := World.alloc_heap_new w10 (.cells #[.int .u64 0, .int .u64 0] 25); obtain ⟨tc0, tc1, tf0, tf1⟩ := Tryz.cells2 t10; have hcu11 : (w10.alloc (.cells #[.int .u64 0, .int .u64 0] 25)).cell? ⟨U, 0, none⟩ = some (.pointer (some ⟨s, 0, none⟩)) := (by rw [Lib.cell_of_heap (Tryz.up u10 (.cells #[.int .u64 0, .int .u64 0] 25))]; rfl); obtain ⟨cda0, cda1, cda2, cda3, cda4, cda5, cda6, cda7, cdf0, cdf1, cdf2, cdf3, cdf4, cdf5, cdf6, cdf7⟩ := Tryz.cells8 (Tryz.up r10 (.cells #[.int .u64 0, .int .u64 0] 25)); have hcu12 : (w10.alloc (.cells #[.int .u64 (hiR (sqW f m a)), .int .u64 (loR (sqW f m a))] 25)).cell? ⟨U, 0, none⟩ = some (.pointer (some ⟨s, 0, none⟩)) := (by rw [Lib.cell_of_heap (Tryz.up u10 (.cells #[.int .u64 (hiR (sqW f m a)), .int .u64 (loR (sqW f m a))] 25))]; rfl); obtain ⟨cea0, cea1, cea2, cea3, cea4, cea5, cea6, cea7, cef0, cef1, cef2, cef3, cef4, cef5, cef6, cef7⟩ := Tryz.cells8 (Tryz.up r10 (.cells #[.int .u64 (hiR (sqW f m a)), .int .u64 (loR (sqW f m a))] 25)); have zF := Tryz.up z10 (.cells #[.int .u64 (hiR (sqW f m a)), .int .u64 (loR (sqW f m a))] 25); have tF := World.alloc_heap_new w10 (.cells #[.int .u64 (hiR (sqW f m a)), .int .u64 (loR (sqW f m a))] 25); obtain ⟨gz0, gz1, gf0, gf1⟩ := Tryz.cells2 zF; obtain ⟨kz0, kz1, kf0, kf1⟩ := Tryz.cells2 z10; obtain ⟨hz0, hz1, -, -⟩ := Tryz.cells2 tF; have rF := hr10.alloc (.cells #[.int .u64 (hiR (sqW f m a)), .int .u64 (loR (sqW f m a))] 25); have kF := (k4.drew.trans hk10).alloc (.cells #[.int .u64 (hiR (sqW f m a)), .int .u64 (loR (sqW f m a))] 25)) | (go_at_call 48; refine (hfin ((w4.alloc (.cells #[.int .u64 (hiR (sqrW f a)), .int .u64 (loR (sqrW f a))] 25)).alloc (.cells #[.int .u64 0, .int .u64 0] 25)).drew (Tryz.GR_kept hsg hg k5) (h5.of_eq rfl)).mono ?_; rintro e w10 ⟨rfl, hr10, hk10⟩; have u10 := Tryz.thru (Tryz.in_drew u5) hk10 hUs; have r10 := Tryz.thru (Tryz.in_drew r5) hk10 (by omega); have z10 := Tryz.thru (Tryz.in_drew z5) hk10 (by omega); have isD : True := trivial; have t10 := Tryz.thru (Tryz.in_drew t5) hk10 (by have := h4.lt; simp at this; omega); have hcu10 : w10.cell? ⟨U, 0, none⟩ = some (.pointer (some ⟨s, 0, none⟩)) := (by rw [Lib.cell_of_heap u10]; rfl); obtain ⟨cca0, cca1, cca2, cca3, cca4, cca5, cca6, cca7, ccf0, ccf1, ccf2, ccf3, ccf4, ccf5, ccf6, ccf7⟩ := Tryz.cells8 r10; obtain ⟨tc0, tc1, tf0, tf1⟩ := Tryz.cells2 t10; have hcu12 : ((w10.setCell ⟨w4.heap.size + 1, 0, none⟩ (.int .u64 (hiR (sqW f m a)))).setCell ⟨w4.heap.size + 1, 1, none⟩ (.int .u64 (loR (sqW f m a)))).cell? ⟨U, 0, none⟩ = some (.pointer (some ⟨s, 0, none⟩)) := (by rw [Lib.cell_of_heap ((Tryz.set2_other w10 (w4.heap.size + 1) U (by omega) (.int .u64 (hiR (sqW f m a))) (.int .u64 (loR (sqW f m a)))).trans u10)]; rfl); obtain ⟨cea0, cea1, cea2, cea3, cea4, cea5, cea6, cea7, cef0, cef1, cef2, cef3, cef4, cef5, cef6, cef7⟩ := Tryz.cells8 ((Tryz.set2_other w10 (w4.heap.size + 1) w.heap.size (by omega) (.int .u64 (hiR (sqW f m a))) (.int .u64 (loR (sqW f m a)))).trans r10); have zF := (Tryz.set2_other w10 (w4.heap.size + 1) (w.heap.size + 1) (by omega) (.int .u64 (hiR (sqW f m a))) (.int .u64 (loR (sqW f m a)))).trans z10; have tF := Tryz.set2 t10 (.int .u64 (hiR (sqW f m a))) (.int .u64 (loR (sqW f m a))); obtain ⟨gz0, gz1, gf0, gf1⟩ := Tryz.cells2 zF; obtain ⟨kz0, kz1, kf0, kf1⟩ := Tryz.cells2 z10; obtain ⟨hz0, hz1, -, -⟩ := Tryz.cells2 tF; have rF := hr10.of_eq (Tryz.set2_other w10 (w4.heap.size + 1) s (by omega) (.int .u64 (hiR (sqW f m a))) (.int .u64 (loR (sqW f m a)))); have kF := (k5.trans hk10).set2 (b := w4.heap.size + 1) (by omega) (.int .u64 (hiR (sqW f m a))) (.int .u64 (loR (sqW f m a)))))
    all_goals go_wp2
    all_goals first
      | (have _m := isB; have hA := Tryz.up (Tryz.set2 z10 (.int .u64 (hiR (sqW f m a))) (.int .u64 (loR (sqW f m a)))) (.cells #[.int .u64 (hiR (sqW f m a)), .int .u64 (loR (sqW f m a))] 25); refine bodyPost_ret (Tryz.results_ct (d := _) rfl _ _ (w.heap.size + 1) 25 _ _ (by rfl) hA Tryz.underlying25 rfl (by kernel_rfl)) rfl ?_; refine ⟨rfl, ((hr10.of_eq (Tryz.set2_other _ _ _ (by omega) _ _)).alloc _).at, ((k4.drew.trans hk10).set2 (by omega) _ _).alloc _⟩)
      | (have _m := isD; have hA := Tryz.set2 zF (.int .u64 (hiR (sqW f m a))) (.int .u64 (loR (sqW f m a))); refine bodyPost_ret (Tryz.results_ct (d := _) rfl _ _ (w.heap.size + 1) 25 _ _ (by rfl) hA Tryz.underlying25 rfl (by kernel_rfl)) rfl ?_; refine ⟨rfl, (rF.of_eq (Tryz.set2_other _ _ _ (by omega) _ _)).at, kF.set2 (by omega) _ _⟩)
end Go.Proofs
set_option linter.unusedVariables false
namespace Go.Proofs
open Go.RowKit Go.LE
set_option maxRecDepth 100000
theorem Tryz.map_put (w : World) (b : Nat) (es : Array MapEntry) (c : Nat) (k : Int) (v : Value) (hb : w.heap[b]? = some (.map es c)) (hf : Instr.findNow (.int .i64) (.int .i64 k) es.toList 0 = some none) :
    (Instr.mapUpdate 84 (.map (some b)) (.int .i64 k) v).run Tryz.prog w = .ok () { w with heap := w.heap.setIfInBounds b (.map (es.push { key := .int .i64 k, val := v, born := c }) (c + 1)) } := by
  have hu : Tryz.prog.underlying 84 = some (.map 3 83) := by kernel_rfl
  have hu3 : Tryz.prog.underlying 3 = some (.int .i64) := by kernel_rfl
  have hc : (Instr.checkKey false 10000 3 (.int .i64 k)).run Tryz.prog w = .ok () w := MapKept.run_checkKey (k := .int .i64 k) hu3 (by simp [MapKept.IsKey]) false 9999
  simp [Instr.mapUpdate, run_underlying hu, MapKept.run_getObj_map hb, hc, MapKept.run_findKey hu3 hf, MapKept.run_setObj_map _ hb, Result.andThen]
theorem Tryz.map_get (w : World) (b : Nat) (es : Array MapEntry) (c : Nat) (k : Int) (i : Nat) (v : Value) (hb : w.heap[b]? = some (.map es c)) (hf : Instr.findNow (.int .i64) (.int .i64 k) es.toList 0 = some (some (i, v))) :
    (Instr.lookup 84 (.map (some b)) (.int .i64 k) false).run Tryz.prog w = .ok v w := by
  have hu : Tryz.prog.underlying 84 = some (.map 3 83) := by kernel_rfl
  have hu3 : Tryz.prog.underlying 3 = some (.int .i64) := by kernel_rfl
  have hc : (Instr.checkKey es.isEmpty 10000 3 (.int .i64 k)).run Tryz.prog w = .ok () w := MapKept.run_checkKey (k := .int .i64 k) hu3 (by simp [MapKept.IsKey]) _ 9999
  simp [Instr.lookup, run_underlying hu, MapKept.run_getObj_map hb, hc, MapKept.run_findKey hu3 hf, Result.andThen]
theorem Tryz.alloc_set (w : World) (o o2 : Obj) : ({ (w.alloc o) with heap := (w.alloc o).heap.setIfInBounds w.heap.size o2 } : World) = w.alloc o2 := by
  have e : (w.heap.push o).setIfInBounds w.heap.size o2 = w.heap.push o2 := by
    apply Array.ext_getElem?
    intro i
    rw [Array.getElem?_setIfInBounds]
    by_cases h : w.heap.size = i
    · subst h; simp
    · rw [if_neg h, Array.getElem?_push, Array.getElem?_push, if_neg (Ne.symm h), if_neg (Ne.symm h)]
  show ({ heap := (w.heap.push o).setIfInBounds w.heap.size o2, tape := w.tape, drawn := w.drawn, os := w.os, output := w.output } : World) = { heap := w.heap.push o2, tape := w.tape, drawn := w.drawn, os := w.os, output := w.output }
  rw [e]
def Tryz.deedEs : Array MapEntry := #[{ key := .int .i64 1, val := .func (.func 39) #[] #[], born := 0 }, { key := .int .i64 2, val := .func (.func 40) #[] #[], born := 1 }]
set_option maxHeartbeats 1000000 in
theorem Tryz.deeds (w : World) : Calls Tryz.prog 35 #[] w fun e w' => e = .returned (.map (some w.heap.size)) ∧ w' = w.alloc (.map Tryz.deedEs 2) := by
  have h1 := Tryz.map_put (w.alloc (.map #[] 0)) w.heap.size #[] 0 1 (.func (.func 39) #[] #[]) (World.alloc_heap_new w _) rfl
  rw [Tryz.alloc_set] at h1
  replace h1 : (Instr.mapUpdate 84 (.map (some w.heap.size)) (.int .i64 1) (.func (.func 39) #[] #[])).run Tryz.prog (w.alloc (.map #[] 0)) = .ok () (w.alloc (.map #[{ key := .int .i64 1, val := .func (.func 39) #[] #[], born := 0 }] 1)) := h1
  have h2 := Tryz.map_put (w.alloc (.map #[{ key := .int .i64 1, val := .func (.func 39) #[] #[], born := 0 }] 1)) w.heap.size #[{ key := .int .i64 1, val := .func (.func 39) #[] #[], born := 0 }] 1 2 (.func (.func 40) #[] #[]) (World.alloc_heap_new w _) rfl
  rw [Tryz.alloc_set] at h2
  replace h2 : (Instr.mapUpdate 84 (.map (some w.heap.size)) (.int .i64 2) (.func (.func 40) #[] #[])).run Tryz.prog (w.alloc (.map #[{ key := .int .i64 1, val := .func (.func 39) #[] #[], born := 0 }] 1)) = .ok () (w.alloc (.map Tryz.deedEs 2)) := h2
  generalize hE1 : (#[{ key := .int .i64 1, val := .func (.func 39) #[] #[], born := 0 }] : Array MapEntry) = E1 at h1 h2
  generalize hE2 : Tryz.deedEs = E2 at h2 ⊢
  clear hE1 hE2
  have hmk := run_makeMap (P := Tryz.prog) 84 w
  go_enter Tryz.func35, Tryz.ntmps35
  go_wp2
  go_ret
  exact ⟨rfl, rfl⟩
end Go.Proofs