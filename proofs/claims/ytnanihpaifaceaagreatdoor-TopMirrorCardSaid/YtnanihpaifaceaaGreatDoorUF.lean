import Derived.Test.YtnanihpaifaceaaGreatDoorUE
import Derived.Deep.RegionHeld3
import Derived.Test.YtnanihpaifaceaaGreatDoorLeT
set_option linter.unusedVariables false
set_option linter.unusedSimpArgs false
set_option linter.unusedVariables false
namespace Go.Proofs
open Go.RowKit Go.LE
set_option maxRecDepth 100000
set_option maxHeartbeats 4000000 in
theorem Tryz.root_may (s : Nat) (hsg : Go.LE.look globs s = none) (m : Int) (hm0 : inK .i64 m) (hm : isM m = true) (w : World) (hg : GR globs none' w) (h : SetAt s w) :
    Calls Tryz.prog 64 #[.pointer (some ⟨s, 0, none⟩), .int .i64 1, .int .i64 m, .bool true] w fun e w' => e = .returned (.int .i64 0) ∧ SetRdy s w' ∧ Kept s w w' := by
  have hnot : ∀ (x : Bool) (w : World), (Op.unary .not (.bool x)).run Tryz.prog w = .ok (.bool (!x)) w := fun _ _ => rfl
  have his := fun w hg => Tryz.c_isM m hm0 w hg
  rw [hm] at his
  go_enter Tryz.func64, Tryz.ntmps64
  go_wp2_with (first | (go_at_call 58; refine (Tryz.set_of s _ h).mono ?_; rintro e w4 ⟨rfl, hr4, hk4⟩; have hg4 := Tryz.GR_kept hsg hg hk4) | (go_at_call 38; refine (his _ hg4).mono ?_; rintro e w6 ⟨rfl, hb6⟩))
  go_ret
  exact ⟨rfl, hr4.below hb6, hk4.trans (Kept.of_below hb6)⟩
set_option maxHeartbeats 8000000 in
theorem Tryz.root_rounded (s : Nat) (hsg : Go.LE.look globs s = none) (f m : Int) (hf0 : inK .i64 f) (hm0 : inK .i64 m) (n S R : W) (HD : ∀ w, GR globs none' w → Calls Tryz.prog 214 #[.agg #[], .agg #[.int .u64 (limbR (n) 0), .int .u64 (limbR (n) 1), .int .u64 (limbR (n) 2), .int .u64 (limbR (n) 3), .int .u64 (limbR (n) 4), .int .u64 (limbR (n) 5), .int .u64 (limbR (n) 6), .int .u64 (limbR (n) 7)]] w fun e w' => e = .returned (.tuple #[.agg #[.int .u64 (limbR (S) 0), .int .u64 (limbR (S) 1), .int .u64 (limbR (S) 2), .int .u64 (limbR (S) 3), .int .u64 (limbR (S) 4), .int .u64 (limbR (S) 5), .int .u64 (limbR (S) 6), .int .u64 (limbR (S) 7)], .agg #[.int .u64 (limbR (R) 0), .int .u64 (limbR (R) 1), .int .u64 (limbR (R) 2), .int .u64 (limbR (R) 3), .int .u64 (limbR (R) 4), .int .u64 (limbR (R) 5), .int .u64 (limbR (R) 6), .int .u64 (limbR (R) 7)], .int .i64 0]) ∧ Below w.heap.size w w') (ex : Int) (hx0 : inK .i64 ex) (hre : rE f m ex S (!decide (R = 0)) = 0) (w : World) (hg : GR globs none' w) (h : SetAt s w) :
    Calls Tryz.prog 65 #[.pointer (some ⟨s, 0, none⟩), .int .i64 1, .int .i64 f, .int .i64 m, .agg #[.int .u64 (limbR (n) 0), .int .u64 (limbR (n) 1), .int .u64 (limbR (n) 2), .int .u64 (limbR (n) 3), .int .u64 (limbR (n) 4), .int .u64 (limbR (n) 5), .int .u64 (limbR (n) 6), .int .u64 (limbR (n) 7)], .int .i64 ex] w fun e w' => e = .returned (.tuple #[.agg #[.int .u64 (hiR (rW f m false ex S (!decide (R = 0)))), .int .u64 (loR (rW f m false ex S (!decide (R = 0))))], .int .i64 (rX f m false ex S (!decide (R = 0))), .int .i64 0]) ∧ SetRdy s w' ∧ Kept s w w' := by
  have hlt := h.lt
  have hdv := fun w hg h => Tryz.set_root s (GR globs none') (fun _ _ h k => Tryz.GR_kept hsg h k) (limbR (n) 0) (limbR (n) 1) (limbR (n) 2) (limbR (n) 3) (limbR (n) 4) (limbR (n) 5) (limbR (n) 6) (limbR (n) 7) (limbR (S) 0) (limbR (S) 1) (limbR (S) 2) (limbR (S) 3) (limbR (S) 4) (limbR (S) 5) (limbR (S) 6) (limbR (S) 7) (limbR (R) 0) (limbR (R) 1) (limbR (R) 2) (limbR (R) 3) (limbR (R) 4) (limbR (R) 5) (limbR (R) 6) (limbR (R) 7) 0 HD w hg h
  have hcr := fun w hg => Tryz.c_round f m false ex S (!decide (R = 0)) hf0 hm0 hx0 w hg
  rw [hre] at hcr
  have hneq := Tryz.neq41 (limbR (R) 0) (limbR (R) 1) (limbR (R) 2) (limbR (R) 3) (limbR (R) 4) (limbR (R) 5) (limbR (R) 6) (limbR (R) 7) 0 0 0 0 0 0 0 0
  simp only [Tryz.ceq0] at hneq
  have hk3 := (((Kept.refl s w).alloc (.cells #[.int .u64 (limbR (n) 0), .int .u64 (limbR (n) 1), .int .u64 (limbR (n) 2), .int .u64 (limbR (n) 3), .int .u64 (limbR (n) 4), .int .u64 (limbR (n) 5), .int .u64 (limbR (n) 6), .int .u64 (limbR (n) 7)] 41)).alloc (.cells #[.int .u64 0, .int .u64 0] 25))
  have h3 := ((h.alloc (.cells #[.int .u64 (limbR (n) 0), .int .u64 (limbR (n) 1), .int .u64 (limbR (n) 2), .int .u64 (limbR (n) 3), .int .u64 (limbR (n) 4), .int .u64 (limbR (n) 5), .int .u64 (limbR (n) 6), .int .u64 (limbR (n) 7)] 41)).alloc (.cells #[.int .u64 0, .int .u64 0] 25))
  have e2 : ((w.alloc (.cells #[.int .u64 (limbR (n) 0), .int .u64 (limbR (n) 1), .int .u64 (limbR (n) 2), .int .u64 (limbR (n) 3), .int .u64 (limbR (n) 4), .int .u64 (limbR (n) 5), .int .u64 (limbR (n) 6), .int .u64 (limbR (n) 7)] 41)).alloc (.cells #[.int .u64 0, .int .u64 0] 25)).heap[w.heap.size + 1]? = some (.cells #[.int .u64 0, .int .u64 0] 25 (0, 0)) := by
    have q0 : ((w.alloc (.cells #[.int .u64 (limbR (n) 0), .int .u64 (limbR (n) 1), .int .u64 (limbR (n) 2), .int .u64 (limbR (n) 3), .int .u64 (limbR (n) 4), .int .u64 (limbR (n) 5), .int .u64 (limbR (n) 6), .int .u64 (limbR (n) 7)] 41)).alloc (.cells #[.int .u64 0, .int .u64 0] 25)).heap[w.heap.size + 1]? = some (.cells #[.int .u64 0, .int .u64 0] 25) := by have := World.alloc_heap_new (w.alloc (.cells #[.int .u64 (limbR (n) 0), .int .u64 (limbR (n) 1), .int .u64 (limbR (n) 2), .int .u64 (limbR (n) 3), .int .u64 (limbR (n) 4), .int .u64 (limbR (n) 5), .int .u64 (limbR (n) 6), .int .u64 (limbR (n) 7)] 41)) (.cells #[.int .u64 0, .int .u64 0] 25); simpa using this
    exact q0
  go_enter Tryz.func65, Tryz.ntmps65
  go_wp2_with (go_at_call 101; refine (hdv _ (Tryz.GR_kept hsg hg hk3) h3).mono ?_; rintro e w4 ⟨rfl, hr4, hk4⟩; have z4 := Tryz.up (Tryz.up (Tryz.thru e2 hk4 (by omega)) (.cells #[.int .u64 (limbR (S) 0), .int .u64 (limbR (S) 1), .int .u64 (limbR (S) 2), .int .u64 (limbR (S) 3), .int .u64 (limbR (S) 4), .int .u64 (limbR (S) 5), .int .u64 (limbR (S) 6), .int .u64 (limbR (S) 7)] 41)) (.cells #[.int .u64 (limbR (R) 0), .int .u64 (limbR (R) 1), .int .u64 (limbR (R) 2), .int .u64 (limbR (R) 3), .int .u64 (limbR (R) 4), .int .u64 (limbR (R) 5), .int .u64 (limbR (R) 6), .int .u64 (limbR (R) 7)] 41); have q4 := Tryz.up (World.alloc_heap_new w4 (.cells #[.int .u64 (limbR (S) 0), .int .u64 (limbR (S) 1), .int .u64 (limbR (S) 2), .int .u64 (limbR (S) 3), .int .u64 (limbR (S) 4), .int .u64 (limbR (S) 5), .int .u64 (limbR (S) 6), .int .u64 (limbR (S) 7)] 41)) (.cells #[.int .u64 (limbR (R) 0), .int .u64 (limbR (R) 1), .int .u64 (limbR (R) 2), .int .u64 (limbR (R) 3), .int .u64 (limbR (R) 4), .int .u64 (limbR (R) 5), .int .u64 (limbR (R) 6), .int .u64 (limbR (R) 7)] 41); have r4 := Tryz.new2 w4 (.cells #[.int .u64 (limbR (S) 0), .int .u64 (limbR (S) 1), .int .u64 (limbR (S) 2), .int .u64 (limbR (S) 3), .int .u64 (limbR (S) 4), .int .u64 (limbR (S) 5), .int .u64 (limbR (S) 6), .int .u64 (limbR (S) 7)] 41) (.cells #[.int .u64 (limbR (R) 0), .int .u64 (limbR (R) 1), .int .u64 (limbR (R) 2), .int .u64 (limbR (R) 3), .int .u64 (limbR (R) 4), .int .u64 (limbR (R) 5), .int .u64 (limbR (R) 6), .int .u64 (limbR (R) 7)] 41))
  have k4 := ((hk3.trans hk4).alloc (.cells #[.int .u64 (limbR (S) 0), .int .u64 (limbR (S) 1), .int .u64 (limbR (S) 2), .int .u64 (limbR (S) 3), .int .u64 (limbR (S) 4), .int .u64 (limbR (S) 5), .int .u64 (limbR (S) 6), .int .u64 (limbR (S) 7)] 41)).alloc (.cells #[.int .u64 (limbR (R) 0), .int .u64 (limbR (R) 1), .int .u64 (limbR (R) 2), .int .u64 (limbR (R) 3), .int .u64 (limbR (R) 4), .int .u64 (limbR (R) 5), .int .u64 (limbR (R) 6), .int .u64 (limbR (R) 7)] 41)
  obtain ⟨ya0, ya1, ya2, ya3, ya4, ya5, ya6, ya7, yf0, yf1, yf2, yf3, yf4, yf5, yf6, yf7⟩ := Tryz.cells8 q4
  obtain ⟨ua0, ua1, ua2, ua3, ua4, ua5, ua6, ua7, uf0, uf1, uf2, uf3, uf4, uf5, uf6, uf7⟩ := Tryz.cells8 r4
  have s4 : w.heap.size + 1 + 1 ≤ w4.heap.size := by have := hk4.size; simpa using this
  have s3 := hk3.size
  go_region_held3 (fun w' : World => w'.cell? ⟨w4.heap.size, 0, none⟩ = some (.int .u64 (limbR (S) 0)) ∧ w'.cell? ⟨w4.heap.size, 1, none⟩ = some (.int .u64 (limbR (S) 1)) ∧ w'.cell? ⟨w4.heap.size, 2, none⟩ = some (.int .u64 (limbR (S) 2)) ∧ w'.cell? ⟨w4.heap.size, 3, none⟩ = some (.int .u64 (limbR (S) 3)) ∧ w'.cell? ⟨w4.heap.size, 4, none⟩ = some (.int .u64 (limbR (S) 4)) ∧ w'.cell? ⟨w4.heap.size, 5, none⟩ = some (.int .u64 (limbR (S) 5)) ∧ w'.cell? ⟨w4.heap.size, 6, none⟩ = some (.int .u64 (limbR (S) 6)) ∧ w'.cell? ⟨w4.heap.size, 7, none⟩ = some (.int .u64 (limbR (S) 7)) ∧ w'.cell? ⟨w4.heap.size + 1, 0, none⟩ = some (.int .u64 (limbR (R) 0)) ∧ w'.cell? ⟨w4.heap.size + 1, 1, none⟩ = some (.int .u64 (limbR (R) 1)) ∧ w'.cell? ⟨w4.heap.size + 1, 2, none⟩ = some (.int .u64 (limbR (R) 2)) ∧ w'.cell? ⟨w4.heap.size + 1, 3, none⟩ = some (.int .u64 (limbR (R) 3)) ∧ w'.cell? ⟨w4.heap.size + 1, 4, none⟩ = some (.int .u64 (limbR (R) 4)) ∧ w'.cell? ⟨w4.heap.size + 1, 5, none⟩ = some (.int .u64 (limbR (R) 5)) ∧ w'.cell? ⟨w4.heap.size + 1, 6, none⟩ = some (.int .u64 (limbR (R) 6)) ∧ w'.cell? ⟨w4.heap.size + 1, 7, none⟩ = some (.int .u64 (limbR (R) 7))) (first | with_reducible exact ⟨ya0, ya1, ya2, ya3, ya4, ya5, ya6, ya7, ua0, ua1, ua2, ua3, ua4, ua5, ua6, ua7⟩ | exact ⟨ya0, ya1, ya2, ya3, ya4, ya5, ya6, ya7, ua0, ua1, ua2, ua3, ua4, ua5, ua6, ua7⟩ | with_reducible exact ⟨yya0, yya1, yya2, yya3, yya4, yya5, yya6, yya7, uua0, uua1, uua2, uua3, uua4, uua5, uua6, uua7⟩ | exact ⟨yya0, yya1, yya2, yya3, yya4, yya5, yya6, yya7, uua0, uua1, uua2, uua3, uua4, uua5, uua6, uua7⟩ | with_reducible exact ⟨yva0, yva1, yva2, yva3, yva4, yva5, yva6, yva7, uva0, uva1, uva2, uva3, uva4, uva5, uva6, uva7⟩ | exact ⟨yva0, yva1, yva2, yva3, yva4, yva5, yva6, yva7, uva0, uva1, uva2, uva3, uva4, uva5, uva6, uva7⟩) (first | (go_at_call 62; refine (hcr _ (Tryz.GR_kept hsg hg k4.drew)).mono ?_; rintro e w10 ⟨rfl, hb10⟩; obtain ⟨yya0, yya1, yya2, yya3, yya4, yya5, yya6, yya7, yyf0, yyf1, yyf2, yyf3, yyf4, yyf5, yyf6, yyf7⟩ := Tryz.cells8 (Tryz.thruB (Tryz.in_drew q4) hb10); obtain ⟨uua0, uua1, uua2, uua3, uua4, uua5, uua6, uua7, uuf0, uuf1, uuf2, uuf3, uuf4, uuf5, uuf6, uuf7⟩ := Tryz.cells8 (Tryz.thruB (Tryz.in_drew r4) hb10); obtain ⟨yva0, yva1, yva2, yva3, yva4, yva5, yva6, yva7, yvf0, yvf1, yvf2, yvf3, yvf4, yvf5, yvf6, yvf7⟩ := Tryz.cells8 ((Tryz.set2_other w10 (w.heap.size + 1) w4.heap.size (by omega) (.int .u64 (hiR (rW f m false ex S (!decide (R = 0))))) (.int .u64 (loR (rW f m false ex S (!decide (R = 0)))))).trans (Tryz.thruB (Tryz.in_drew q4) hb10)); obtain ⟨uva0, uva1, uva2, uva3, uva4, uva5, uva6, uva7, uvf0, uvf1, uvf2, uvf3, uvf4, uvf5, uvf6, uvf7⟩ := Tryz.cells8 ((Tryz.set2_other w10 (w.heap.size + 1) (w4.heap.size + 1) (by omega) (.int .u64 (hiR (rW f m false ex S (!decide (R = 0))))) (.int .u64 (loR (rW f m false ex S (!decide (R = 0)))))).trans (Tryz.thruB (Tryz.in_drew r4) hb10)); have z10 := Tryz.thruB (Tryz.in_drew z4) hb10; obtain ⟨gz0, gz1, gf0, gf1⟩ := Tryz.cells2 z10))
  go_wp2
  have hA := Tryz.set2 z10 (.int .u64 (hiR (rW f m false ex S (!decide (R = 0))))) (.int .u64 (loR (rW f m false ex S (!decide (R = 0)))))
  refine bodyPost_ret (Tryz.results_ctt (d := _) rfl _ _ (w.heap.size + 1) 25 _ _ (by rfl) hA Tryz.underlying25 rfl (by kernel_rfl)) rfl ?_
  refine ⟨rfl, ?_, ?_⟩
  · exact (((hr4.alloc _).alloc _).of_eq (Tryz.in_drew rfl) |>.below hb10).of_eq (Tryz.set2_other _ _ _ (by omega) _ _)
  · exact (k4.drew.trans (Kept.of_below hb10)).set2 (by omega) _ _
end Go.Proofs
set_option linter.unusedVariables false
namespace Go.Proofs
open Go.RowKit Go.LE
set_option maxRecDepth 100000
set_option exponentiation.threshold 600 in
theorem Tryz.rt_div {f : Int} {a : BitVec 128} (ha : uOk f a = true) (hn : wNeg f a = false) : rootE f a = rtE f a ∧ rtOk f a = true ∧ (rootN f a).toNat < 2 ^ 256 ∧ BitVec.ofNat 512 (rtN (rootN f a).toNat) = rtS f a ∧
    (!decide (BitVec.ofNat 512 ((rootN f a).toNat - rtN (rootN f a).toNat * rtN (rootN f a).toNat) = 0)) = rtM f a := by
  obtain ⟨_, hf, _⟩ := uOk_parts ha
  have hp := p_rng f hf
  obtain ⟨b1, b2, _⟩ := rt_by ha
  have ho : rtOk f a = true := by unfold rtOk; rw [ha, hn]; rfl
  have hN : (rootN f a).toNat = rtn f a := by
    unfold rootN
    rw [ho, cond_true]
    exact shl_exact (k := 256) (by omega) (by omega) (by decide) (rtn_lt ha)
  have hlt := rtn_lt ha
  refine ⟨by unfold rootE; rw [ho]; rfl, ho, by rw [hN]; exact hlt, by rw [hN]; rfl, ?_⟩
  rw [hN]
  unfold rtM
  congr 1
  refine decide_eq_decide.2 ?_
  have h512 : rtn f a - rtN (rtn f a) * rtN (rtn f a) < 2 ^ 512 := Nat.lt_of_le_of_lt (Nat.sub_le _ _) (Nat.lt_of_lt_of_le hlt (Nat.pow_le_pow_right (by decide) (by decide)))
  rw [w_zero, BitVec.toNat_ofNat, Nat.mod_eq_of_lt h512]
set_option maxHeartbeats 8000000 in
theorem Tryz.root_finite (s : Nat) (hsg : Go.LE.look globs s = none) (f m : Int) (hf0 : inK .i64 f) (hm0 : inK .i64 m) (a : BitVec 128) (ha : uOk f a = true) (hn : wNeg f a = false) (hm : isM m = true) (w : World) (hg : GR globs none' w) (h : SetAt s w) :
    Calls Tryz.prog 48 #[.pointer (some ⟨s, 0, none⟩), .int .i64 1, .int .i64 f, .int .i64 m, .agg #[.int .u64 (hiR (a)), .int .u64 (loR (a))]] w fun e w' => e = .returned (.tuple #[.agg #[.int .u64 (hiR (rW f m false (rtE f a) (rtS f a) (rtM f a))), .int .u64 (loR (rW f m false (rtE f a) (rtS f a) (rtM f a)))], .int .i64 (rX f m false (rtE f a) (rtS f a) (rtM f a)), .int .i64 0]) ∧ SetRdy s w' ∧ Kept s w w' := by
  have hlt := h.lt
  obtain ⟨g3, g2, g4, g5, g6⟩ := Tryz.rt_div ha hn
  have xa := uExp_rng ha
  obtain ⟨hfa, hf4, _⟩ := uOk_parts ha
  have hp := p_rng f hf4
  obtain ⟨b1, b2, b3⟩ := rt_by ha
  have hE : inK .i64 (rtE f a) := by rw [inK_iff]; simp only [i64_min, i64_max]; omega
  obtain ⟨ro, _⟩ := rt_ok hm ha (rtM f a)
  have hre : rE f m (rtE f a) (rtS f a) (rtM f a) = 0 := by unfold rE; rw [ro]; rfl
  have hqp := fun w hg => Tryz.c_rparts f a hf0 w hg
  rw [g2, g3] at hqp
  have hrd := fun w hg h => Tryz.root_rounded s hsg f m hf0 hm0 (rootN f a) (BitVec.ofNat 512 (rtN (rootN f a).toNat)) (BitVec.ofNat 512 ((rootN f a).toNat - rtN (rootN f a).toNat * rtN (rootN f a).toNat)) (fun w hg => Tryz.m_root _ g4 w hg) (rtE f a) hE (by rw [g5, g6]; exact hre) w hg h
  rw [g5, g6] at hrd
  clear g2 g3 g4 g5 g6 hre
  have hk3 := (((Kept.refl s w).alloc (.cells #[.int .u64 (hiR a), .int .u64 (loR a)] 25)).alloc (.cells #[.int .u64 0, .int .u64 0] 25))
  have h3 := ((h.alloc (.cells #[.int .u64 (hiR a), .int .u64 (loR a)] 25)).alloc (.cells #[.int .u64 0, .int .u64 0] 25))
  have e1 : ((w.alloc (.cells #[.int .u64 (hiR a), .int .u64 (loR a)] 25)).alloc (.cells #[.int .u64 0, .int .u64 0] 25)).heap[w.heap.size]? = some (.cells #[.int .u64 (hiR a), .int .u64 (loR a)] 25 (0, 0)) := by
    have q0 : (w.alloc (.cells #[.int .u64 (hiR a), .int .u64 (loR a)] 25)).heap[w.heap.size]? = some (.cells #[.int .u64 (hiR a), .int .u64 (loR a)] 25) := by have := World.alloc_heap_new w (.cells #[.int .u64 (hiR a), .int .u64 (loR a)] 25); simpa using this
    have q1 := (Below.heap_alloc (w.alloc (.cells #[.int .u64 (hiR a), .int .u64 (loR a)] 25)) (.cells #[.int .u64 0, .int .u64 0] 25) (w.heap.size) (by simp <;> omega)).trans q0
    exact q1
  have e2 : ((w.alloc (.cells #[.int .u64 (hiR a), .int .u64 (loR a)] 25)).alloc (.cells #[.int .u64 0, .int .u64 0] 25)).heap[w.heap.size + 1]? = some (.cells #[.int .u64 0, .int .u64 0] 25 (0, 0)) := by
    have q0 : ((w.alloc (.cells #[.int .u64 (hiR a), .int .u64 (loR a)] 25)).alloc (.cells #[.int .u64 0, .int .u64 0] 25)).heap[w.heap.size + 1]? = some (.cells #[.int .u64 0, .int .u64 0] 25) := by have := World.alloc_heap_new (w.alloc (.cells #[.int .u64 (hiR a), .int .u64 (loR a)] 25)) (.cells #[.int .u64 0, .int .u64 0] 25); simpa using this
    exact q0
  have hg3 := Tryz.GR_kept hsg hg hk3
  obtain ⟨ca0, ca1, -, -⟩ := Tryz.cells2 e1
  go_enter Tryz.func48, Tryz.ntmps48
  go_wp2_with (go_at_call 63; refine (hqp _ hg3).mono ?_; rintro e w4 ⟨rfl, hb4⟩; have z4 := Tryz.up (Tryz.thruB e2 hb4) (.cells #[.int .u64 (limbR (rootN f a) 0), .int .u64 (limbR (rootN f a) 1), .int .u64 (limbR (rootN f a) 2), .int .u64 (limbR (rootN f a) 3), .int .u64 (limbR (rootN f a) 4), .int .u64 (limbR (rootN f a) 5), .int .u64 (limbR (rootN f a) 6), .int .u64 (limbR (rootN f a) 7)] 41); have n4 := World.alloc_heap_new w4 (.cells #[.int .u64 (limbR (rootN f a) 0), .int .u64 (limbR (rootN f a) 1), .int .u64 (limbR (rootN f a) 2), .int .u64 (limbR (rootN f a) 3), .int .u64 (limbR (rootN f a) 4), .int .u64 (limbR (rootN f a) 5), .int .u64 (limbR (rootN f a) 6), .int .u64 (limbR (rootN f a) 7)] 41))
  have k4 := (hk3.trans (Kept.of_below hb4)).alloc (.cells #[.int .u64 (limbR (rootN f a) 0), .int .u64 (limbR (rootN f a) 1), .int .u64 (limbR (rootN f a) 2), .int .u64 (limbR (rootN f a) 3), .int .u64 (limbR (rootN f a) 4), .int .u64 (limbR (rootN f a) 5), .int .u64 (limbR (rootN f a) 6), .int .u64 (limbR (rootN f a) 7)] 41)
  have h4 := (h3.below hb4).alloc (.cells #[.int .u64 (limbR (rootN f a) 0), .int .u64 (limbR (rootN f a) 1), .int .u64 (limbR (rootN f a) 2), .int .u64 (limbR (rootN f a) 3), .int .u64 (limbR (rootN f a) 4), .int .u64 (limbR (rootN f a) 5), .int .u64 (limbR (rootN f a) 6), .int .u64 (limbR (rootN f a) 7)] 41)
  have s3 := hk3.size
  have s4 : w.heap.size + 1 + 1 ≤ w4.heap.size := by have := hb4.size; simpa using this
  clear ca0 ca1
  go_wp2_with (go_at_call 64; refine (Tryz.root_may s hsg m hm0 hm _ (Tryz.GR_kept hsg hg k4) h4).mono ?_; rintro e w5 ⟨rfl, hr5, hk5⟩; have z5 := Tryz.thru z4 hk5 (by omega); have n5 := Tryz.thru n4 hk5 (by omega); obtain ⟨ya0, ya1, ya2, ya3, ya4, ya5, ya6, ya7, yf0, yf1, yf2, yf3, yf4, yf5, yf6, yf7⟩ := Tryz.cells8 n5)
  have k5 := k4.trans hk5
  go_wp2_with (go_at_call 65; refine (hrd _ (Tryz.GR_kept hsg hg k5) hr5.at).mono ?_; rintro e w6 ⟨rfl, hr6, hk6⟩; have z6 := Tryz.thru z5 hk6 (by omega); obtain ⟨gz0, gz1, gf0, gf1⟩ := Tryz.cells2 z6)
  have hA := Tryz.set2 z6 (.int .u64 (hiR (rW f m false (rtE f a) (rtS f a) (rtM f a)))) (.int .u64 (loR (rW f m false (rtE f a) (rtS f a) (rtM f a))))
  refine bodyPost_ret (Tryz.results_ctt (d := _) rfl _ _ (w.heap.size + 1) 25 _ _ (by rfl) hA Tryz.underlying25 rfl (by kernel_rfl)) rfl ?_
  refine ⟨rfl, ?_, ?_⟩
  · exact hr6.of_eq (Tryz.set2_other _ _ _ (by omega) _ _)
  · exact (k5.trans hk6).set2 (by omega) _ _
end Go.Proofs