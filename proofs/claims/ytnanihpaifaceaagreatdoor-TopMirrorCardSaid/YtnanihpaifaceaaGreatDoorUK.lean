import Derived.Test.YtnanihpaifaceaaGreatDoorUJ
import Derived.Test.YtnanihpaifaceaaGreatDoorLeT
import Derived.Deep.RegionHeld3
import Derived.StillTailTactics
import Derived.Deep.QuietTactic
import Derived.Deep.RegionWith
import Derived.BigQuiet
set_option linter.unusedVariables false
set_option linter.unusedSimpArgs false
set_option linter.unusedVariables false
namespace Go.Proofs
open Go.RowKit Go.LE
set_option maxRecDepth 100000
set_option exponentiation.threshold 600
structure Tryz.Good (s : Nat) (W0 W : World) : Prop where
  kept : Kept s W0 W
  set : SetAt s W
theorem Tryz.Good.alloc {s : Nat} {W0 W : World} (h : Tryz.Good s W0 W) (o : Obj) : Tryz.Good s W0 (W.alloc o) := ⟨h.kept.alloc o, h.set.alloc o⟩
theorem Tryz.Good.drew {s : Nat} {W0 W : World} (h : Tryz.Good s W0 W) : Tryz.Good s W0 W.drew := ⟨h.kept.drew, h.set.of_eq rfl⟩
theorem Tryz.Good.below {s : Nat} {W0 W W' : World} (h : Tryz.Good s W0 W) (b : Below W.heap.size W W') : Tryz.Good s W0 W' := ⟨h.kept.trans (Kept.of_below b), h.set.below b⟩
theorem Tryz.Good.next {s : Nat} {W0 W W' : World} (h : Tryz.Good s W0 W) (k : Kept s W W') (hs : SetAt s W') : Tryz.Good s W0 W' := ⟨h.kept.trans k, hs⟩
theorem Tryz.Good.set2 {s : Nat} {W0 W : World} (h : Tryz.Good s W0 W) {b : Nat} (hb : W0.heap.size ≤ b) (hs : b ≠ s) (u0 u1 : Value) : Tryz.Good s W0 ((W.setCell ⟨b, 0, none⟩ u0).setCell ⟨b, 1, none⟩ u1) := ⟨h.kept.set2 hb _ _, h.set.of_eq (Tryz.set2_other _ _ _ (Ne.symm hs) _ _)⟩
theorem Tryz.Good.refl {s : Nat} {W : World} (h : SetAt s W) : Tryz.Good s W W := ⟨Kept.refl _ _, h⟩
structure Tryz.Key (P : Prop) : Prop where out : P
theorem Tryz.cut {P G : Prop} (m : Tryz.Key P → G) (h : P) : G := m ⟨h⟩
set_option maxHeartbeats 16000000 in
theorem Tryz.topMirror (f m : Int) (hf0 : inK .i64 f) (hm0 : inK .i64 m) (a b : BitVec 128) (w : World) (hg : GR globs none' w) :
    Calls Tryz.prog 4 #[.agg #[.int .i64 f, .int .i64 m], .agg #[.int .u64 (hiR a), .int .u64 (loR a)], .agg #[.int .u64 (hiR b), .int .u64 (loR b)]] w fun e w' => e = .returned (.bool true) ∧ Below w.heap.size w w' := by
  have hnot : ∀ (x : Bool) (w : World), (Op.unary .not (.bool x)).run Tryz.prog w = .ok (.bool (!x)) w := fun _ _ => rfl
  have hb0 : Below w.heap.size w (((w.alloc (.cells #[.int .i64 f, .int .i64 m] 22)).alloc (.cells #[.int .u64 (hiR (a)), .int .u64 (loR (a))] 25)).alloc (.cells #[.int .u64 (hiR (b)), .int .u64 (loR (b))] 25)) := (((Below.refl _ w).alloc (Nat.le_refl _) _).alloc (by simp) _).alloc (by simp <;> omega) _
  have hg0 := Tryz.GR_below hg hb0
  have q0 := Tryz.up (Tryz.up (World.alloc_heap_new w (.cells #[.int .i64 f, .int .i64 m] 22)) (.cells #[.int .u64 (hiR (a)), .int .u64 (loR (a))] 25)) (.cells #[.int .u64 (hiR (b)), .int .u64 (loR (b))] 25)
  have a0 := Tryz.up (Tryz.new2 w (.cells #[.int .i64 f, .int .i64 m] 22) (.cells #[.int .u64 (hiR (a)), .int .u64 (loR (a))] 25)) (.cells #[.int .u64 (hiR (b)), .int .u64 (loR (b))] 25)
  have b0 : (((w.alloc (.cells #[.int .i64 f, .int .i64 m] 22)).alloc (.cells #[.int .u64 (hiR (a)), .int .u64 (loR (a))] 25)).alloc (.cells #[.int .u64 (hiR (b)), .int .u64 (loR (b))] 25)).heap[w.heap.size + 1 + 1]? = some (.cells #[.int .u64 (hiR (b)), .int .u64 (loR (b))] 25) := by have := Tryz.new2 (w.alloc (.cells #[.int .i64 f, .int .i64 m] 22)) (.cells #[.int .u64 (hiR (a)), .int .u64 (loR (a))] 25) (.cells #[.int .u64 (hiR (b)), .int .u64 (loR (b))] 25); simpa using this
  obtain ⟨qc0, qc1, -, -⟩ := Tryz.cells2 q0
  obtain ⟨ac0, ac1, -, -⟩ := Tryz.cells2 a0
  obtain ⟨bc0, bc1, -, -⟩ := Tryz.cells2 b0
  have n0 : w.heap.size + 1 + 1 + 1 = (((w.alloc (.cells #[.int .i64 f, .int .i64 m] 22)).alloc (.cells #[.int .u64 (hiR (a)), .int .u64 (loR (a))] 25)).alloc (.cells #[.int .u64 (hiR (b)), .int .u64 (loR (b))] 25)).heap.size := by simp
  have hso := fun w hg => Tryz.c_some f m a b hf0 hm0 w hg
  cases hS : (isM m && (someW f a && someW f b)) with
  | false =>
    rw [hS] at hso
    go_enter Tryz.func4, Tryz.ntmps4
    go_wp2_with (first | (go_at_call 14; refine (hso _ hg0).mono ?_; rintro e w1 ⟨rfl, hb1⟩; have hg1 := Tryz.GR_below hg0 hb1) | (go_at_call 8; refine (Tryz.awake _ hg1).mono ?_; rintro e w2 ⟨rfl, hb2⟩))
    go_ret
    exact ⟨rfl, (hb0.trans (hb1.mono hb0.size)).trans (hb2.mono (by have := hb0.size; have := hb1.size; omega))⟩
  | true =>
    rw [hS] at hso
    obtain ⟨hm, ha, hb⟩ : isM m = true ∧ uOk f a = true ∧ uOk f b = true := by
      simp only [Bool.and_eq_true] at hS
      refine ⟨hS.1, cls_uOk ?_, cls_uOk ?_⟩
      · have := hS.2.1
        unfold someW at this
        exact of_decide_eq_true this
      · have := hS.2.2
        unfold someW at this
        exact of_decide_eq_true this
    clear hS
    obtain ⟨_, hf, _⟩ := uOk_parts ha
    have hA : fFits f a = true := (fin_fits (uOk_parts ha).1).1
    have hB : fFits f b = true := (fin_fits (uOk_parts hb).1).1
    obtain ⟨⟨fa, da1, da2⟩, fb, db1, db2⟩ := mir_div hm ha hb
    have hM := mir_is m hm
    have m15 : 1 ≤ m ∧ m ≤ 5 := by unfold isM at hm; exact of_decide_eq_true hm
    have hMi : inK .i64 (mirM m) := by
      rw [inK_iff]
      unfold isM at hM
      have := of_decide_eq_true hM
      exact ⟨by have : IntKind.i64.min = -9223372036854775808 := rfl; omega, by have : IntKind.i64.max = 9223372036854775807 := rfl; omega⟩
    have hd0 := fun U s (hsg : Go.LE.look globs s = none) W (hF0 : FpuAt U s W) (hG : GR globs none' W) => Tryz.fpu_Div U s hF0.ne hsg f m hf0 hm0 a b hA hB hm W hF0.at_ hG hF0.set
    have hdA := fun U s (hsg : Go.LE.look globs s = none) W (hF0 : FpuAt U s W) (hG : GR globs none' W) => Tryz.fpu_Div U s hF0.ne hsg f (mirM m) hf0 hMi (sgn f a (!wNeg f a)) b fa hB hM W hF0.at_ hG hF0.set
    have hdB := fun U s (hsg : Go.LE.look globs s = none) W (hF0 : FpuAt U s W) (hG : GR globs none' W) => Tryz.fpu_Div U s hF0.ne hsg f (mirM m) hf0 hMi a (sgn f b (!wNeg f b)) hA fb hM W hF0.at_ hG hF0.set
    rw [da1, da2] at hdA
    rw [db1, db2] at hdB
    clear da1 da2 db1 db2 fa fb
    generalize hX : dvW f m a b = X at hd0 hdA hdB
    generalize hx : dvX f m a b = x at hd0 hdA hdB
    clear hX hx
    have hna := fun w hg => Tryz.c_neg f a hf0 w hg
    have hnb := fun w hg => Tryz.c_neg f b hf0 w hg
    have hnx := fun w hg => Tryz.c_neg f X hf0 w hg
    have hsa := fun w hg => Tryz.c_signed f hf a (!wNeg f a) hf0 w hg
    have hsb := fun w hg => Tryz.c_signed f hf b (!wNeg f b) hf0 w hg
    have hsx := fun w hg => Tryz.c_signed f hf X (!wNeg f X) hf0 w hg
    generalize hA' : sgn f a (!wNeg f a) = A' at hdA hsa
    generalize hB' : sgn f b (!wNeg f b) = B' at hdB hsb
    generalize hX' : sgn f X (!wNeg f X) = X' at hdA hdB hsx
    generalize hMM : mirM m = M at hdA hdB
    have hMM2 : M = if 4 ≤ m then 9 - m else m := by rw [← hMM]; rfl
    clear hA' hB' hX' hM hMi hMM
    have e9 := Tryz.eq25 X' X'
    simp only [decide_true] at e9
    have wr : IntKind.i64.wrap (9 - m) = 9 - m := wrap_i64_of (by omega) (by omega)
    by_cases h4 : 4 ≤ m
    all_goals (simp only [h4, if_true, if_false] at hMM2; clear m15; subst hMM2)
    all_goals
      go_enter Tryz.func4, Tryz.ntmps4
      go_wp2_with (first | (go_at_call 14; refine (hso _ hg0).mono ?_; rintro e w1 ⟨rfl, hb1⟩; have hB1 := hb0.trans (hb1.mono hb0.size); have hg1 := Tryz.GR_below hg hB1; have n1 := hB1.size; have n1' := hb1.size; have q1 := Tryz.thruB q0 hb1; have a1 := Tryz.thruB a0 hb1; have b1 := Tryz.thruB b0 hb1; have l1 := Tryz.lt_of b1; have hsg := Tryz.GR_off hg1 (s := w1.heap.size + 1) (by omega); obtain ⟨qd0, qd1, -, -⟩ := Tryz.cells2 q1; obtain ⟨ad0, ad1, -, -⟩ := Tryz.cells2 a1; obtain ⟨bd0, bd1, -, -⟩ := Tryz.cells2 b1) | (go_at_call 9; refine (Tryz.fpu_new _).mono ?_; rintro e w2 ⟨rfl, hF2, hb2⟩; have hB2 := hB1.trans (hb2.mono n1); have hg2 := Tryz.GR_below hg hB2; have l2 := Tryz.lt_of hF2.at_; have n2 := hB2.size; have q2 := Tryz.thruB q1 hb2; have a2 := Tryz.thruB a1 hb2; have b2 := Tryz.thruB b1 hb2; obtain ⟨qe0, qe1, -, -⟩ := Tryz.cells2 q2; obtain ⟨ae0, ae1, -, -⟩ := Tryz.cells2 a2; obtain ⟨be0, be1, -, -⟩ := Tryz.cells2 b2) | (go_at_call 10; refine (hd0 _ _ hsg _ hF2 hg2).mono ?_; rintro e w3 ⟨rfl, hs3, hk3⟩))
      have q3 := Tryz.up (Tryz.thru q2 hk3 (by omega)) (.cells #[.int .u64 (hiR X), .int .u64 (loR X)] 25)
      have a3 := Tryz.up (Tryz.thru a2 hk3 (by omega)) (.cells #[.int .u64 (hiR X), .int .u64 (loR X)] 25)
      have b3 := Tryz.up (Tryz.thru b2 hk3 (by omega)) (.cells #[.int .u64 (hiR X), .int .u64 (loR X)] 25)
      have u3 := World.alloc_heap_new w3 (.cells #[.int .u64 (hiR X), .int .u64 (loR X)] 25)
      have hF3 := (hF2.kept hk3 hs3).alloc (.cells #[.int .u64 (hiR X), .int .u64 (loR X)] 25)
      have hB3 : Below w.heap.size w (w3.alloc (.cells #[.int .u64 (hiR X), .int .u64 (loR X)] 25)) := hB2.trans ((hk3.alloc _).below (by omega) n2)
      have n3 : w2.heap.size < (w3.alloc (.cells #[.int .u64 (hiR X), .int .u64 (loR X)] 25)).heap.size := by have := hk3.size; simp; omega
      have n3' := hk3.size
      have hg3 := Tryz.GR_below hg hB3
      generalize w3.alloc (.cells #[.int .u64 (hiR X), .int .u64 (loR X)] 25) = W3 at q3 a3 b3 u3 hF3 hB3 n3 hg3 ⊢
      generalize w3.heap.size = tu at u3 n3' ⊢
      generalize hs : w1.heap.size + 1 = s at hsg hF3
      have sl : s < W3.heap.size := by omega
      have m3 := Nat.le_refl W3.heap.size
      clear q0 a0 b0 q1 a1 b1 q2 a2 b2 qc0 qc1 ac0 ac1 bc0 bc1 qd0 qd1 ad0 ad1 bd0 bd1 qe0 qe1 ae0 ae1 be0 be1 q3
      have La0 : ∀ W, Tryz.Good s W3 W → W.cell? ⟨w.heap.size + 1, 0, none⟩ = some (.int .u64 (hiR a)) := fun W h => (Tryz.cells2 (Tryz.thru a3 h.kept (by omega))).1
      have La1 : ∀ W, Tryz.Good s W3 W → W.cell? ⟨w.heap.size + 1, 1, none⟩ = some (.int .u64 (loR a)) := fun W h => (Tryz.cells2 (Tryz.thru a3 h.kept (by omega))).2.1
      have Lb0 : ∀ W, Tryz.Good s W3 W → W.cell? ⟨w.heap.size + 1 + 1, 0, none⟩ = some (.int .u64 (hiR b)) := fun W h => (Tryz.cells2 (Tryz.thru b3 h.kept (by omega))).1
      have Lb1 : ∀ W, Tryz.Good s W3 W → W.cell? ⟨w.heap.size + 1 + 1, 1, none⟩ = some (.int .u64 (loR b)) := fun W h => (Tryz.cells2 (Tryz.thru b3 h.kept (by omega))).2.1
      have dz : W3.drew.heap.size = W3.heap.size := rfl
      have gD : Tryz.Good s W3 (W3.alloc (.cells #[.int .u64 0, .int .u64 0] 25)).drew := Tryz.Good.drew (Tryz.Good.alloc (Tryz.Good.refl hF3.set) _)
      have g0 : Tryz.Good s W3 W3.drew := Tryz.Good.drew (Tryz.Good.refl hF3.set)
      refine' Tryz.cut ?_ ?_
      rotate_left
      · intro key
        go_region_held3 (fun W' : World => Tryz.Good s W3 W') (first | with_reducible exact g0 | with_reducible exact gD | with_reducible exact gK | (with_reducible exact Tryz.Good.alloc gK _) | exact Tryz.Good.set2 gK (by omega) (by omega) _ _ | with_reducible exact Tryz.Good.alloc (by assumption) _ | with_reducible exact Tryz.Good.below (by assumption) (by assumption)) (first | (go_at_call 16; refine (hna _ (Tryz.GR_kept hsg hg3 (Tryz.Good.kept (by assumption)))).mono ?_; rintro e v1 ⟨rfl, hv1⟩; have y1 : W3.heap.size ≤ v1.heap.size := Nat.le_trans (Tryz.Good.kept (s := s) (by assumption)).size hv1.size; (first | (have tz1 := Tryz.thruB (Tryz.in_drew (World.alloc_heap_new _ (.cells #[.int .u64 0, .int .u64 0] 25))) hv1) | (have tz1 := Tryz.thruB (World.alloc_heap_new _ (.cells #[.int .u64 0, .int .u64 0] 25)) hv1) | skip)) | (go_at_call 15; refine (hsa _ (Tryz.GR_kept hsg hg3 (Tryz.Good.kept (by assumption)))).mono ?_; rintro e v2 ⟨rfl, hv2⟩; have y2 : W3.heap.size ≤ v2.heap.size := Nat.le_trans (Tryz.Good.kept (s := s) (by assumption)).size hv2.size; (first | (have tz2 := Tryz.thruB tz1 hv2) | (have tz2 := Tryz.thruB (World.alloc_heap_new _ (.cells #[.int .u64 0, .int .u64 0] 25)) hv2) | skip)) | (go_at_call 10; refine (hdA _ _ hsg _ (hF3.kept (Tryz.Good.kept (by assumption)) (Tryz.Good.set (W0 := W3) (by assumption))) (Tryz.GR_kept hsg hg3 (Tryz.Good.kept (by assumption)))).mono ?_; rintro e v3 ⟨rfl, hs4, hk4⟩; have gK : Tryz.Good s W3 v3 := Tryz.Good.next (by assumption) hk4 hs4; have y3 := gK.kept.size; (first | (have tz3 := Tryz.thru tz2 hk4 (by omega)) | (have tz3 := Tryz.thru (World.alloc_heap_new _ (.cells #[.int .u64 0, .int .u64 0] 25)) hk4 (by omega)) | skip); (first | (have tw := Tryz.cells2 tz3; obtain ⟨tc0, tc1, tf0, tf1⟩ := tw) | skip)))
        · have f1 : Tryz.Good s W3 (v3.alloc (.cells #[.int .u64 (hiR X'), .int .u64 (loR X')] 25)) := by assumption
          have f2 := World.alloc_heap_new v3 (.cells #[.int .u64 (hiR X'), .int .u64 (loR X')] 25)
          generalize v3.alloc (.cells #[.int .u64 (hiR X'), .int .u64 (loR X')] 25) = Wn at f1 f2 ⊢
          generalize v3.heap.size = tb at f2 y3 ⊢
          revert f1 f2 y3
          revert Wn tb
          exact key.out
        all_goals
          have f2 := Tryz.set2 tz3 (.int .u64 (hiR X')) (.int .u64 (loR X'))
          exact key.out _ _ (by assumption) f2 (by omega)
      intro W4 tb f1 f2 f3
      have a4 := Tryz.thru a3 f1.kept (by omega)
      have b4 := Tryz.thru b3 f1.kept (by omega)
      have u4 := Tryz.thru u3 f1.kept (by omega)
      have hF4 := hF3.kept f1.kept f1.set
      have hB4 := hB3.trans (f1.kept.below (by omega) hB3.size)
      have hg4 := Tryz.GR_below hg hB4
      have m4 := f1.kept.size
      have t4 := f2
      have o4 := f3
      clear La0 La1 Lb0 Lb1 dz gD g0 f2 f3
      go_wp2
      have La0 : ∀ W, Tryz.Good s W4 W → W.cell? ⟨w.heap.size + 1, 0, none⟩ = some (.int .u64 (hiR a)) := fun W h => (Tryz.cells2 (Tryz.thru a4 h.kept (by omega))).1
      have La1 : ∀ W, Tryz.Good s W4 W → W.cell? ⟨w.heap.size + 1, 1, none⟩ = some (.int .u64 (loR a)) := fun W h => (Tryz.cells2 (Tryz.thru a4 h.kept (by omega))).2.1
      have Lb0 : ∀ W, Tryz.Good s W4 W → W.cell? ⟨w.heap.size + 1 + 1, 0, none⟩ = some (.int .u64 (hiR b)) := fun W h => (Tryz.cells2 (Tryz.thru b4 h.kept (by omega))).1
      have Lb1 : ∀ W, Tryz.Good s W4 W → W.cell? ⟨w.heap.size + 1 + 1, 1, none⟩ = some (.int .u64 (loR b)) := fun W h => (Tryz.cells2 (Tryz.thru b4 h.kept (by omega))).2.1
      have dz : W4.drew.heap.size = W4.heap.size := rfl
      have gD : Tryz.Good s W4 (W4.alloc (.cells #[.int .u64 0, .int .u64 0] 25)).drew := Tryz.Good.drew (Tryz.Good.alloc (Tryz.Good.refl hF4.set) _)
      have g0 : Tryz.Good s W4 W4.drew := Tryz.Good.drew (Tryz.Good.refl hF4.set)
      refine' Tryz.cut ?_ ?_
      rotate_left
      · intro key
        go_region_held3 (fun W' : World => Tryz.Good s W4 W') (first | with_reducible exact g0 | with_reducible exact gD | with_reducible exact gK | (with_reducible exact Tryz.Good.alloc gK _) | exact Tryz.Good.set2 gK (by omega) (by omega) _ _ | with_reducible exact Tryz.Good.alloc (by assumption) _ | with_reducible exact Tryz.Good.below (by assumption) (by assumption)) (first | (go_at_call 16; refine (hnb _ (Tryz.GR_kept hsg hg4 (Tryz.Good.kept (by assumption)))).mono ?_; rintro e v1 ⟨rfl, hv1⟩; have y1 : W4.heap.size ≤ v1.heap.size := Nat.le_trans (Tryz.Good.kept (s := s) (by assumption)).size hv1.size; (first | (have tz1 := Tryz.thruB (Tryz.in_drew (World.alloc_heap_new _ (.cells #[.int .u64 0, .int .u64 0] 25))) hv1) | (have tz1 := Tryz.thruB (World.alloc_heap_new _ (.cells #[.int .u64 0, .int .u64 0] 25)) hv1) | skip)) | (go_at_call 15; refine (hsb _ (Tryz.GR_kept hsg hg4 (Tryz.Good.kept (by assumption)))).mono ?_; rintro e v2 ⟨rfl, hv2⟩; have y2 : W4.heap.size ≤ v2.heap.size := Nat.le_trans (Tryz.Good.kept (s := s) (by assumption)).size hv2.size; (first | (have tz2 := Tryz.thruB tz1 hv2) | (have tz2 := Tryz.thruB (World.alloc_heap_new _ (.cells #[.int .u64 0, .int .u64 0] 25)) hv2) | skip)) | (go_at_call 10; refine (hdB _ _ hsg _ (hF4.kept (Tryz.Good.kept (by assumption)) (Tryz.Good.set (W0 := W4) (by assumption))) (Tryz.GR_kept hsg hg4 (Tryz.Good.kept (by assumption)))).mono ?_; rintro e v3 ⟨rfl, hs4, hk4⟩; have gK : Tryz.Good s W4 v3 := Tryz.Good.next (by assumption) hk4 hs4; have y3 := gK.kept.size; (first | (have tz3 := Tryz.thru tz2 hk4 (by omega)) | (have tz3 := Tryz.thru (World.alloc_heap_new _ (.cells #[.int .u64 0, .int .u64 0] 25)) hk4 (by omega)) | skip); (first | (have tw := Tryz.cells2 tz3; obtain ⟨tc0, tc1, tf0, tf1⟩ := tw) | skip)))
        · have f1 : Tryz.Good s W4 (v3.alloc (.cells #[.int .u64 (hiR X'), .int .u64 (loR X')] 25)) := by assumption
          have f2 := World.alloc_heap_new v3 (.cells #[.int .u64 (hiR X'), .int .u64 (loR X')] 25)
          generalize v3.alloc (.cells #[.int .u64 (hiR X'), .int .u64 (loR X')] 25) = Wn at f1 f2 ⊢
          generalize v3.heap.size = tb at f2 y3 ⊢
          revert f1 f2 y3
          revert Wn tb
          exact key.out
        all_goals
          have f2 := Tryz.set2 tz3 (.int .u64 (hiR X')) (.int .u64 (loR X'))
          exact key.out _ _ (by assumption) f2 (by omega)
      intro W5 tc f1 f2 f3
      have u5 := Tryz.thru u4 f1.kept (by omega)
      have t5 := Tryz.thru t4 f1.kept (by omega)
      have hF5 := hF4.kept f1.kept f1.set
      have hB5 := hB4.trans (f1.kept.below (by omega) hB4.size)
      have hg5 := Tryz.GR_below hg hB5
      have m5 := f1.kept.size
      have v5 := f2
      have o5 := f3
      clear La0 La1 Lb0 Lb1 dz gD g0 f2 f3
      go_wp2
      have Lx0 : ∀ W, Tryz.Good s W5 W → W.cell? ⟨tu, 0, none⟩ = some (.int .u64 (hiR X)) := fun W h => (Tryz.cells2 (Tryz.thru u5 h.kept (by omega))).1
      have Lx1 : ∀ W, Tryz.Good s W5 W → W.cell? ⟨tu, 1, none⟩ = some (.int .u64 (loR X)) := fun W h => (Tryz.cells2 (Tryz.thru u5 h.kept (by omega))).2.1
      have dz : W5.drew.heap.size = W5.heap.size := rfl
      have gD : Tryz.Good s W5 (W5.alloc (.cells #[.int .u64 0, .int .u64 0] 25)).drew := Tryz.Good.drew (Tryz.Good.alloc (Tryz.Good.refl hF5.set) _)
      have g0 : Tryz.Good s W5 W5.drew := Tryz.Good.drew (Tryz.Good.refl hF5.set)
      refine' Tryz.cut ?_ ?_
      rotate_left
      · intro key
        go_region_held3 (fun W' : World => Tryz.Good s W5 W') (first | with_reducible exact g0 | with_reducible exact gD | with_reducible exact gK | (with_reducible exact Tryz.Good.alloc gK _) | exact Tryz.Good.set2 gK (by omega) (by omega) _ _ | with_reducible exact Tryz.Good.alloc (by assumption) _ | with_reducible exact Tryz.Good.below (by assumption) (by assumption)) (first | (go_at_call 16; refine (hnx _ (Tryz.GR_kept hsg hg5 (Tryz.Good.kept (by assumption)))).mono ?_; rintro e v1 ⟨rfl, hv1⟩; have y1 : W5.heap.size ≤ v1.heap.size := Nat.le_trans (Tryz.Good.kept (s := s) (by assumption)).size hv1.size; (first | (have tz1 := Tryz.thruB (Tryz.in_drew (World.alloc_heap_new _ (.cells #[.int .u64 0, .int .u64 0] 25))) hv1) | (have tz1 := Tryz.thruB (World.alloc_heap_new _ (.cells #[.int .u64 0, .int .u64 0] 25)) hv1) | skip)) | (go_at_call 15; refine (hsx _ (Tryz.GR_kept hsg hg5 (Tryz.Good.kept (by assumption)))).mono ?_; rintro e v2 ⟨rfl, hv2⟩; have y2 : W5.heap.size ≤ v2.heap.size := Nat.le_trans (Tryz.Good.kept (s := s) (by assumption)).size hv2.size; (first | (have tz2 := Tryz.thruB tz1 hv2) | (have tz2 := Tryz.thruB (World.alloc_heap_new _ (.cells #[.int .u64 0, .int .u64 0] 25)) hv2) | skip); have gK : Tryz.Good s W5 v2 := Tryz.Good.below (by assumption) hv2; have y3 := y2; (first | (have tz3 := tz2) | skip); (first | (have tw := Tryz.cells2 tz3; obtain ⟨tc0, tc1, tf0, tf1⟩ := tw) | skip)))
        · have f1 : Tryz.Good s W5 (v2.alloc (.cells #[.int .u64 (hiR X'), .int .u64 (loR X')] 25)) := by assumption
          have f2 := World.alloc_heap_new v2 (.cells #[.int .u64 (hiR X'), .int .u64 (loR X')] 25)
          generalize v2.alloc (.cells #[.int .u64 (hiR X'), .int .u64 (loR X')] 25) = Wn at f1 f2 ⊢
          generalize v2.heap.size = tb at f2 y3 ⊢
          revert f1 f2 y3
          revert Wn tb
          exact key.out
        all_goals
          have f2 := Tryz.set2 tz3 (.int .u64 (hiR X')) (.int .u64 (loR X'))
          exact key.out _ _ (by assumption) f2 (by omega)
      intro W6 td f1 f2 f3
      have t6 := Tryz.thru t5 f1.kept (by omega)
      have v6 := Tryz.thru v5 f1.kept (by omega)
      have hF6 := hF5.kept f1.kept f1.set
      have hB6 := hB5.trans (f1.kept.below (by omega) hB5.size)
      have hg6 := Tryz.GR_below hg hB6
      have m6 := f1.kept.size
      have o6 := f2
      clear Lx0 Lx1 dz gD g0 f2 f3
      obtain ⟨tp0, tp1, -, -⟩ := Tryz.cells2 t6
      obtain ⟨vp0, vp1, -, -⟩ := Tryz.cells2 v6
      obtain ⟨op0, op1, -, -⟩ := Tryz.cells2 o6
      go_wp2_with (go_at_call 8; refine (Tryz.awake _ hg6).mono ?_; rintro e w9 ⟨rfl, hb9⟩)
      go_ret
      exact ⟨rfl, hB6.trans (hb9.mono hB6.size)⟩
end Go.Proofs