import Derived.Test.YtnanihpaifaceaaGreatDoorUD
import Derived.Test.YtnanihpaifaceaaGreatDoorW25
import Derived.Deep.RegionWith
set_option linter.unusedVariables false
set_option linter.unusedSimpArgs false
set_option linter.unusedVariables false
namespace Go.Proofs
open Go.RowKit Go.LE
set_option maxRecDepth 100000
theorem Tryz.c_qparts (f : Int) (a b : BitVec 128) (hk0 : inK .i64 (f)) (w : World) (hg : GR globs none' w) : Calls Tryz.prog 59 #[.int .i64 (f), .agg #[.int .u64 (hiR (a)), .int .u64 (loR (a))], .agg #[.int .u64 (hiR (b)), .int .u64 (loR (b))]] w fun e w' => e = .returned (.tuple #[.agg #[.int .u64 (limbR (qtN f a b) 0), .int .u64 (limbR (qtN f a b) 1), .int .u64 (limbR (qtN f a b) 2), .int .u64 (limbR (qtN f a b) 3), .int .u64 (limbR (qtN f a b) 4), .int .u64 (limbR (qtN f a b) 5), .int .u64 (limbR (qtN f a b) 6), .int .u64 (limbR (qtN f a b) 7)], .agg #[.int .u64 (limbR (qtD f a b) 0), .int .u64 (limbR (qtD f a b) 1), .int .u64 (limbR (qtD f a b) 2), .int .u64 (limbR (qtD f a b) 3), .int .u64 (limbR (qtD f a b) 4), .int .u64 (limbR (qtD f a b) 5), .int .u64 (limbR (qtD f a b) 6), .int .u64 (limbR (qtD f a b) 7)], .int .i64 (qtE f a b), .bool (uOk f a && uOk f b)]) ∧ Below w.heap.size w w' := by
  refine (p_qparts.2 [.int .i64 (f), .word (a), .word (b)] (.tup [.wide (qtN f a b), .wide (qtD f a b), .int .i64 (qtE f a b), .bool (uOk f a && uOk f b)]) rfl w [.int .i64 (f), .agg #[.int .u64 (hiR (a)), .int .u64 (loR (a))], .agg #[.int .u64 (hiR (b)), .int .u64 (loR (b))]] ⟨_, _, rfl, ⟨hk0, rfl⟩, ⟨_, _, rfl, rfl, ⟨_, _, rfl, rfl, rfl⟩⟩⟩ hg).mono ?_
  rintro e w' ⟨v, rfl, hv, hb⟩
  obtain ⟨_, rfl, _, _, rfl, rfl, _, _, rfl, rfl, _, _, rfl, ⟨_, rfl⟩, _, _, rfl, rfl, rfl⟩ := hv
  exact ⟨rfl, hb⟩
theorem Tryz.c_isM (m : Int) (hk0 : inK .i64 (m)) (w : World) (hg : GR globs none' w) : Calls Tryz.prog 38 #[.int .i64 (m)] w fun e w' => e = .returned (.bool (isM m)) ∧ Below w.heap.size w w' := by
  refine (p_mIs.2 [.int .i64 (m)] (.bool (isM m)) rfl w [.int .i64 (m)] ⟨_, _, rfl, ⟨hk0, rfl⟩, rfl⟩ hg).mono ?_
  rintro e w' ⟨v, rfl, hv, hb⟩
  subst hv
  exact ⟨rfl, hb⟩
theorem Tryz.c_value (f : Int) (a : BitVec 128) (hk0 : inK .i64 (f)) (w : World) (hg : GR globs none' w) : Calls Tryz.prog 61 #[.int .i64 (f), .agg #[.int .u64 (hiR (a)), .int .u64 (loR (a))]] w fun e w' => e = .returned (.tuple #[.agg #[.bool (vNeg f a), .int .i64 (vExp f a), .int .u64 (limbR (vSig f a) 0), .int .u64 (limbR (vSig f a) 1), .int .u64 (limbR (vSig f a) 2), .int .u64 (limbR (vSig f a) 3), .int .u64 (limbR (vSig f a) 4), .int .u64 (limbR (vSig f a) 5), .int .u64 (limbR (vSig f a) 6), .int .u64 (limbR (vSig f a) 7)], .bool (wFin f a)]) ∧ Below w.heap.size w w' := by
  refine (p_value.2 [.int .i64 (f), .word (a)] (.tup [.agg [.bool (vNeg f a), .int .i64 (vExp f a), .wide (vSig f a)], .bool (wFin f a)]) rfl w [.int .i64 (f), .agg #[.int .u64 (hiR (a)), .int .u64 (loR (a))]] ⟨_, _, rfl, ⟨hk0, rfl⟩, ⟨_, _, rfl, rfl, rfl⟩⟩ hg).mono ?_
  rintro e w' ⟨v, rfl, hv, hb⟩
  obtain ⟨_, rfl, _, _, rfl, ⟨_, rfl, _, _, rfl, rfl, _, _, rfl, ⟨_, rfl⟩, _, _, rfl, rfl, rfl⟩, _, _, rfl, rfl, rfl⟩ := hv
  exact ⟨rfl, hb⟩
theorem Tryz.c_round (f m : Int) (n : Bool) (ex : Int) (s : W) (more : Bool) (hk0 : inK .i64 (f)) (hk1 : inK .i64 (m)) (hk2 : inK .i64 (ex)) (w : World) (hg : GR globs none' w) : Calls Tryz.prog 62 #[.int .i64 (f), .int .i64 (m), .agg #[.bool (n), .int .i64 (ex), .int .u64 (limbR (s) 0), .int .u64 (limbR (s) 1), .int .u64 (limbR (s) 2), .int .u64 (limbR (s) 3), .int .u64 (limbR (s) 4), .int .u64 (limbR (s) 5), .int .u64 (limbR (s) 6), .int .u64 (limbR (s) 7)], .bool (more)] w fun e w' => e = .returned (.tuple #[.agg #[.int .u64 (hiR (rW f m n ex s more)), .int .u64 (loR (rW f m n ex s more))], .int .i64 (rX f m n ex s more), .int .i64 (rE f m ex s more)]) ∧ Below w.heap.size w w' := by
  refine (p_round.2 [.int .i64 (f), .int .i64 (m), .agg [.bool (n), .int .i64 (ex), .wide (s)], .bool (more)] (.tup [.word (rW f m n ex s more), .int .i64 (rX f m n ex s more), .int .i64 (rE f m ex s more)]) rfl w [.int .i64 (f), .int .i64 (m), .agg #[.bool (n), .int .i64 (ex), .int .u64 (limbR (s) 0), .int .u64 (limbR (s) 1), .int .u64 (limbR (s) 2), .int .u64 (limbR (s) 3), .int .u64 (limbR (s) 4), .int .u64 (limbR (s) 5), .int .u64 (limbR (s) 6), .int .u64 (limbR (s) 7)], .bool (more)] ⟨_, _, rfl, ⟨hk0, rfl⟩, ⟨_, _, rfl, ⟨hk1, rfl⟩, ⟨_, _, rfl, ⟨[.bool (n), .int .i64 (ex), .int .u64 (limbR (s) 0), .int .u64 (limbR (s) 1), .int .u64 (limbR (s) 2), .int .u64 (limbR (s) 3), .int .u64 (limbR (s) 4), .int .u64 (limbR (s) 5), .int .u64 (limbR (s) 6), .int .u64 (limbR (s) 7)], rfl, [_], _, rfl, rfl, [_], _, rfl, ⟨hk2, rfl⟩, wideCells (s), _, rfl, rfl, rfl⟩, ⟨_, _, rfl, rfl, rfl⟩⟩⟩⟩ hg).mono ?_
  rintro e w' ⟨v, rfl, hv, hb⟩
  obtain ⟨_, rfl, _, _, rfl, rfl, _, _, rfl, ⟨_, rfl⟩, _, _, rfl, ⟨_, rfl⟩, rfl⟩ := hv
  exact ⟨rfl, hb⟩
theorem Tryz.c_sdiv (f : Int) (a b : BitVec 128) (hk0 : inK .i64 (f)) (w : World) (hg : GR globs none' w) : Calls Tryz.prog 45 #[.int .i64 (f), .agg #[.int .u64 (hiR (a)), .int .u64 (loR (a))], .agg #[.int .u64 (hiR (b)), .int .u64 (loR (b))]] w fun e w' => e = .returned (.tuple #[.agg #[.int .u64 (hiR (divW f a b)), .int .u64 (loR (divW f a b))], .int .i64 (divX f a b), .bool (divOk f a b)]) ∧ Below w.heap.size w w' := by
  refine (p_sDiv.2 [.int .i64 (f), .word (a), .word (b)] (.tup [.word (divW f a b), .int .i64 (divX f a b), .bool (divOk f a b)]) rfl w [.int .i64 (f), .agg #[.int .u64 (hiR (a)), .int .u64 (loR (a))], .agg #[.int .u64 (hiR (b)), .int .u64 (loR (b))]] ⟨_, _, rfl, ⟨hk0, rfl⟩, ⟨_, _, rfl, rfl, ⟨_, _, rfl, rfl, rfl⟩⟩⟩ hg).mono ?_
  rintro e w' ⟨v, rfl, hv, hb⟩
  obtain ⟨_, rfl, _, _, rfl, rfl, _, _, rfl, ⟨_, rfl⟩, _, _, rfl, rfl, rfl⟩ := hv
  exact ⟨rfl, hb⟩
theorem Tryz.c_ssqrt (f : Int) (a : BitVec 128) (hk0 : inK .i64 (f)) (w : World) (hg : GR globs none' w) : Calls Tryz.prog 47 #[.int .i64 (f), .agg #[.int .u64 (hiR (a)), .int .u64 (loR (a))]] w fun e w' => e = .returned (.tuple #[.agg #[.int .u64 (hiR (sqrW f a)), .int .u64 (loR (sqrW f a))], .int .i64 (sqrX f a), .bool (sqrOk f a)]) ∧ Below w.heap.size w w' := by
  refine (p_sSqrt.2 [.int .i64 (f), .word (a)] (.tup [.word (sqrW f a), .int .i64 (sqrX f a), .bool (sqrOk f a)]) rfl w [.int .i64 (f), .agg #[.int .u64 (hiR (a)), .int .u64 (loR (a))]] ⟨_, _, rfl, ⟨hk0, rfl⟩, ⟨_, _, rfl, rfl, rfl⟩⟩ hg).mono ?_
  rintro e w' ⟨v, rfl, hv, hb⟩
  obtain ⟨_, rfl, _, _, rfl, rfl, _, _, rfl, ⟨_, rfl⟩, _, _, rfl, rfl, rfl⟩ := hv
  exact ⟨rfl, hb⟩
theorem Tryz.c_may (op k f m : Int) (a b : BitVec 128) (hk0 : inK .i64 (op)) (hk1 : inK .i64 (k)) (hk2 : inK .i64 (f)) (hk3 : inK .i64 (m)) (w : World) (hg : GR globs none' w) : Calls Tryz.prog 34 #[.agg #[.int .i64 (op), .int .i64 (k), .int .i64 (f), .int .i64 (m), .int .u64 (hiR (a)), .int .u64 (loR (a)), .int .u64 (hiR (b)), .int .u64 (loR (b))]] w fun e w' => e = .returned (.bool (mayR op k f m a b)) ∧ Below w.heap.size w w' := by
  refine (p_may.2 [.agg [.int .i64 (op), .int .i64 (k), .int .i64 (f), .int .i64 (m), .word (a), .word (b)]] (.bool (mayR op k f m a b)) rfl w [.agg #[.int .i64 (op), .int .i64 (k), .int .i64 (f), .int .i64 (m), .int .u64 (hiR (a)), .int .u64 (loR (a)), .int .u64 (hiR (b)), .int .u64 (loR (b))]] ⟨_, _, rfl, ⟨[.int .i64 (op), .int .i64 (k), .int .i64 (f), .int .i64 (m), .int .u64 (hiR (a)), .int .u64 (loR (a)), .int .u64 (hiR (b)), .int .u64 (loR (b))], rfl, [_], _, rfl, ⟨hk0, rfl⟩, [_], _, rfl, ⟨hk1, rfl⟩, [_], _, rfl, ⟨hk2, rfl⟩, [_], _, rfl, ⟨hk3, rfl⟩, wordCells (a), _, rfl, rfl, wordCells (b), _, rfl, rfl, rfl⟩, rfl⟩ hg).mono ?_
  rintro e w' ⟨v, rfl, hv, hb⟩
  subst hv
  exact ⟨rfl, hb⟩
theorem Tryz.c_rparts (f : Int) (a : BitVec 128) (hk0 : inK .i64 (f)) (w : World) (hg : GR globs none' w) : Calls Tryz.prog 63 #[.int .i64 (f), .agg #[.int .u64 (hiR (a)), .int .u64 (loR (a))]] w fun e w' => e = .returned (.tuple #[.agg #[.int .u64 (limbR (rootN f a) 0), .int .u64 (limbR (rootN f a) 1), .int .u64 (limbR (rootN f a) 2), .int .u64 (limbR (rootN f a) 3), .int .u64 (limbR (rootN f a) 4), .int .u64 (limbR (rootN f a) 5), .int .u64 (limbR (rootN f a) 6), .int .u64 (limbR (rootN f a) 7)], .int .i64 (rootE f a), .bool (rtOk f a)]) ∧ Below w.heap.size w w' := by
  refine (p_rparts.2 [.int .i64 (f), .word (a)] (.tup [.wide (rootN f a), .int .i64 (rootE f a), .bool (rtOk f a)]) rfl w [.int .i64 (f), .agg #[.int .u64 (hiR (a)), .int .u64 (loR (a))]] ⟨_, _, rfl, ⟨hk0, rfl⟩, ⟨_, _, rfl, rfl, rfl⟩⟩ hg).mono ?_
  rintro e w' ⟨v, rfl, hv, hb⟩
  obtain ⟨_, rfl, _, _, rfl, rfl, _, _, rfl, ⟨_, rfl⟩, _, _, rfl, rfl, rfl⟩ := hv
  exact ⟨rfl, hb⟩
end Go.Proofs
set_option linter.unusedVariables false
namespace Go.Proofs
open Go.RowKit Go.LE
set_option maxRecDepth 100000
theorem Tryz.up {w : World} {b : Nat} {o : Obj} (h : w.heap[b]? = some o) (o2 : Obj) : (w.alloc o2).heap[b]? = some o := (Below.heap_alloc _ _ _ (Array.getElem?_eq_some_iff.1 h).1).trans h
theorem Tryz.thru {s : Nat} {w w' : World} {b : Nat} {o : Obj} (h : w.heap[b]? = some o) (k : Kept s w w') (hb : b ≠ s) : w'.heap[b]? = some o := (k.block _ (Array.getElem?_eq_some_iff.1 h).1 hb).trans h
theorem Tryz.thruB {w w' : World} {b : Nat} {o : Obj} (h : w.heap[b]? = some o) (k : Below w.heap.size w w') : w'.heap[b]? = some o := (k.block _ (Array.getElem?_eq_some_iff.1 h).1).trans h
theorem Tryz.lt_of {w : World} {b : Nat} {o : Obj} (h : w.heap[b]? = some o) : b < w.heap.size := (Array.getElem?_eq_some_iff.1 h).1
theorem Tryz.cells2 {w : World} {b : Nat} {v0 v1 : Value} {T : TypeId} (h : w.heap[b]? = some (.cells #[v0, v1] T (0, 0))) : w.cell? ⟨b, 0, none⟩ = some v0 ∧ w.cell? ⟨b, 1, none⟩ = some v1 ∧ w.frozen? ⟨b, 0, none⟩ = false ∧ w.frozen? ⟨b, 1, none⟩ = false :=
  ⟨by rw [Lib.cell_of_heap h]; rfl, by rw [Lib.cell_of_heap h]; rfl, Lib.frozen_of_heap h 0, Lib.frozen_of_heap h 1⟩
theorem Tryz.set2 {w : World} {b : Nat} {v0 v1 : Value} {T : TypeId} (h : w.heap[b]? = some (.cells #[v0, v1] T (0, 0))) (u0 u1 : Value) : ((w.setCell ⟨b, 0, none⟩ u0).setCell ⟨b, 1, none⟩ u1).heap[b]? = some (.cells #[u0, u1] T (0, 0)) := by
  have q0 : (w.setCell ⟨b, 0, none⟩ u0).heap[b]? = some (.cells #[u0, v1] T (0, 0)) := Joins.block_setCell (i := 0) h u0
  exact Joins.block_setCell (i := 1) q0 u1
theorem Tryz.set2_other (w : World) (b k : Nat) (h : k ≠ b) (u0 u1 : Value) : ((w.setCell ⟨b, 0, none⟩ u0).setCell ⟨b, 1, none⟩ u1).heap[k]? = w.heap[k]? :=
  (Below.heap_setCell _ ⟨b, 1, none⟩ _ k h).trans (Below.heap_setCell _ ⟨b, 0, none⟩ _ k h)
theorem Kept.set2 {s : Nat} {a w : World} (h : Kept s a w) {b : Nat} (hb : a.heap.size ≤ b) (u0 u1 : Value) : Kept s a ((w.setCell ⟨b, 0, none⟩ u0).setCell ⟨b, 1, none⟩ u1) := (h.setNew hb 0 u0).setNew hb 1 u1
theorem Tryz.below2 {B b : Nat} (hB : B ≤ b) (u0 u1 : Value) {a w : World} (h : Below B a w) : Below B a ((w.setCell ⟨b, 0, none⟩ u0).setCell ⟨b, 1, none⟩ u1) :=
  Below.setCell (Below.setCell h (p := ⟨b, 0, none⟩) hB u0) (p := ⟨b, 1, none⟩) hB u1
theorem Tryz.cells10 {w : World} {b : Nat} {v0 v1 v2 v3 v4 v5 v6 v7 v8 v9 : Value} {T : TypeId} (h : w.heap[b]? = some (.cells #[v0, v1, v2, v3, v4, v5, v6, v7, v8, v9] T (0, 0))) : w.cell? ⟨b, 0, none⟩ = some v0 := by rw [Lib.cell_of_heap h]; rfl
set_option exponentiation.threshold 600 in
theorem Tryz.ceq0 (r : W) : ceq [.int .u64 (limbR r 0), .int .u64 (limbR r 1), .int .u64 (limbR r 2), .int .u64 (limbR r 3), .int .u64 (limbR r 4), .int .u64 (limbR r 5), .int .u64 (limbR r 6), .int .u64 (limbR r 7)] [.int .u64 0, .int .u64 0, .int .u64 0, .int .u64 0, .int .u64 0, .int .u64 0, .int .u64 0, .int .u64 0] = decide (r = 0) := by
  have h := ceq_wide r 0
  have hz : ∀ i, limbR 0 i = 0 := by intro i; unfold limbR; simp
  simpa only [wideCells, hz] using h
set_option exponentiation.threshold 600 in
theorem Tryz.qv_div {f : Int} {a b : BitVec 128} (ha : uOk f a = true) (hb : uOk f b = true) : qtN f a b = wShl (uSig f a) (fPrec f + 2) ∧ qtD f a b = uSig f b ∧ qtE f a b = qvE f a b ∧ okD (qtN f a b) (qtD f a b) ∧ BitVec.ofNat 512 ((qtN f a b).toNat / (qtD f a b).toNat) = qvW f a b ∧
    (!decide (BitVec.ofNat 512 ((qtN f a b).toNat % (qtD f a b).toNat) = 0)) = qvM f a b := by
  obtain ⟨h1, h2, h3, h4⟩ := qv_rng ha hb
  obtain ⟨_, hf, _⟩ := uOk_parts ha
  have hp := p_rng f hf
  have e1 : qtN f a b = wShl (uSig f a) (fPrec f + 2) := by unfold qtN; rw [ha, hb]; rfl
  have e2 : qtD f a b = uSig f b := by unfold qtD; rw [ha, hb]; rfl
  have e3 : qtE f a b = qvE f a b := by unfold qtE; rw [ha, hb]; rfl
  have hN : (wShl (uSig f a) (fPrec f + 2)).toNat = qvN f a := shl_exact (k := 228) (by omega) (by omega) (by decide) h4
  have hD := (uSig_rng hb).2
  have hD2 : (uSig f b).toNat < 2 ^ 113 := Nat.lt_of_lt_of_le hD (Nat.pow_le_pow_right (by decide) (by omega))
  have h228 : qvN f a < (uSig f b).toNat * 2 ^ 128 := by
    have g := Nat.div_add_mod (qvN f a) (uSig f b).toNat
    have g2 := Nat.mod_lt (qvN f a) (show (uSig f b).toNat > 0 by omega)
    have g3 : qvN f a / (uSig f b).toNat < 2 ^ 116 := Nat.lt_of_lt_of_le h2 (Nat.pow_le_pow_right (by decide) (by omega))
    calc qvN f a = (uSig f b).toNat * (qvN f a / (uSig f b).toNat) + qvN f a % (uSig f b).toNat := g.symm
      _ < (uSig f b).toNat * (qvN f a / (uSig f b).toNat) + (uSig f b).toNat := by omega
      _ = (uSig f b).toNat * (qvN f a / (uSig f b).toNat + 1) := (Nat.mul_succ _ _).symm
      _ ≤ (uSig f b).toNat * 2 ^ 128 := Nat.mul_le_mul_left _ (by omega)
  refine ⟨e1, e2, e3, ⟨?_, ?_, ?_⟩, ?_, ?_⟩
  · rw [e2]; exact h3
  · rw [e2]; omega
  · rw [e1, e2, hN]; exact h228
  · rw [e1, e2, hN]; rfl
  · rw [e1, e2, hN]
    unfold qvM qvR
    congr 1
    refine decide_eq_decide.2 ?_
    have hlt : qvN f a % (uSig f b).toNat < 2 ^ 512 := Nat.lt_of_lt_of_le (Nat.lt_trans (Nat.mod_lt _ (by omega)) hD2) (Nat.pow_le_pow_right (by decide) (by decide))
    rw [w_zero, BitVec.toNat_ofNat, Nat.mod_eq_of_lt hlt]
set_option maxHeartbeats 8000000 in
theorem Tryz.quot_finite (s : Nat) (hsg : Go.LE.look globs s = none) (f m : Int) (hf0 : inK .i64 f) (hm0 : inK .i64 m) (a b : BitVec 128) (ha : uOk f a = true) (hb : uOk f b = true) (hm : isM m = true) (w : World) (hg : GR globs none' w) (h : SetAt s w) :
    Calls Tryz.prog 46 #[.pointer (some ⟨s, 0, none⟩), .int .i64 1, .int .i64 f, .int .i64 m, .agg #[.int .u64 (hiR (a)), .int .u64 (loR (a))], .agg #[.int .u64 (hiR (b)), .int .u64 (loR (b))]] w fun e w' => e = .returned (.tuple #[.agg #[.int .u64 (hiR (rW f m (dvNeg f a b) (qvE f a b) (qvW f a b) (qvM f a b))), .int .u64 (loR (rW f m (dvNeg f a b) (qvE f a b) (qvW f a b) (qvM f a b)))], .int .i64 (rX f m (dvNeg f a b) (qvE f a b) (qvW f a b) (qvM f a b)), .int .i64 0]) ∧ SetRdy s w' ∧ Kept s w w' := by
  have hlt := h.lt
  obtain ⟨g1, g2, g3, g4, g5, g6⟩ := Tryz.qv_div ha hb
  have xa := uExp_rng ha
  have xb := uExp_rng hb
  obtain ⟨hfa, hf4, _⟩ := uOk_parts ha
  obtain ⟨hfb, _, _⟩ := uOk_parts hb
  have hp := p_rng f hf4
  have hE : inK .i64 (qvE f a b) := by rw [inK_iff]; simp only [i64_min, i64_max]; unfold qvE; omega
  have hgE : inK .i64 (qtE f a b) := by rw [g3]; exact hE
  obtain ⟨ro, _⟩ := qv_ok hm ha hb (qvM f a b)
  have hre : rE f m (qvE f a b) (qvW f a b) (qvM f a b) = 0 := by unfold rE; rw [ro]; rfl
  have hnot : ∀ (x : Bool) (w : World), (Op.unary .not (.bool x)).run Tryz.prog w = .ok (.bool (!x)) w := fun _ _ => rfl
  have hdn : (!(vNeg f a == vNeg f b)) = dvNeg f a b := by unfold vNeg dvNeg; rw [hfa, hfb]; rfl
  rw [← hdn]
  have hqp := fun w hg => Tryz.c_qparts f a b hf0 w hg
  rw [ha, hb, g3] at hqp
  have his := fun w hg => Tryz.c_isM m hm0 w hg
  rw [hm] at his
  have hdv := fun w hg h => Tryz.quot_divide s (GR globs none') (fun _ _ h k => Tryz.GR_kept hsg h k) (limbR (qtN f a b) 0) (limbR (qtN f a b) 1) (limbR (qtN f a b) 2) (limbR (qtN f a b) 3) (limbR (qtN f a b) 4) (limbR (qtN f a b) 5) (limbR (qtN f a b) 6) (limbR (qtN f a b) 7) (limbR (qtD f a b) 0) (limbR (qtD f a b) 1) (limbR (qtD f a b) 2) (limbR (qtD f a b) 3) (limbR (qtD f a b) 4) (limbR (qtD f a b) 5) (limbR (qtD f a b) 6) (limbR (qtD f a b) 7) (limbR (BitVec.ofNat 512 ((qtN f a b).toNat / (qtD f a b).toNat)) 0) (limbR (BitVec.ofNat 512 ((qtN f a b).toNat / (qtD f a b).toNat)) 1) (limbR (BitVec.ofNat 512 ((qtN f a b).toNat / (qtD f a b).toNat)) 2) (limbR (BitVec.ofNat 512 ((qtN f a b).toNat / (qtD f a b).toNat)) 3) (limbR (BitVec.ofNat 512 ((qtN f a b).toNat / (qtD f a b).toNat)) 4) (limbR (BitVec.ofNat 512 ((qtN f a b).toNat / (qtD f a b).toNat)) 5) (limbR (BitVec.ofNat 512 ((qtN f a b).toNat / (qtD f a b).toNat)) 6) (limbR (BitVec.ofNat 512 ((qtN f a b).toNat / (qtD f a b).toNat)) 7) (limbR (BitVec.ofNat 512 ((qtN f a b).toNat % (qtD f a b).toNat)) 0) (limbR (BitVec.ofNat 512 ((qtN f a b).toNat % (qtD f a b).toNat)) 1) (limbR (BitVec.ofNat 512 ((qtN f a b).toNat % (qtD f a b).toNat)) 2) (limbR (BitVec.ofNat 512 ((qtN f a b).toNat % (qtD f a b).toNat)) 3) (limbR (BitVec.ofNat 512 ((qtN f a b).toNat % (qtD f a b).toNat)) 4) (limbR (BitVec.ofNat 512 ((qtN f a b).toNat % (qtD f a b).toNat)) 5) (limbR (BitVec.ofNat 512 ((qtN f a b).toNat % (qtD f a b).toNat)) 6) (limbR (BitVec.ofNat 512 ((qtN f a b).toNat % (qtD f a b).toNat)) 7) 0 (fun w hg => Tryz.m_divide _ _ g4 w hg) w hg h
  simp only [Tryz.ceq0, g5, g6] at hdv
  have hcr := fun w hg => Tryz.c_round f m (!(vNeg f a == vNeg f b)) (qvE f a b) (qvW f a b) (qvM f a b) hf0 hm0 hE w hg
  rw [hre] at hcr
  clear g1 g2 g3 g5 g6 hdn hre
  have hk3 := ((((Kept.refl s w).alloc (.cells #[.int .u64 (hiR a), .int .u64 (loR a)] 25)).alloc (.cells #[.int .u64 (hiR b), .int .u64 (loR b)] 25)).alloc (.cells #[.int .u64 0, .int .u64 0] 25))
  have h3 := (((h.alloc (.cells #[.int .u64 (hiR a), .int .u64 (loR a)] 25)).alloc (.cells #[.int .u64 (hiR b), .int .u64 (loR b)] 25)).alloc (.cells #[.int .u64 0, .int .u64 0] 25))
  have e1 : (((w.alloc (.cells #[.int .u64 (hiR a), .int .u64 (loR a)] 25)).alloc (.cells #[.int .u64 (hiR b), .int .u64 (loR b)] 25)).alloc (.cells #[.int .u64 0, .int .u64 0] 25)).heap[w.heap.size]? = some (.cells #[.int .u64 (hiR a), .int .u64 (loR a)] 25 (0, 0)) := by
    have q0 : (w.alloc (.cells #[.int .u64 (hiR a), .int .u64 (loR a)] 25)).heap[w.heap.size]? = some (.cells #[.int .u64 (hiR a), .int .u64 (loR a)] 25) := by have := World.alloc_heap_new w (.cells #[.int .u64 (hiR a), .int .u64 (loR a)] 25); simpa using this
    have q1 := (Below.heap_alloc (w.alloc (.cells #[.int .u64 (hiR a), .int .u64 (loR a)] 25)) (.cells #[.int .u64 (hiR b), .int .u64 (loR b)] 25) (w.heap.size) (by simp <;> omega)).trans q0
    have q2 := (Below.heap_alloc ((w.alloc (.cells #[.int .u64 (hiR a), .int .u64 (loR a)] 25)).alloc (.cells #[.int .u64 (hiR b), .int .u64 (loR b)] 25)) (.cells #[.int .u64 0, .int .u64 0] 25) (w.heap.size) (by simp <;> omega)).trans q1
    exact q2
  have e2 : (((w.alloc (.cells #[.int .u64 (hiR a), .int .u64 (loR a)] 25)).alloc (.cells #[.int .u64 (hiR b), .int .u64 (loR b)] 25)).alloc (.cells #[.int .u64 0, .int .u64 0] 25)).heap[w.heap.size + 1]? = some (.cells #[.int .u64 (hiR b), .int .u64 (loR b)] 25 (0, 0)) := by
    have q0 : ((w.alloc (.cells #[.int .u64 (hiR a), .int .u64 (loR a)] 25)).alloc (.cells #[.int .u64 (hiR b), .int .u64 (loR b)] 25)).heap[w.heap.size + 1]? = some (.cells #[.int .u64 (hiR b), .int .u64 (loR b)] 25) := by have := World.alloc_heap_new (w.alloc (.cells #[.int .u64 (hiR a), .int .u64 (loR a)] 25)) (.cells #[.int .u64 (hiR b), .int .u64 (loR b)] 25); simpa using this
    have q1 := (Below.heap_alloc ((w.alloc (.cells #[.int .u64 (hiR a), .int .u64 (loR a)] 25)).alloc (.cells #[.int .u64 (hiR b), .int .u64 (loR b)] 25)) (.cells #[.int .u64 0, .int .u64 0] 25) (w.heap.size + 1) (by simp <;> omega)).trans q0
    exact q1
  have e3 : (((w.alloc (.cells #[.int .u64 (hiR a), .int .u64 (loR a)] 25)).alloc (.cells #[.int .u64 (hiR b), .int .u64 (loR b)] 25)).alloc (.cells #[.int .u64 0, .int .u64 0] 25)).heap[w.heap.size + 1 + 1]? = some (.cells #[.int .u64 0, .int .u64 0] 25 (0, 0)) := by
    have q0 : (((w.alloc (.cells #[.int .u64 (hiR a), .int .u64 (loR a)] 25)).alloc (.cells #[.int .u64 (hiR b), .int .u64 (loR b)] 25)).alloc (.cells #[.int .u64 0, .int .u64 0] 25)).heap[w.heap.size + 1 + 1]? = some (.cells #[.int .u64 0, .int .u64 0] 25) := by have := World.alloc_heap_new ((w.alloc (.cells #[.int .u64 (hiR a), .int .u64 (loR a)] 25)).alloc (.cells #[.int .u64 (hiR b), .int .u64 (loR b)] 25)) (.cells #[.int .u64 0, .int .u64 0] 25); simpa using this
    exact q0
  go_enter Tryz.func46, Tryz.ntmps46
  go_wp2_with (go_at_call 58; refine (Tryz.set_of s _ h3).mono ?_; rintro e w4 ⟨rfl, hr4, hk4⟩; have a4 := Tryz.thru e1 hk4 (by omega); have b4 := Tryz.thru e2 hk4 (by omega); have z4 := Tryz.thru e3 hk4 (by omega); obtain ⟨ca0, ca1, -, -⟩ := Tryz.cells2 a4; obtain ⟨cb0, cb1, -, -⟩ := Tryz.cells2 b4)
  go_wp2_with (go_at_call 59; refine (hqp w4 (Tryz.GR_kept hsg hg (hk3.trans hk4))).mono ?_; rintro e w5 ⟨rfl, hb5⟩; have a5 := Tryz.up (Tryz.up (Tryz.thruB a4 hb5) (.cells #[.int .u64 (limbR (qtN f a b) 0), .int .u64 (limbR (qtN f a b) 1), .int .u64 (limbR (qtN f a b) 2), .int .u64 (limbR (qtN f a b) 3), .int .u64 (limbR (qtN f a b) 4), .int .u64 (limbR (qtN f a b) 5), .int .u64 (limbR (qtN f a b) 6), .int .u64 (limbR (qtN f a b) 7)] 41)) (.cells #[.int .u64 (limbR (qtD f a b) 0), .int .u64 (limbR (qtD f a b) 1), .int .u64 (limbR (qtD f a b) 2), .int .u64 (limbR (qtD f a b) 3), .int .u64 (limbR (qtD f a b) 4), .int .u64 (limbR (qtD f a b) 5), .int .u64 (limbR (qtD f a b) 6), .int .u64 (limbR (qtD f a b) 7)] 41); have b5 := Tryz.up (Tryz.up (Tryz.thruB b4 hb5) (.cells #[.int .u64 (limbR (qtN f a b) 0), .int .u64 (limbR (qtN f a b) 1), .int .u64 (limbR (qtN f a b) 2), .int .u64 (limbR (qtN f a b) 3), .int .u64 (limbR (qtN f a b) 4), .int .u64 (limbR (qtN f a b) 5), .int .u64 (limbR (qtN f a b) 6), .int .u64 (limbR (qtN f a b) 7)] 41)) (.cells #[.int .u64 (limbR (qtD f a b) 0), .int .u64 (limbR (qtD f a b) 1), .int .u64 (limbR (qtD f a b) 2), .int .u64 (limbR (qtD f a b) 3), .int .u64 (limbR (qtD f a b) 4), .int .u64 (limbR (qtD f a b) 5), .int .u64 (limbR (qtD f a b) 6), .int .u64 (limbR (qtD f a b) 7)] 41); have z5 := Tryz.up (Tryz.up (Tryz.thruB z4 hb5) (.cells #[.int .u64 (limbR (qtN f a b) 0), .int .u64 (limbR (qtN f a b) 1), .int .u64 (limbR (qtN f a b) 2), .int .u64 (limbR (qtN f a b) 3), .int .u64 (limbR (qtN f a b) 4), .int .u64 (limbR (qtN f a b) 5), .int .u64 (limbR (qtN f a b) 6), .int .u64 (limbR (qtN f a b) 7)] 41)) (.cells #[.int .u64 (limbR (qtD f a b) 0), .int .u64 (limbR (qtD f a b) 1), .int .u64 (limbR (qtD f a b) 2), .int .u64 (limbR (qtD f a b) 3), .int .u64 (limbR (qtD f a b) 4), .int .u64 (limbR (qtD f a b) 5), .int .u64 (limbR (qtD f a b) 6), .int .u64 (limbR (qtD f a b) 7)] 41); have n5 := Tryz.up (World.alloc_heap_new w5 (.cells #[.int .u64 (limbR (qtN f a b) 0), .int .u64 (limbR (qtN f a b) 1), .int .u64 (limbR (qtN f a b) 2), .int .u64 (limbR (qtN f a b) 3), .int .u64 (limbR (qtN f a b) 4), .int .u64 (limbR (qtN f a b) 5), .int .u64 (limbR (qtN f a b) 6), .int .u64 (limbR (qtN f a b) 7)] 41)) (.cells #[.int .u64 (limbR (qtD f a b) 0), .int .u64 (limbR (qtD f a b) 1), .int .u64 (limbR (qtD f a b) 2), .int .u64 (limbR (qtD f a b) 3), .int .u64 (limbR (qtD f a b) 4), .int .u64 (limbR (qtD f a b) 5), .int .u64 (limbR (qtD f a b) 6), .int .u64 (limbR (qtD f a b) 7)] 41); have d5 := Tryz.new2 w5 (.cells #[.int .u64 (limbR (qtN f a b) 0), .int .u64 (limbR (qtN f a b) 1), .int .u64 (limbR (qtN f a b) 2), .int .u64 (limbR (qtN f a b) 3), .int .u64 (limbR (qtN f a b) 4), .int .u64 (limbR (qtN f a b) 5), .int .u64 (limbR (qtN f a b) 6), .int .u64 (limbR (qtN f a b) 7)] 41) (.cells #[.int .u64 (limbR (qtD f a b) 0), .int .u64 (limbR (qtD f a b) 1), .int .u64 (limbR (qtD f a b) 2), .int .u64 (limbR (qtD f a b) 3), .int .u64 (limbR (qtD f a b) 4), .int .u64 (limbR (qtD f a b) 5), .int .u64 (limbR (qtD f a b) 6), .int .u64 (limbR (qtD f a b) 7)] 41))
  have k5 := ((hk3.trans hk4).trans (Kept.of_below hb5)).alloc (.cells #[.int .u64 (limbR (qtN f a b) 0), .int .u64 (limbR (qtN f a b) 1), .int .u64 (limbR (qtN f a b) 2), .int .u64 (limbR (qtN f a b) 3), .int .u64 (limbR (qtN f a b) 4), .int .u64 (limbR (qtN f a b) 5), .int .u64 (limbR (qtN f a b) 6), .int .u64 (limbR (qtN f a b) 7)] 41) |>.alloc (.cells #[.int .u64 (limbR (qtD f a b) 0), .int .u64 (limbR (qtD f a b) 1), .int .u64 (limbR (qtD f a b) 2), .int .u64 (limbR (qtD f a b) 3), .int .u64 (limbR (qtD f a b) 4), .int .u64 (limbR (qtD f a b) 5), .int .u64 (limbR (qtD f a b) 6), .int .u64 (limbR (qtD f a b) 7)] 41)
  have r5 := ((hr4.below hb5).alloc (.cells #[.int .u64 (limbR (qtN f a b) 0), .int .u64 (limbR (qtN f a b) 1), .int .u64 (limbR (qtN f a b) 2), .int .u64 (limbR (qtN f a b) 3), .int .u64 (limbR (qtN f a b) 4), .int .u64 (limbR (qtN f a b) 5), .int .u64 (limbR (qtN f a b) 6), .int .u64 (limbR (qtN f a b) 7)] 41)).alloc (.cells #[.int .u64 (limbR (qtD f a b) 0), .int .u64 (limbR (qtD f a b) 1), .int .u64 (limbR (qtD f a b) 2), .int .u64 (limbR (qtD f a b) 3), .int .u64 (limbR (qtD f a b) 4), .int .u64 (limbR (qtD f a b) 5), .int .u64 (limbR (qtD f a b) 6), .int .u64 (limbR (qtD f a b) 7)] 41)
  go_wp2_with (go_at_call 38; refine (his _ (Tryz.GR_kept hsg hg k5)).mono ?_; rintro e w6 ⟨rfl, hb6⟩; have n6 := Tryz.thruB n5 hb6; have d6 := Tryz.thruB d5 hb6; obtain ⟨ua0, ua1, ua2, ua3, ua4, ua5, ua6, ua7, uf0, uf1, uf2, uf3, uf4, uf5, uf6, uf7⟩ := Tryz.cells8 n6; obtain ⟨va0, va1, va2, va3, va4, va5, va6, va7, vf0, vf1, vf2, vf3, vf4, vf5, vf6, vf7⟩ := Tryz.cells8 d6)
  have k6 := k5.trans (Kept.of_below hb6)
  have r6 := r5.below hb6
  have s6 := hk3.size
  have s6' := k6.size
  go_wp2_with (go_at_call 60; refine (hdv w6 (Tryz.GR_kept hsg hg k6) r6.at).mono ?_; rintro e w7 ⟨rfl, hr7, hk7⟩; have a7 := Tryz.up (Tryz.thru (Tryz.thruB a5 hb6) hk7 (by omega)) (.cells #[.int .u64 (limbR (qvW f a b) 0), .int .u64 (limbR (qvW f a b) 1), .int .u64 (limbR (qvW f a b) 2), .int .u64 (limbR (qvW f a b) 3), .int .u64 (limbR (qvW f a b) 4), .int .u64 (limbR (qvW f a b) 5), .int .u64 (limbR (qvW f a b) 6), .int .u64 (limbR (qvW f a b) 7)] 41); have b7 := Tryz.up (Tryz.thru (Tryz.thruB b5 hb6) hk7 (by omega)) (.cells #[.int .u64 (limbR (qvW f a b) 0), .int .u64 (limbR (qvW f a b) 1), .int .u64 (limbR (qvW f a b) 2), .int .u64 (limbR (qvW f a b) 3), .int .u64 (limbR (qvW f a b) 4), .int .u64 (limbR (qvW f a b) 5), .int .u64 (limbR (qvW f a b) 6), .int .u64 (limbR (qvW f a b) 7)] 41); have z7 := Tryz.up (Tryz.thru (Tryz.thruB z5 hb6) hk7 (by omega)) (.cells #[.int .u64 (limbR (qvW f a b) 0), .int .u64 (limbR (qvW f a b) 1), .int .u64 (limbR (qvW f a b) 2), .int .u64 (limbR (qvW f a b) 3), .int .u64 (limbR (qvW f a b) 4), .int .u64 (limbR (qvW f a b) 5), .int .u64 (limbR (qvW f a b) 6), .int .u64 (limbR (qvW f a b) 7)] 41); have q7 := World.alloc_heap_new w7 (.cells #[.int .u64 (limbR (qvW f a b) 0), .int .u64 (limbR (qvW f a b) 1), .int .u64 (limbR (qvW f a b) 2), .int .u64 (limbR (qvW f a b) 3), .int .u64 (limbR (qvW f a b) 4), .int .u64 (limbR (qvW f a b) 5), .int .u64 (limbR (qvW f a b) 6), .int .u64 (limbR (qvW f a b) 7)] 41); obtain ⟨da0, da1, -, -⟩ := Tryz.cells2 a7)
  have k7 := (k6.trans hk7).alloc (.cells #[.int .u64 (limbR (qvW f a b) 0), .int .u64 (limbR (qvW f a b) 1), .int .u64 (limbR (qvW f a b) 2), .int .u64 (limbR (qvW f a b) 3), .int .u64 (limbR (qvW f a b) 4), .int .u64 (limbR (qvW f a b) 5), .int .u64 (limbR (qvW f a b) 6), .int .u64 (limbR (qvW f a b) 7)] 41)
  go_wp2_with (go_at_call_of 61 (hiR a); refine (Tryz.c_value f a hf0 _ (Tryz.GR_kept hsg hg k7)).mono ?_; rintro e w8 ⟨rfl, hb8⟩; have b8 := Tryz.up (Tryz.thruB b7 hb8) (.cells #[.bool (vNeg f a), .int .i64 (vExp f a), .int .u64 (limbR (vSig f a) 0), .int .u64 (limbR (vSig f a) 1), .int .u64 (limbR (vSig f a) 2), .int .u64 (limbR (vSig f a) 3), .int .u64 (limbR (vSig f a) 4), .int .u64 (limbR (vSig f a) 5), .int .u64 (limbR (vSig f a) 6), .int .u64 (limbR (vSig f a) 7)] 126); have z8 := Tryz.up (Tryz.thruB z7 hb8) (.cells #[.bool (vNeg f a), .int .i64 (vExp f a), .int .u64 (limbR (vSig f a) 0), .int .u64 (limbR (vSig f a) 1), .int .u64 (limbR (vSig f a) 2), .int .u64 (limbR (vSig f a) 3), .int .u64 (limbR (vSig f a) 4), .int .u64 (limbR (vSig f a) 5), .int .u64 (limbR (vSig f a) 6), .int .u64 (limbR (vSig f a) 7)] 126); have q8 := Tryz.up (Tryz.thruB q7 hb8) (.cells #[.bool (vNeg f a), .int .i64 (vExp f a), .int .u64 (limbR (vSig f a) 0), .int .u64 (limbR (vSig f a) 1), .int .u64 (limbR (vSig f a) 2), .int .u64 (limbR (vSig f a) 3), .int .u64 (limbR (vSig f a) 4), .int .u64 (limbR (vSig f a) 5), .int .u64 (limbR (vSig f a) 6), .int .u64 (limbR (vSig f a) 7)] 126); have x8 := World.alloc_heap_new w8 (.cells #[.bool (vNeg f a), .int .i64 (vExp f a), .int .u64 (limbR (vSig f a) 0), .int .u64 (limbR (vSig f a) 1), .int .u64 (limbR (vSig f a) 2), .int .u64 (limbR (vSig f a) 3), .int .u64 (limbR (vSig f a) 4), .int .u64 (limbR (vSig f a) 5), .int .u64 (limbR (vSig f a) 6), .int .u64 (limbR (vSig f a) 7)] 126); obtain ⟨eb0, eb1, -, -⟩ := Tryz.cells2 b8)
  have k8 := (k7.trans (Kept.of_below hb8)).alloc (.cells #[.bool (vNeg f a), .int .i64 (vExp f a), .int .u64 (limbR (vSig f a) 0), .int .u64 (limbR (vSig f a) 1), .int .u64 (limbR (vSig f a) 2), .int .u64 (limbR (vSig f a) 3), .int .u64 (limbR (vSig f a) 4), .int .u64 (limbR (vSig f a) 5), .int .u64 (limbR (vSig f a) 6), .int .u64 (limbR (vSig f a) 7)] 126)
  have s8 := k8.size
  clear ca0 ca1 cb0 cb1 da0 da1
  go_wp2_with (go_at_call_of 61 (hiR b); refine (Tryz.c_value f b hf0 _ (Tryz.GR_kept hsg hg k8)).mono ?_; rintro e w9 ⟨rfl, hb9⟩; have z9 := Tryz.up (Tryz.thruB z8 hb9) (.cells #[.bool (vNeg f b), .int .i64 (vExp f b), .int .u64 (limbR (vSig f b) 0), .int .u64 (limbR (vSig f b) 1), .int .u64 (limbR (vSig f b) 2), .int .u64 (limbR (vSig f b) 3), .int .u64 (limbR (vSig f b) 4), .int .u64 (limbR (vSig f b) 5), .int .u64 (limbR (vSig f b) 6), .int .u64 (limbR (vSig f b) 7)] 126); have q9 := Tryz.up (Tryz.thruB q8 hb9) (.cells #[.bool (vNeg f b), .int .i64 (vExp f b), .int .u64 (limbR (vSig f b) 0), .int .u64 (limbR (vSig f b) 1), .int .u64 (limbR (vSig f b) 2), .int .u64 (limbR (vSig f b) 3), .int .u64 (limbR (vSig f b) 4), .int .u64 (limbR (vSig f b) 5), .int .u64 (limbR (vSig f b) 6), .int .u64 (limbR (vSig f b) 7)] 126); have x9 := Tryz.up (Tryz.thruB x8 hb9) (.cells #[.bool (vNeg f b), .int .i64 (vExp f b), .int .u64 (limbR (vSig f b) 0), .int .u64 (limbR (vSig f b) 1), .int .u64 (limbR (vSig f b) 2), .int .u64 (limbR (vSig f b) 3), .int .u64 (limbR (vSig f b) 4), .int .u64 (limbR (vSig f b) 5), .int .u64 (limbR (vSig f b) 6), .int .u64 (limbR (vSig f b) 7)] 126); have fx := Tryz.cells10 x9; obtain ⟨ya0, ya1, ya2, ya3, ya4, ya5, ya6, ya7, yf0, yf1, yf2, yf3, yf4, yf5, yf6, yf7⟩ := Tryz.cells8 q9)
  have k9 := (k8.trans (Kept.of_below hb9)).alloc (.cells #[.bool (vNeg f b), .int .i64 (vExp f b), .int .u64 (limbR (vSig f b) 0), .int .u64 (limbR (vSig f b) 1), .int .u64 (limbR (vSig f b) 2), .int .u64 (limbR (vSig f b) 3), .int .u64 (limbR (vSig f b) 4), .int .u64 (limbR (vSig f b) 5), .int .u64 (limbR (vSig f b) 6), .int .u64 (limbR (vSig f b) 7)] 126)
  go_wp2_with (go_at_call 62; refine (hcr _ (Tryz.GR_kept hsg hg k9)).mono ?_; rintro e w10 ⟨rfl, hb10⟩; have z10 := Tryz.thruB z9 hb10; obtain ⟨gz0, gz1, gf0, gf1⟩ := Tryz.cells2 z10)
  have hA := Tryz.set2 z10 (.int .u64 (hiR (rW f m (!(vNeg f a == vNeg f b)) (qvE f a b) (qvW f a b) (qvM f a b)))) (.int .u64 (loR (rW f m (!(vNeg f a == vNeg f b)) (qvE f a b) (qvW f a b) (qvM f a b))))
  refine bodyPost_ret (Tryz.results_ctt (d := _) rfl _ _ (w.heap.size + 1 + 1) 25 _ _ (by rfl) hA Tryz.underlying25 rfl (by kernel_rfl)) rfl ?_
  refine ⟨rfl, ?_, ?_⟩
  · exact (((((hr7.alloc _).below hb8).alloc _).below hb9).alloc _ |>.below hb10).of_eq (Tryz.set2_other _ _ _ (by omega) _ _)
  · exact (k9.trans (Kept.of_below hb10)).set2 (by omega) _ _
end Go.Proofs