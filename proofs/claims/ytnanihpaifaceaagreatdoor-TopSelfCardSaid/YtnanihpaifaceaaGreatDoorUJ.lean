import Derived.Test.YtnanihpaifaceaaGreatDoorUI
import Derived.Deep.RegionWith
set_option linter.unusedVariables false
set_option linter.unusedSimpArgs false
set_option linter.unusedVariables false
namespace Go.Proofs
open Go.RowKit Go.LE
set_option maxRecDepth 100000
theorem Tryz.c_cls (f : Int) (a : BitVec 128) (hk0 : inK .i64 (f)) (w : World) (hg : GR globs none' w) : Calls Tryz.prog 6 #[.int .i64 (f), .agg #[.int .u64 (hiR (a)), .int .u64 (loR (a))]] w fun e w' => e = .returned (.int .i64 (cls f a)) ∧ Below w.heap.size w w' := by
  refine (p_class06.2 [.int .i64 (f), .word (a)] (.int .i64 (cls f a)) rfl w [.int .i64 (f), .agg #[.int .u64 (hiR (a)), .int .u64 (loR (a))]] ⟨_, _, rfl, ⟨hk0, rfl⟩, ⟨_, _, rfl, rfl, rfl⟩⟩ hg).mono ?_
  rintro e w' ⟨v, rfl, hv, hb⟩
  obtain ⟨_, rfl⟩ := hv
  exact ⟨rfl, hb⟩
theorem Tryz.c_is08 (m : Int) (hk0 : inK .i64 (m)) (w : World) (hg : GR globs none' w) : Calls Tryz.prog 7 #[.int .i64 (m)] w fun e w' => e = .returned (.bool (isM m)) ∧ Below w.heap.size w w' := by
  refine (p_mIs08.2 [.int .i64 (m)] (.bool (isM m)) rfl w [.int .i64 (m)] ⟨_, _, rfl, ⟨hk0, rfl⟩, rfl⟩ hg).mono ?_
  rintro e w' ⟨v, rfl, hv, hb⟩
  subst hv
  exact ⟨rfl, hb⟩
theorem Tryz.c_quiet (f : Int) (a : BitVec 128) (hq : cls f a = 1 ∨ cls f a = 2) (hk0 : inK .i64 (f)) (w : World) (hg : GR globs none' w) : Calls Tryz.prog 12 #[.int .i64 (f), .agg #[.int .u64 (hiR (a)), .int .u64 (loR (a))]] w fun e w' => e = .returned (.agg #[.int .u64 (hiR (qW f a)), .int .u64 (loR (qW f a))]) ∧ Below w.heap.size w w' := by
  refine (p_quietT.2 [.int .i64 (f), .word (a)] (.word (qW f a)) ⟨hq, rfl⟩ w [.int .i64 (f), .agg #[.int .u64 (hiR (a)), .int .u64 (loR (a))]] ⟨_, _, rfl, ⟨hk0, rfl⟩, ⟨_, _, rfl, rfl, rfl⟩⟩ hg).mono ?_
  rintro e w' ⟨v, rfl, hv, hb⟩
  subst hv
  exact ⟨rfl, hb⟩
theorem Tryz.c_nan (f : Int) (hf : 1 ≤ f ∧ f ≤ 4) (hk0 : inK .i64 (f)) (w : World) (hg : GR globs none' w) : Calls Tryz.prog 13 #[.int .i64 (f)] w fun e w' => e = .returned (.agg #[.int .u64 (hiR (fNaN f)), .int .u64 (loR (fNaN f))]) ∧ Below w.heap.size w w' := by
  refine (p_refNaN.2 [.int .i64 (f)] (.word (fNaN f)) ⟨hf, rfl⟩ w [.int .i64 (f)] ⟨_, _, rfl, ⟨hk0, rfl⟩, rfl⟩ hg).mono ?_
  rintro e w' ⟨v, rfl, hv, hb⟩
  subst hv
  exact ⟨rfl, hb⟩
theorem Tryz.c_some (f m : Int) (a b : BitVec 128) (hk0 : inK .i64 (f)) (hk1 : inK .i64 (m)) (w : World) (hg : GR globs none' w) : Calls Tryz.prog 14 #[.agg #[.int .i64 (f), .int .i64 (m)], .agg #[.int .u64 (hiR (a)), .int .u64 (loR (a))], .agg #[.int .u64 (hiR (b)), .int .u64 (loR (b))]] w fun e w' => e = .returned (.bool (isM m && (someW f a && someW f b))) ∧ Below w.heap.size w w' := by
  refine (p_someT.2 [.agg [.int .i64 (f), .int .i64 (m)], .word (a), .word (b)] (.bool (isM m && (someW f a && someW f b))) rfl w [.agg #[.int .i64 (f), .int .i64 (m)], .agg #[.int .u64 (hiR (a)), .int .u64 (loR (a))], .agg #[.int .u64 (hiR (b)), .int .u64 (loR (b))]] ⟨_, _, rfl, ⟨[.int .i64 (f), .int .i64 (m)], rfl, [_], _, rfl, ⟨hk0, rfl⟩, [_], _, rfl, ⟨hk1, rfl⟩, rfl⟩, ⟨_, _, rfl, rfl, ⟨_, _, rfl, rfl, rfl⟩⟩⟩ hg).mono ?_
  rintro e w' ⟨v, rfl, hv, hb⟩
  subst hv
  exact ⟨rfl, hb⟩
theorem Tryz.c_signed (f : Int) (hf : 1 ≤ f ∧ f ≤ 4) (a : BitVec 128) (n : Bool) (hk0 : inK .i64 (f)) (w : World) (hg : GR globs none' w) : Calls Tryz.prog 15 #[.int .i64 (f), .agg #[.int .u64 (hiR (a)), .int .u64 (loR (a))], .bool (n)] w fun e w' => e = .returned (.agg #[.int .u64 (hiR (sgn f a n)), .int .u64 (loR (sgn f a n))]) ∧ Below w.heap.size w w' := by
  refine (p_signed06.2 [.int .i64 (f), .word (a), .bool (n)] (.word (sgn f a n)) ⟨hf, rfl⟩ w [.int .i64 (f), .agg #[.int .u64 (hiR (a)), .int .u64 (loR (a))], .bool (n)] ⟨_, _, rfl, ⟨hk0, rfl⟩, ⟨_, _, rfl, rfl, ⟨_, _, rfl, rfl, rfl⟩⟩⟩ hg).mono ?_
  rintro e w' ⟨v, rfl, hv, hb⟩
  subst hv
  exact ⟨rfl, hb⟩
theorem Tryz.c_neg (f : Int) (a : BitVec 128) (hk0 : inK .i64 (f)) (w : World) (hg : GR globs none' w) : Calls Tryz.prog 16 #[.int .i64 (f), .agg #[.int .u64 (hiR (a)), .int .u64 (loR (a))]] w fun e w' => e = .returned (.bool (wNeg f a)) ∧ Below w.heap.size w w' := by
  refine (p_neg06.2 [.int .i64 (f), .word (a)] (.bool (wNeg f a)) rfl w [.int .i64 (f), .agg #[.int .u64 (hiR (a)), .int .u64 (loR (a))]] ⟨_, _, rfl, ⟨hk0, rfl⟩, ⟨_, _, rfl, rfl, rfl⟩⟩ hg).mono ?_
  rintro e w' ⟨v, rfl, hv, hb⟩
  subst hv
  exact ⟨rfl, hb⟩
theorem Tryz.c_one (f : Int) (hf : 1 ≤ f ∧ f ≤ 4) (hk0 : inK .i64 (f)) (w : World) (hg : GR globs none' w) : Calls Tryz.prog 17 #[.int .i64 (f)] w fun e w' => e = .returned (.agg #[.int .u64 (hiR (fOne f)), .int .u64 (loR (fOne f))]) ∧ Below w.heap.size w w' := by
  refine (p_refOne.2 [.int .i64 (f)] (.word (fOne f)) ⟨hf, rfl⟩ w [.int .i64 (f)] ⟨_, _, rfl, ⟨hk0, rfl⟩, rfl⟩ hg).mono ?_
  rintro e w' ⟨v, rfl, hv, hb⟩
  subst hv
  exact ⟨rfl, hb⟩
end Go.Proofs
set_option linter.unusedVariables false
namespace Go.Proofs
open Go.RowKit Go.LE
set_option maxRecDepth 100000
theorem Tryz.dv_self {f m : Int} {a : BitVec 128} (hm : isM m = true) (ha : uOk f a = true) : dvW f m a a = fOne f ∧ dvX f m a a = 0 ∧ dvW f m a (fOne f) = a ∧ dvX f m a (fOne f) = 0 := by
  obtain ⟨_, hf, _⟩ := uOk_parts ha
  obtain ⟨o1, _⟩ := one_facts hf
  obtain ⟨s1, s2⟩ := self_a hm ha
  obtain ⟨t1, t2⟩ := self_one hm ha
  unfold dvW dvX
  rw [fin_div ha ha, fin_div ha o1]
  exact ⟨s1, s2, t1, t2⟩
theorem Tryz.dv_root {f m : Int} {a : BitVec 128} (hm : isM m = true) (ha : uOk f a = true) (hn : wNeg f a = false) (hz : sqX f m a = 0) : fFits f (sqW f m a) = true ∧ dvW f m a (sqW f m a) = sqW f m a ∧ dvX f m a (sqW f m a) = 0 := by
  have e := fin_sqrt ha hn
  have hz' : rX f m false (rtE f a) (rtS f a) (rtM f a) = 0 := by unfold sqX at hz; rw [e] at hz; exact hz
  have hw : sqW f m a = rW f m false (rtE f a) (rtS f a) (rtM f a) := by unfold sqW; rw [e]; rfl
  obtain ⟨u1, u2, u3⟩ := self_root hm ha hz' hw hn
  refine ⟨(fin_fits (uOk_parts u1).1).1, ?_⟩
  unfold dvW dvX
  rw [fin_div ha u1]
  exact ⟨u2, u3⟩
set_option maxHeartbeats 16000000 in
theorem Tryz.topSelf (f m : Int) (hf0 : inK .i64 f) (hm0 : inK .i64 m) (a : BitVec 128) (w : World) (hg : GR globs none' w) :
    Calls Tryz.prog 5 #[.agg #[.int .i64 f, .int .i64 m], .agg #[.int .u64 (hiR a), .int .u64 (loR a)]] w fun e w' => e = .returned (.bool true) ∧ Below w.heap.size w w' := by
  have hnot : ∀ (x : Bool) (w : World), (Op.unary .not (.bool x)).run Tryz.prog w = .ok (.bool (!x)) w := fun _ _ => rfl
  have hb0 : Below w.heap.size w ((w.alloc (.cells #[.int .i64 f, .int .i64 m] 22)).alloc (.cells #[.int .u64 (hiR (a)), .int .u64 (loR (a))] 25)) := ((Below.refl _ w).alloc (Nat.le_refl _) _).alloc (by simp) _
  have hg0 := Tryz.GR_below hg hb0
  have q0 := Tryz.up (World.alloc_heap_new w (.cells #[.int .i64 f, .int .i64 m] 22)) (.cells #[.int .u64 (hiR (a)), .int .u64 (loR (a))] 25)
  have a0 := Tryz.new2 w (.cells #[.int .i64 f, .int .i64 m] 22) (.cells #[.int .u64 (hiR (a)), .int .u64 (loR (a))] 25)
  obtain ⟨qc0, qc1, -, -⟩ := Tryz.cells2 q0
  obtain ⟨ac0, ac1, -, -⟩ := Tryz.cells2 a0
  have hso := fun w hg => Tryz.c_some f m a a hf0 hm0 w hg
  cases hS : (isM m && (someW f a && someW f a)) with
  | false =>
    rw [hS] at hso
    go_enter Tryz.func5, Tryz.ntmps5
    go_wp2_with (first | (go_at_call 14; refine (hso _ hg0).mono ?_; rintro e w1 ⟨rfl, hb1⟩; have hg1 := Tryz.GR_below hg0 hb1) | (go_at_call 8; refine (Tryz.awake _ hg1).mono ?_; rintro e w2 ⟨rfl, hb2⟩))
    go_ret
    exact ⟨rfl, (hb0.trans (hb1.mono hb0.size)).trans (hb2.mono (by have := hb0.size; have := hb1.size; omega))⟩
  | true =>
    rw [hS] at hso
    obtain ⟨hm, ha⟩ : isM m = true ∧ uOk f a = true := by
      simp only [Bool.and_eq_true] at hS
      refine ⟨hS.1, cls_uOk ?_⟩
      have := hS.2.1
      unfold someW at this
      exact of_decide_eq_true this
    obtain ⟨hfin, hf, _⟩ := uOk_parts ha
    have hF : fFits f a = true := (fin_fits hfin).1
    have hF1 : fFits f (fOne f) = true := (fin_fits (uOk_parts (one_facts hf).1).1).1
    obtain ⟨d1, d2, d3, d4⟩ := Tryz.dv_self hm ha
    have hda : ∀ U s, Go.LE.look globs s = none → ∀ W, FpuAt U s W → GR globs none' W → Calls Tryz.prog 10 #[.pointer (some ⟨U, 0, none⟩), .int .i64 f, .int .i64 m, .agg #[.int .u64 (hiR (a)), .int .u64 (loR (a))], .agg #[.int .u64 (hiR (a)), .int .u64 (loR (a))]] W fun e W' => e = .returned (.tuple #[.agg #[.int .u64 (hiR (fOne f)), .int .u64 (loR (fOne f))], .int .i64 0]) ∧ SetAt s W' ∧ Kept s W W' := fun U s hsg W hF0 hG => by
      have h := Tryz.fpu_Div U s hF0.ne hsg f m hf0 hm0 a a hF hF hm W hF0.at_ hG hF0.set
      rw [d1, d2] at h
      exact h
    have hdo : ∀ U s, Go.LE.look globs s = none → ∀ W, FpuAt U s W → GR globs none' W → Calls Tryz.prog 10 #[.pointer (some ⟨U, 0, none⟩), .int .i64 f, .int .i64 m, .agg #[.int .u64 (hiR (a)), .int .u64 (loR (a))], .agg #[.int .u64 (hiR (fOne f)), .int .u64 (loR (fOne f))]] W fun e W' => e = .returned (.tuple #[.agg #[.int .u64 (hiR (a)), .int .u64 (loR (a))], .int .i64 0]) ∧ SetAt s W' ∧ Kept s W W' := fun U s hsg W hF0 hG => by
      have h := Tryz.fpu_Div U s hF0.ne hsg f m hf0 hm0 a (fOne f) hF hF1 hm W hF0.at_ hG hF0.set
      rw [d3, d4] at h
      exact h
    clear d1 d2 d3 d4
    have e1 := Tryz.neq25 (fOne f) (fOne f)
    have e2 := Tryz.neq25 a a
    simp only [decide_true, Bool.not_true] at e1 e2
    have hng := fun w hg => Tryz.c_neg f a hf0 w hg
    cases hn : wNeg f a with
    | true =>
      rw [hn] at hng
      go_enter Tryz.func5, Tryz.ntmps5
      go_wp2_with (first | (go_at_call 14; refine (hso _ hg0).mono ?_; rintro e w1 ⟨rfl, hb1⟩; have q1 := Tryz.thruB q0 hb1; have a1 := Tryz.thruB a0 hb1; obtain ⟨qd0, qd1, -, -⟩ := Tryz.cells2 q1; obtain ⟨ad0, ad1, -, -⟩ := Tryz.cells2 a1) | (go_at_call 9; refine (Tryz.fpu_new _).mono ?_; rintro e w2 ⟨rfl, hF2, hb2⟩))
      have n1 := hb0.size
      have n1' := hb1.size
      have n0 : w.heap.size + 1 + 1 ≤ w1.heap.size := by simpa using n1'
      have l2 := Tryz.lt_of hF2.at_
      have hB2 : Below w.heap.size w w2 := (hb0.trans (hb1.mono n1)).trans (hb2.mono (by omega))
      have hg2 := Tryz.GR_below hg hB2
      have hsg := Tryz.GR_off (Tryz.GR_below hg (hb0.trans (hb1.mono n1))) (s := w1.heap.size + 1) (by omega)
      go_wp2_with (go_at_call 17; refine (Tryz.c_one f hf hf0 _ hg2).mono ?_; rintro e w3 ⟨rfl, hb3⟩; have q3 := Tryz.up (Tryz.thruB (Tryz.thruB q1 hb2) hb3) (.cells #[.int .u64 (hiR (fOne f)), .int .u64 (loR (fOne f))] 25); have a3 := Tryz.up (Tryz.thruB (Tryz.thruB a1 hb2) hb3) (.cells #[.int .u64 (hiR (fOne f)), .int .u64 (loR (fOne f))] 25); have o3 := World.alloc_heap_new w3 (.cells #[.int .u64 (hiR (fOne f)), .int .u64 (loR (fOne f))] 25); obtain ⟨qe0, qe1, -, -⟩ := Tryz.cells2 q3; obtain ⟨ae0, ae1, -, -⟩ := Tryz.cells2 a3)
      have hF3 := (hF2.below hb3).alloc (.cells #[.int .u64 (hiR (fOne f)), .int .u64 (loR (fOne f))] 25)
      have n2 := hB2.size
      have hB3 : Below w.heap.size w (w3.alloc (.cells #[.int .u64 (hiR (fOne f)), .int .u64 (loR (fOne f))] 25)) := (hB2.trans (hb3.mono n2)).alloc (by have := hb3.size; omega) _
      have hg3 := Tryz.GR_below hg hB3
      have n3 := hb3.size
      have n3' := hb2.size
      clear qd0 qd1 ad0 ad1 qc0 qc1 ac0 ac1
      go_wp2_with (first | (go_at_call_of 10 (hiR (fOne f)); refine (hdo _ _ hsg _ hF4 hg4).mono ?_; rintro e w5 ⟨rfl, hs5, hk5⟩; have q5 := Tryz.up (Tryz.thru q4 hk5 (by omega)) (.cells #[.int .u64 (hiR (a)), .int .u64 (loR (a))] 25); have a5 := Tryz.up (Tryz.thru a4 hk5 (by omega)) (.cells #[.int .u64 (hiR (a)), .int .u64 (loR (a))] 25); have o5 := Tryz.up (Tryz.thru o4 hk5 (by omega)) (.cells #[.int .u64 (hiR (a)), .int .u64 (loR (a))] 25); have x5 := Tryz.up (Tryz.thru x4 hk5 (by omega)) (.cells #[.int .u64 (hiR (a)), .int .u64 (loR (a))] 25); have y5 := World.alloc_heap_new w5 (.cells #[.int .u64 (hiR (a)), .int .u64 (loR (a))] 25); obtain ⟨qg0, qg1, -, -⟩ := Tryz.cells2 q5; obtain ⟨ag0, ag1, -, -⟩ := Tryz.cells2 a5; obtain ⟨og0, og1, -, -⟩ := Tryz.cells2 o5; obtain ⟨xg0, xg1, -, -⟩ := Tryz.cells2 x5; obtain ⟨yg0, yg1, -, -⟩ := Tryz.cells2 y5; have hF5 := (hF4.kept hk5 hs5).alloc (.cells #[.int .u64 (hiR (a)), .int .u64 (loR (a))] 25); have hB5 : Below w.heap.size w (w5.alloc (.cells #[.int .u64 (hiR (a)), .int .u64 (loR (a))] 25)) := hB4.trans ((hk5.alloc _).below (by omega) hB4.size); have hg5 := Tryz.GR_below hg hB5; have n5 : w4.heap.size + 1 ≤ w5.heap.size := (by have := hk5.size; simpa using this)) | (go_at_call 10; refine (hda _ _ hsg _ hF3 hg3).mono ?_; rintro e w4 ⟨rfl, hs4, hk4⟩; have q4 := Tryz.up (Tryz.thru q3 hk4 (by omega)) (.cells #[.int .u64 (hiR (fOne f)), .int .u64 (loR (fOne f))] 25); have a4 := Tryz.up (Tryz.thru a3 hk4 (by omega)) (.cells #[.int .u64 (hiR (fOne f)), .int .u64 (loR (fOne f))] 25); have o4 := Tryz.up (Tryz.thru o3 hk4 (by omega)) (.cells #[.int .u64 (hiR (fOne f)), .int .u64 (loR (fOne f))] 25); have x4 := World.alloc_heap_new w4 (.cells #[.int .u64 (hiR (fOne f)), .int .u64 (loR (fOne f))] 25); obtain ⟨qf0, qf1, -, -⟩ := Tryz.cells2 q4; obtain ⟨af0, af1, -, -⟩ := Tryz.cells2 a4; obtain ⟨of0, of1, -, -⟩ := Tryz.cells2 o4; have hF4 := (hF3.kept hk4 hs4).alloc (.cells #[.int .u64 (hiR (fOne f)), .int .u64 (loR (fOne f))] 25); have hB4 : Below w.heap.size w (w4.alloc (.cells #[.int .u64 (hiR (fOne f)), .int .u64 (loR (fOne f))] 25)) := hB3.trans ((hk4.alloc _).below (by omega) hB3.size); have hg4 := Tryz.GR_below hg hB4; have n4 : w3.heap.size + 1 ≤ w4.heap.size := (by have := hk4.size; simpa using this)) | (go_at_call 16; refine (hng _ hg5).mono ?_; rintro e w6 ⟨rfl, hb6⟩; have hB6 := hB5.trans (hb6.mono hB5.size); have hg6 := Tryz.GR_below hg hB6; have q6 := Tryz.thruB q5 hb6; have a6 := Tryz.thruB a5 hb6; obtain ⟨qh0, qh1, -, -⟩ := Tryz.cells2 q6; obtain ⟨ah0, ah1, -, -⟩ := Tryz.cells2 a6) | (go_at_call 8; refine (Tryz.awake _ hg6).mono ?_; rintro e w7 ⟨rfl, hb7⟩))
      go_ret
      exact ⟨rfl, hB6.trans (hb7.mono hB6.size)⟩
    | false =>
      rw [hn] at hng
      have hsq : ∀ U s, Go.LE.look globs s = none → ∀ W, FpuAt U s W → GR globs none' W → Calls Tryz.prog 11 #[.pointer (some ⟨U, 0, none⟩), .int .i64 f, .int .i64 m, .agg #[.int .u64 (hiR (a)), .int .u64 (loR (a))]] W fun e W' => e = .returned (.tuple #[.agg #[.int .u64 (hiR (sqW f m a)), .int .u64 (loR (sqW f m a))], .int .i64 (sqX f m a)]) ∧ SetAt s W' ∧ Kept s W W' := fun U s hsg W hF0 hG => Tryz.fpu_Sqrt U s hF0.ne hsg f m hf0 hm0 a hF hm W hF0.at_ hG hF0.set
      by_cases hz : sqX f m a = 0
      · rw [hz] at hsq
        obtain ⟨z1, z2, z3⟩ := Tryz.dv_root hm ha hn hz
        have hdr : ∀ U s, Go.LE.look globs s = none → ∀ W, FpuAt U s W → GR globs none' W → Calls Tryz.prog 10 #[.pointer (some ⟨U, 0, none⟩), .int .i64 f, .int .i64 m, .agg #[.int .u64 (hiR (a)), .int .u64 (loR (a))], .agg #[.int .u64 (hiR (sqW f m a)), .int .u64 (loR (sqW f m a))]] W fun e W' => e = .returned (.tuple #[.agg #[.int .u64 (hiR (sqW f m a)), .int .u64 (loR (sqW f m a))], .int .i64 0]) ∧ SetAt s W' ∧ Kept s W W' := fun U s hsg W hF0 hG => by
          have h := Tryz.fpu_Div U s hF0.ne hsg f m hf0 hm0 a (sqW f m a) hF z1 hm W hF0.at_ hG hF0.set
          rw [z2, z3] at h
          exact h
        clear z1 z2 z3 hz
        have e3 := Tryz.eq25 (sqW f m a) (sqW f m a)
        simp only [decide_true] at e3
        go_enter Tryz.func5, Tryz.ntmps5
        go_wp2_with (first | (go_at_call 14; refine (hso _ hg0).mono ?_; rintro e w1 ⟨rfl, hb1⟩; have q1 := Tryz.thruB q0 hb1; have a1 := Tryz.thruB a0 hb1; obtain ⟨qd0, qd1, -, -⟩ := Tryz.cells2 q1; obtain ⟨ad0, ad1, -, -⟩ := Tryz.cells2 a1) | (go_at_call 9; refine (Tryz.fpu_new _).mono ?_; rintro e w2 ⟨rfl, hF2, hb2⟩))
        have n1 := hb0.size
        have n1' := hb1.size
        have n0 : w.heap.size + 1 + 1 ≤ w1.heap.size := by simpa using n1'
        have l2 := Tryz.lt_of hF2.at_
        have hB2 : Below w.heap.size w w2 := (hb0.trans (hb1.mono n1)).trans (hb2.mono (by omega))
        have hg2 := Tryz.GR_below hg hB2
        have hsg := Tryz.GR_off (Tryz.GR_below hg (hb0.trans (hb1.mono n1))) (s := w1.heap.size + 1) (by omega)
        go_wp2_with (go_at_call 17; refine (Tryz.c_one f hf hf0 _ hg2).mono ?_; rintro e w3 ⟨rfl, hb3⟩; have q3 := Tryz.up (Tryz.thruB (Tryz.thruB q1 hb2) hb3) (.cells #[.int .u64 (hiR (fOne f)), .int .u64 (loR (fOne f))] 25); have a3 := Tryz.up (Tryz.thruB (Tryz.thruB a1 hb2) hb3) (.cells #[.int .u64 (hiR (fOne f)), .int .u64 (loR (fOne f))] 25); have o3 := World.alloc_heap_new w3 (.cells #[.int .u64 (hiR (fOne f)), .int .u64 (loR (fOne f))] 25); obtain ⟨qe0, qe1, -, -⟩ := Tryz.cells2 q3; obtain ⟨ae0, ae1, -, -⟩ := Tryz.cells2 a3)
        have hF3 := (hF2.below hb3).alloc (.cells #[.int .u64 (hiR (fOne f)), .int .u64 (loR (fOne f))] 25)
        have n2 := hB2.size
        have hB3 : Below w.heap.size w (w3.alloc (.cells #[.int .u64 (hiR (fOne f)), .int .u64 (loR (fOne f))] 25)) := (hB2.trans (hb3.mono n2)).alloc (by have := hb3.size; omega) _
        have hg3 := Tryz.GR_below hg hB3
        have n3 := hb3.size
        have n3' := hb2.size
        clear qd0 qd1 ad0 ad1 qc0 qc1 ac0 ac1
        go_wp2_with (first | (go_at_call_of 10 (hiR (fOne f)); refine (hdo _ _ hsg _ hF4 hg4).mono ?_; rintro e w5 ⟨rfl, hs5, hk5⟩; have q5 := Tryz.up (Tryz.thru q4 hk5 (by omega)) (.cells #[.int .u64 (hiR (a)), .int .u64 (loR (a))] 25); have a5 := Tryz.up (Tryz.thru a4 hk5 (by omega)) (.cells #[.int .u64 (hiR (a)), .int .u64 (loR (a))] 25); have o5 := Tryz.up (Tryz.thru o4 hk5 (by omega)) (.cells #[.int .u64 (hiR (a)), .int .u64 (loR (a))] 25); have x5 := Tryz.up (Tryz.thru x4 hk5 (by omega)) (.cells #[.int .u64 (hiR (a)), .int .u64 (loR (a))] 25); have y5 := World.alloc_heap_new w5 (.cells #[.int .u64 (hiR (a)), .int .u64 (loR (a))] 25); obtain ⟨qg0, qg1, -, -⟩ := Tryz.cells2 q5; obtain ⟨ag0, ag1, -, -⟩ := Tryz.cells2 a5; obtain ⟨og0, og1, -, -⟩ := Tryz.cells2 o5; obtain ⟨xg0, xg1, -, -⟩ := Tryz.cells2 x5; obtain ⟨yg0, yg1, -, -⟩ := Tryz.cells2 y5; have hF5 := (hF4.kept hk5 hs5).alloc (.cells #[.int .u64 (hiR (a)), .int .u64 (loR (a))] 25); have hB5 : Below w.heap.size w (w5.alloc (.cells #[.int .u64 (hiR (a)), .int .u64 (loR (a))] 25)) := hB4.trans ((hk5.alloc _).below (by omega) hB4.size); have hg5 := Tryz.GR_below hg hB5; have n5 : w4.heap.size + 1 ≤ w5.heap.size := (by have := hk5.size; simpa using this)) | (go_at_call 10; refine (hda _ _ hsg _ hF3 hg3).mono ?_; rintro e w4 ⟨rfl, hs4, hk4⟩; have q4 := Tryz.up (Tryz.thru q3 hk4 (by omega)) (.cells #[.int .u64 (hiR (fOne f)), .int .u64 (loR (fOne f))] 25); have a4 := Tryz.up (Tryz.thru a3 hk4 (by omega)) (.cells #[.int .u64 (hiR (fOne f)), .int .u64 (loR (fOne f))] 25); have o4 := Tryz.up (Tryz.thru o3 hk4 (by omega)) (.cells #[.int .u64 (hiR (fOne f)), .int .u64 (loR (fOne f))] 25); have x4 := World.alloc_heap_new w4 (.cells #[.int .u64 (hiR (fOne f)), .int .u64 (loR (fOne f))] 25); obtain ⟨qf0, qf1, -, -⟩ := Tryz.cells2 q4; obtain ⟨af0, af1, -, -⟩ := Tryz.cells2 a4; obtain ⟨of0, of1, -, -⟩ := Tryz.cells2 o4; have hF4 := (hF3.kept hk4 hs4).alloc (.cells #[.int .u64 (hiR (fOne f)), .int .u64 (loR (fOne f))] 25); have hB4 : Below w.heap.size w (w4.alloc (.cells #[.int .u64 (hiR (fOne f)), .int .u64 (loR (fOne f))] 25)) := hB3.trans ((hk4.alloc _).below (by omega) hB3.size); have hg4 := Tryz.GR_below hg hB4; have n4 : w3.heap.size + 1 ≤ w4.heap.size := (by have := hk4.size; simpa using this)) | (go_at_call 16; refine (hng _ hg5).mono ?_; rintro e w6 ⟨rfl, hb6⟩; have hB6 := hB5.trans (hb6.mono hB5.size); have hg6 := Tryz.GR_below hg hB6; have q6 := Tryz.thruB q5 hb6; have a6 := Tryz.thruB a5 hb6; obtain ⟨qh0, qh1, -, -⟩ := Tryz.cells2 q6; obtain ⟨ah0, ah1, -, -⟩ := Tryz.cells2 a6))
        have hF6 := hF5.below hb6
        have n6 : w5.heap.size + 1 ≤ w6.heap.size := by have := hb6.size; simpa using this
        have n5' := hB5.size
        clear qf0 qf1 af0 af1 of0 of1 qg0 qg1 ag0 ag1 og0 og1 xg0 xg1 yg0 yg1
        go_wp2_with (first | (go_at_call 11; refine (hsq _ _ hsg _ hF6 hg6).mono ?_; rintro e w7 ⟨rfl, hs7, hk7⟩; have q7 := Tryz.up (Tryz.thru q6 hk7 (by omega)) (.cells #[.int .u64 (hiR (sqW f m a)), .int .u64 (loR (sqW f m a))] 25); have a7 := Tryz.up (Tryz.thru a6 hk7 (by omega)) (.cells #[.int .u64 (hiR (sqW f m a)), .int .u64 (loR (sqW f m a))] 25); have r7 := World.alloc_heap_new w7 (.cells #[.int .u64 (hiR (sqW f m a)), .int .u64 (loR (sqW f m a))] 25); obtain ⟨qi0, qi1, -, -⟩ := Tryz.cells2 q7; obtain ⟨ai0, ai1, -, -⟩ := Tryz.cells2 a7; have hF7 := (hF6.kept hk7 hs7).alloc (.cells #[.int .u64 (hiR (sqW f m a)), .int .u64 (loR (sqW f m a))] 25); have hB7 : Below w.heap.size w (w7.alloc (.cells #[.int .u64 (hiR (sqW f m a)), .int .u64 (loR (sqW f m a))] 25)) := hB6.trans ((hk7.alloc _).below (by omega) hB6.size); have hg7 := Tryz.GR_below hg hB7; have n7 := hk7.size))
        go_wp2_with (first | (go_at_call 10; refine (hdr _ _ hsg _ hF7 hg7).mono ?_; rintro e w8 ⟨rfl, hs8, hk8⟩; have r8 := Tryz.up (Tryz.thru r7 hk8 (by omega)) (.cells #[.int .u64 (hiR (sqW f m a)), .int .u64 (loR (sqW f m a))] 25); have t8 := World.alloc_heap_new w8 (.cells #[.int .u64 (hiR (sqW f m a)), .int .u64 (loR (sqW f m a))] 25); obtain ⟨rj0, rj1, -, -⟩ := Tryz.cells2 r8; obtain ⟨tj0, tj1, -, -⟩ := Tryz.cells2 t8; have hB8 : Below w.heap.size w (w8.alloc (.cells #[.int .u64 (hiR (sqW f m a)), .int .u64 (loR (sqW f m a))] 25)) := hB7.trans ((hk8.alloc _).below (by omega) hB7.size); have hg8 := Tryz.GR_below hg hB8) | (go_at_call 8; refine (Tryz.awake _ hg8).mono ?_; rintro e w9 ⟨rfl, hb9⟩))
        go_ret
        exact ⟨rfl, hB8.trans (hb9.mono hB8.size)⟩
      · go_enter Tryz.func5, Tryz.ntmps5
        go_wp2_with (first | (go_at_call 14; refine (hso _ hg0).mono ?_; rintro e w1 ⟨rfl, hb1⟩; have q1 := Tryz.thruB q0 hb1; have a1 := Tryz.thruB a0 hb1; obtain ⟨qd0, qd1, -, -⟩ := Tryz.cells2 q1; obtain ⟨ad0, ad1, -, -⟩ := Tryz.cells2 a1) | (go_at_call 9; refine (Tryz.fpu_new _).mono ?_; rintro e w2 ⟨rfl, hF2, hb2⟩))
        have n1 := hb0.size
        have n1' := hb1.size
        have n0 : w.heap.size + 1 + 1 ≤ w1.heap.size := by simpa using n1'
        have l2 := Tryz.lt_of hF2.at_
        have hB2 : Below w.heap.size w w2 := (hb0.trans (hb1.mono n1)).trans (hb2.mono (by omega))
        have hg2 := Tryz.GR_below hg hB2
        have hsg := Tryz.GR_off (Tryz.GR_below hg (hb0.trans (hb1.mono n1))) (s := w1.heap.size + 1) (by omega)
        go_wp2_with (go_at_call 17; refine (Tryz.c_one f hf hf0 _ hg2).mono ?_; rintro e w3 ⟨rfl, hb3⟩; have q3 := Tryz.up (Tryz.thruB (Tryz.thruB q1 hb2) hb3) (.cells #[.int .u64 (hiR (fOne f)), .int .u64 (loR (fOne f))] 25); have a3 := Tryz.up (Tryz.thruB (Tryz.thruB a1 hb2) hb3) (.cells #[.int .u64 (hiR (fOne f)), .int .u64 (loR (fOne f))] 25); have o3 := World.alloc_heap_new w3 (.cells #[.int .u64 (hiR (fOne f)), .int .u64 (loR (fOne f))] 25); obtain ⟨qe0, qe1, -, -⟩ := Tryz.cells2 q3; obtain ⟨ae0, ae1, -, -⟩ := Tryz.cells2 a3)
        have hF3 := (hF2.below hb3).alloc (.cells #[.int .u64 (hiR (fOne f)), .int .u64 (loR (fOne f))] 25)
        have n2 := hB2.size
        have hB3 : Below w.heap.size w (w3.alloc (.cells #[.int .u64 (hiR (fOne f)), .int .u64 (loR (fOne f))] 25)) := (hB2.trans (hb3.mono n2)).alloc (by have := hb3.size; omega) _
        have hg3 := Tryz.GR_below hg hB3
        have n3 := hb3.size
        have n3' := hb2.size
        clear qd0 qd1 ad0 ad1 qc0 qc1 ac0 ac1
        go_wp2_with (first | (go_at_call_of 10 (hiR (fOne f)); refine (hdo _ _ hsg _ hF4 hg4).mono ?_; rintro e w5 ⟨rfl, hs5, hk5⟩; have q5 := Tryz.up (Tryz.thru q4 hk5 (by omega)) (.cells #[.int .u64 (hiR (a)), .int .u64 (loR (a))] 25); have a5 := Tryz.up (Tryz.thru a4 hk5 (by omega)) (.cells #[.int .u64 (hiR (a)), .int .u64 (loR (a))] 25); have o5 := Tryz.up (Tryz.thru o4 hk5 (by omega)) (.cells #[.int .u64 (hiR (a)), .int .u64 (loR (a))] 25); have x5 := Tryz.up (Tryz.thru x4 hk5 (by omega)) (.cells #[.int .u64 (hiR (a)), .int .u64 (loR (a))] 25); have y5 := World.alloc_heap_new w5 (.cells #[.int .u64 (hiR (a)), .int .u64 (loR (a))] 25); obtain ⟨qg0, qg1, -, -⟩ := Tryz.cells2 q5; obtain ⟨ag0, ag1, -, -⟩ := Tryz.cells2 a5; obtain ⟨og0, og1, -, -⟩ := Tryz.cells2 o5; obtain ⟨xg0, xg1, -, -⟩ := Tryz.cells2 x5; obtain ⟨yg0, yg1, -, -⟩ := Tryz.cells2 y5; have hF5 := (hF4.kept hk5 hs5).alloc (.cells #[.int .u64 (hiR (a)), .int .u64 (loR (a))] 25); have hB5 : Below w.heap.size w (w5.alloc (.cells #[.int .u64 (hiR (a)), .int .u64 (loR (a))] 25)) := hB4.trans ((hk5.alloc _).below (by omega) hB4.size); have hg5 := Tryz.GR_below hg hB5; have n5 : w4.heap.size + 1 ≤ w5.heap.size := (by have := hk5.size; simpa using this)) | (go_at_call 10; refine (hda _ _ hsg _ hF3 hg3).mono ?_; rintro e w4 ⟨rfl, hs4, hk4⟩; have q4 := Tryz.up (Tryz.thru q3 hk4 (by omega)) (.cells #[.int .u64 (hiR (fOne f)), .int .u64 (loR (fOne f))] 25); have a4 := Tryz.up (Tryz.thru a3 hk4 (by omega)) (.cells #[.int .u64 (hiR (fOne f)), .int .u64 (loR (fOne f))] 25); have o4 := Tryz.up (Tryz.thru o3 hk4 (by omega)) (.cells #[.int .u64 (hiR (fOne f)), .int .u64 (loR (fOne f))] 25); have x4 := World.alloc_heap_new w4 (.cells #[.int .u64 (hiR (fOne f)), .int .u64 (loR (fOne f))] 25); obtain ⟨qf0, qf1, -, -⟩ := Tryz.cells2 q4; obtain ⟨af0, af1, -, -⟩ := Tryz.cells2 a4; obtain ⟨of0, of1, -, -⟩ := Tryz.cells2 o4; have hF4 := (hF3.kept hk4 hs4).alloc (.cells #[.int .u64 (hiR (fOne f)), .int .u64 (loR (fOne f))] 25); have hB4 : Below w.heap.size w (w4.alloc (.cells #[.int .u64 (hiR (fOne f)), .int .u64 (loR (fOne f))] 25)) := hB3.trans ((hk4.alloc _).below (by omega) hB3.size); have hg4 := Tryz.GR_below hg hB4; have n4 : w3.heap.size + 1 ≤ w4.heap.size := (by have := hk4.size; simpa using this)) | (go_at_call 16; refine (hng _ hg5).mono ?_; rintro e w6 ⟨rfl, hb6⟩; have hB6 := hB5.trans (hb6.mono hB5.size); have hg6 := Tryz.GR_below hg hB6; have q6 := Tryz.thruB q5 hb6; have a6 := Tryz.thruB a5 hb6; obtain ⟨qh0, qh1, -, -⟩ := Tryz.cells2 q6; obtain ⟨ah0, ah1, -, -⟩ := Tryz.cells2 a6))
        have hF6 := hF5.below hb6
        have n6 : w5.heap.size + 1 ≤ w6.heap.size := by have := hb6.size; simpa using this
        have n5' := hB5.size
        clear qf0 qf1 af0 af1 of0 of1 qg0 qg1 ag0 ag1 og0 og1 xg0 xg1 yg0 yg1
        go_wp2_with (first | (go_at_call 11; refine (hsq _ _ hsg _ hF6 hg6).mono ?_; rintro e w7 ⟨rfl, hs7, hk7⟩; have q7 := Tryz.up (Tryz.thru q6 hk7 (by omega)) (.cells #[.int .u64 (hiR (sqW f m a)), .int .u64 (loR (sqW f m a))] 25); have a7 := Tryz.up (Tryz.thru a6 hk7 (by omega)) (.cells #[.int .u64 (hiR (sqW f m a)), .int .u64 (loR (sqW f m a))] 25); have r7 := World.alloc_heap_new w7 (.cells #[.int .u64 (hiR (sqW f m a)), .int .u64 (loR (sqW f m a))] 25); obtain ⟨qi0, qi1, -, -⟩ := Tryz.cells2 q7; obtain ⟨ai0, ai1, -, -⟩ := Tryz.cells2 a7; have hF7 := (hF6.kept hk7 hs7).alloc (.cells #[.int .u64 (hiR (sqW f m a)), .int .u64 (loR (sqW f m a))] 25); have hB7 : Below w.heap.size w (w7.alloc (.cells #[.int .u64 (hiR (sqW f m a)), .int .u64 (loR (sqW f m a))] 25)) := hB6.trans ((hk7.alloc _).below (by omega) hB6.size); have hg7 := Tryz.GR_below hg hB7; have n7 := hk7.size) | (go_at_call 8; refine (Tryz.awake _ hg7).mono ?_; rintro e w8 ⟨rfl, hb8⟩))
        go_ret
        exact ⟨rfl, hB7.trans (hb8.mono hB7.size)⟩
end Go.Proofs