import Derived.Test.YtnanihpaifaceaaGreatDoorUJ
import Derived.Test.YtnanihpaifaceaaGreatDoorLeT
import Derived.Deep.RegionHeld3
import Derived.StillTailTactics
import Derived.Deep.QuietTactic
import Derived.Deep.RegionWith
import Derived.BigQuiet
set_option linter.unusedVariables false
set_option linter.unusedSimpArgs false
set_option linter.unusedVariables false
namespace Go.Proofs
open Go.RowKit Go.LE
set_option maxRecDepth 100000
set_option exponentiation.threshold 600
section
variable {P : Program} {ops : Array Oper} {Q : Exit → Act → World → Prop} {md : Region.Mode} {S : World → Prop}
theorem Tryz.take_no {i : Nat} {d : Tmp} {fuel : Nat} {listed : Array Bool} {a : Act} {w : World} (hd : (ops[i]?).bind (·.dst) = some d)
    (hs : Region.noSelect ops = true) (hf : Region.free md ops listed i = true) (hr : (Region.ready md ops listed).contains i = true)
    (hQ : ∀ c a w v, Q (.panic c) (a.put (some d) v) w → Q (.panic c) a w) (hw : (ops[i]?).map (fun o => Region.wanted o (yielded ops a.tmps)) = some false) (hS : S w)
    (h : wpAnyH P md ops Q S fuel (listed.setIfInBounds i true) (a.put (some d) undef) w) : wpAnyH P md ops Q S (fuel + 1) listed a w := by
  cases ho : ops[i]? with
  | none => rw [ho] at hd; simp at hd
  | some o =>
    rw [ho] at hd hw
    have hd : o.dst = some d := by simpa using hd
    have hw : Region.wanted o (yielded ops a.tmps) = false := by simpa using hw
    exact wpAnyH_take ho hs hf hr (fun c a w => by rw [hd]; exact hQ c a w _) (.inr ⟨hw, rfl⟩) hS (by rw [hd]; exact h)
theorem Tryz.take_yes {i : Nat} {d : Tmp} {v : Value} {fuel : Nat} {listed : Array Bool} {a : Act} {w : World} (hd : (ops[i]?).bind (·.dst) = some d)
    (hs : Region.noSelect ops = true) (hf : Region.free md ops listed i = true) (hr : (Region.ready md ops listed).contains i = true)
    (hQ : ∀ c a w v, Q (.panic c) (a.put (some d) v) w → Q (.panic c) a w) (hy : ∃ o, ops[i]? = some o ∧ Region.wanted o (yielded ops a.tmps) = true ∧ ∀ w, S w → (execOp a.eval o).run P w = .ok (.value v) w) (hS : S w)
    (h : wpAnyH P md ops Q S fuel (listed.setIfInBounds i true) (a.put (some d) v) w) : wpAnyH P md ops Q S (fuel + 1) listed a w := by
  obtain ⟨o, ho, hw, hy⟩ := hy
  rw [ho] at hd
  have hd : o.dst = some d := by simpa using hd
  exact wpAnyH_take ho hs hf hr (fun c a w => by rw [hd]; exact hQ c a w _) (.inl ⟨hw, hy⟩) hS (by rw [hd]; exact h)
end
set_option maxHeartbeats 16000000 in
theorem Tryz.topNaN (f m : Int) (hf0 : inK .i64 f) (hm0 : inK .i64 m) (a b : BitVec 128) (w : World) (hg : GR globs none' w) :
    Calls Tryz.prog 3 #[.agg #[.int .i64 f, .int .i64 m], .agg #[.int .u64 (hiR a), .int .u64 (loR a)], .agg #[.int .u64 (hiR b), .int .u64 (loR b)]] w fun e w' => e = .returned (.bool true) ∧ Below w.heap.size w w' := by
  have hnot : ∀ (x : Bool) (w : World), (Op.unary .not (.bool x)).run Tryz.prog w = .ok (.bool (!x)) w := fun _ _ => rfl
  have hb0 : Below w.heap.size w (((w.alloc (.cells #[.int .i64 f, .int .i64 m] 22)).alloc (.cells #[.int .u64 (hiR (a)), .int .u64 (loR (a))] 25)).alloc (.cells #[.int .u64 (hiR (b)), .int .u64 (loR (b))] 25)) := (((Below.refl _ w).alloc (Nat.le_refl _) _).alloc (by simp) _).alloc (by simp <;> omega) _
  have hg0 := Tryz.GR_below hg hb0
  have q0 := Tryz.up (Tryz.up (World.alloc_heap_new w (.cells #[.int .i64 f, .int .i64 m] 22)) (.cells #[.int .u64 (hiR (a)), .int .u64 (loR (a))] 25)) (.cells #[.int .u64 (hiR (b)), .int .u64 (loR (b))] 25)
  have a0 := Tryz.up (Tryz.new2 w (.cells #[.int .i64 f, .int .i64 m] 22) (.cells #[.int .u64 (hiR (a)), .int .u64 (loR (a))] 25)) (.cells #[.int .u64 (hiR (b)), .int .u64 (loR (b))] 25)
  have b0 : (((w.alloc (.cells #[.int .i64 f, .int .i64 m] 22)).alloc (.cells #[.int .u64 (hiR (a)), .int .u64 (loR (a))] 25)).alloc (.cells #[.int .u64 (hiR (b)), .int .u64 (loR (b))] 25)).heap[w.heap.size + 1 + 1]? = some (.cells #[.int .u64 (hiR (b)), .int .u64 (loR (b))] 25) := by have := Tryz.new2 (w.alloc (.cells #[.int .i64 f, .int .i64 m] 22)) (.cells #[.int .u64 (hiR (a)), .int .u64 (loR (a))] 25) (.cells #[.int .u64 (hiR (b)), .int .u64 (loR (b))] 25); simpa using this
  obtain ⟨qc0, qc1, -, -⟩ := Tryz.cells2 q0
  obtain ⟨ac0, ac1, -, -⟩ := Tryz.cells2 a0
  obtain ⟨bc0, bc1, -, -⟩ := Tryz.cells2 b0
  have hca := fun w hg => Tryz.c_cls f a hf0 w hg
  have hcb := fun w hg => Tryz.c_cls f b hf0 w hg
  have n0 : w.heap.size + 1 + 1 + 1 = (((w.alloc (.cells #[.int .i64 f, .int .i64 m] 22)).alloc (.cells #[.int .u64 (hiR (a)), .int .u64 (loR (a))] 25)).alloc (.cells #[.int .u64 (hiR (b)), .int .u64 (loR (b))] 25)).heap.size := by simp
  by_cases hx0 : cls f a = 0
  · rw [hx0] at hca
    go_enter Tryz.func3, Tryz.ntmps3
    go_wp2
    go_region_held3 (fun w' : World => w'.cell? ⟨w.heap.size + 1, 0, none⟩ = some (.int .u64 (hiR a)) ∧ w'.cell? ⟨w.heap.size + 1, 1, none⟩ = some (.int .u64 (loR a)) ∧ w'.cell? ⟨w.heap.size + 1 + 1, 0, none⟩ = some (.int .u64 (hiR b)) ∧ w'.cell? ⟨w.heap.size + 1 + 1, 1, none⟩ = some (.int .u64 (loR b))) (first | with_reducible exact ⟨ac0, ac1, bc0, bc1⟩ | exact ⟨ac0, ac1, bc0, bc1⟩ | with_reducible exact ⟨ad0, ad1, bd0, bd1⟩ | with_reducible exact ⟨ae0, ae1, be0, be1⟩) (first | (go_at_call_of 6 (hiR a); refine (hca (((w.alloc (.cells #[.int .i64 f, .int .i64 m] 22)).alloc (.cells #[.int .u64 (hiR (a)), .int .u64 (loR (a))] 25)).alloc (.cells #[.int .u64 (hiR (b)), .int .u64 (loR (b))] 25)).drew (Tryz.GR_below hg hb0.drew)).mono ?_; rintro e w1 ⟨rfl, hb1⟩; have hB1 := hb0.drew.trans (hb1.mono hb0.size); have q1 := Tryz.thruB (Tryz.in_drew q0) hb1; have a1 := Tryz.thruB (Tryz.in_drew a0) hb1; have b1 := Tryz.thruB (Tryz.in_drew b0) hb1; obtain ⟨ad0, ad1, -, -⟩ := Tryz.cells2 a1; obtain ⟨bd0, bd1, -, -⟩ := Tryz.cells2 b1) | (go_at_call_of 6 (hiR b); refine (hcb _ (Tryz.GR_below hg hB1)).mono ?_; rintro e w2 ⟨rfl, hb2⟩; have hB2 := hB1.trans (hb2.mono hB1.size); have q2 := Tryz.thruB q1 hb2; have a2 := Tryz.thruB a1 hb2; have b2 := Tryz.thruB b1 hb2; obtain ⟨ae0, ae1, -, -⟩ := Tryz.cells2 a2; obtain ⟨be0, be1, -, -⟩ := Tryz.cells2 b2; obtain ⟨qe0, qe1, -, -⟩ := Tryz.cells2 q2; have hg2 := Tryz.GR_below hg hB2; clear ac0 ac1 bc0 bc1))
    go_wp2_with (first | (go_at_call 7; refine (his _ hg2).mono ?_; rintro e w3 ⟨rfl, hb3⟩; have hB3 := hB2.trans (hb3.mono hB2.size); have hg3 := Tryz.GR_below hg hB3) | (go_at_call 8; refine (Tryz.awake _ hg2).mono ?_; rintro e w9 ⟨rfl, hb9⟩; have hB9 := hB2.trans (hb9.mono hB2.size)))
    go_ret
    exact ⟨rfl, hB9⟩
  by_cases hy0 : cls f b = 0
  · have x0 : (cls f a == 0) = false := by simpa using hx0
    rw [hy0] at hcb
    go_enter Tryz.func3, Tryz.ntmps3
    go_wp2
    go_region_held3 (fun w' : World => w'.cell? ⟨w.heap.size + 1, 0, none⟩ = some (.int .u64 (hiR a)) ∧ w'.cell? ⟨w.heap.size + 1, 1, none⟩ = some (.int .u64 (loR a)) ∧ w'.cell? ⟨w.heap.size + 1 + 1, 0, none⟩ = some (.int .u64 (hiR b)) ∧ w'.cell? ⟨w.heap.size + 1 + 1, 1, none⟩ = some (.int .u64 (loR b))) (first | with_reducible exact ⟨ac0, ac1, bc0, bc1⟩ | exact ⟨ac0, ac1, bc0, bc1⟩ | with_reducible exact ⟨ad0, ad1, bd0, bd1⟩ | with_reducible exact ⟨ae0, ae1, be0, be1⟩) (first | (go_at_call_of 6 (hiR a); refine (hca (((w.alloc (.cells #[.int .i64 f, .int .i64 m] 22)).alloc (.cells #[.int .u64 (hiR (a)), .int .u64 (loR (a))] 25)).alloc (.cells #[.int .u64 (hiR (b)), .int .u64 (loR (b))] 25)).drew (Tryz.GR_below hg hb0.drew)).mono ?_; rintro e w1 ⟨rfl, hb1⟩; have hB1 := hb0.drew.trans (hb1.mono hb0.size); have q1 := Tryz.thruB (Tryz.in_drew q0) hb1; have a1 := Tryz.thruB (Tryz.in_drew a0) hb1; have b1 := Tryz.thruB (Tryz.in_drew b0) hb1; obtain ⟨ad0, ad1, -, -⟩ := Tryz.cells2 a1; obtain ⟨bd0, bd1, -, -⟩ := Tryz.cells2 b1) | (go_at_call_of 6 (hiR b); refine (hcb _ (Tryz.GR_below hg hB1)).mono ?_; rintro e w2 ⟨rfl, hb2⟩; have hB2 := hB1.trans (hb2.mono hB1.size); have q2 := Tryz.thruB q1 hb2; have a2 := Tryz.thruB a1 hb2; have b2 := Tryz.thruB b1 hb2; obtain ⟨ae0, ae1, -, -⟩ := Tryz.cells2 a2; obtain ⟨be0, be1, -, -⟩ := Tryz.cells2 b2; obtain ⟨qe0, qe1, -, -⟩ := Tryz.cells2 q2; have hg2 := Tryz.GR_below hg hB2; clear ac0 ac1 bc0 bc1))
    go_wp2_with (first | (go_at_call 7; refine (his _ hg2).mono ?_; rintro e w3 ⟨rfl, hb3⟩; have hB3 := hB2.trans (hb3.mono hB2.size); have hg3 := Tryz.GR_below hg hB3) | (go_at_call 8; refine (Tryz.awake _ hg2).mono ?_; rintro e w9 ⟨rfl, hb9⟩; have hB9 := hB2.trans (hb9.mono hB2.size)))
    go_ret
    exact ⟨rfl, hB9⟩
  cases hm : isM m with
  | false =>
    have his := fun w hg => Tryz.c_is08 m hm0 w hg
    rw [hm] at his
    have x0 : (cls f a == 0) = false := by simpa using hx0
    have y0 : (cls f b == 0) = false := by simpa using hy0
    go_enter Tryz.func3, Tryz.ntmps3
    go_wp2
    go_region_held3 (fun w' : World => w'.cell? ⟨w.heap.size + 1, 0, none⟩ = some (.int .u64 (hiR a)) ∧ w'.cell? ⟨w.heap.size + 1, 1, none⟩ = some (.int .u64 (loR a)) ∧ w'.cell? ⟨w.heap.size + 1 + 1, 0, none⟩ = some (.int .u64 (hiR b)) ∧ w'.cell? ⟨w.heap.size + 1 + 1, 1, none⟩ = some (.int .u64 (loR b))) (first | with_reducible exact ⟨ac0, ac1, bc0, bc1⟩ | exact ⟨ac0, ac1, bc0, bc1⟩ | with_reducible exact ⟨ad0, ad1, bd0, bd1⟩ | with_reducible exact ⟨ae0, ae1, be0, be1⟩) (first | (go_at_call_of 6 (hiR a); refine (hca (((w.alloc (.cells #[.int .i64 f, .int .i64 m] 22)).alloc (.cells #[.int .u64 (hiR (a)), .int .u64 (loR (a))] 25)).alloc (.cells #[.int .u64 (hiR (b)), .int .u64 (loR (b))] 25)).drew (Tryz.GR_below hg hb0.drew)).mono ?_; rintro e w1 ⟨rfl, hb1⟩; have hB1 := hb0.drew.trans (hb1.mono hb0.size); have q1 := Tryz.thruB (Tryz.in_drew q0) hb1; have a1 := Tryz.thruB (Tryz.in_drew a0) hb1; have b1 := Tryz.thruB (Tryz.in_drew b0) hb1; obtain ⟨ad0, ad1, -, -⟩ := Tryz.cells2 a1; obtain ⟨bd0, bd1, -, -⟩ := Tryz.cells2 b1) | (go_at_call_of 6 (hiR b); refine (hcb _ (Tryz.GR_below hg hB1)).mono ?_; rintro e w2 ⟨rfl, hb2⟩; have hB2 := hB1.trans (hb2.mono hB1.size); have q2 := Tryz.thruB q1 hb2; have a2 := Tryz.thruB a1 hb2; have b2 := Tryz.thruB b1 hb2; obtain ⟨ae0, ae1, -, -⟩ := Tryz.cells2 a2; obtain ⟨be0, be1, -, -⟩ := Tryz.cells2 b2; obtain ⟨qe0, qe1, -, -⟩ := Tryz.cells2 q2; have hg2 := Tryz.GR_below hg hB2; clear ac0 ac1 bc0 bc1))
    go_wp2_with (first | (go_at_call 7; refine (his _ hg2).mono ?_; rintro e w3 ⟨rfl, hb3⟩; have hB3 := hB2.trans (hb3.mono hB2.size); have hg3 := Tryz.GR_below hg hB3) | (go_at_call 8; refine (Tryz.awake _ hg3).mono ?_; rintro e w9 ⟨rfl, hb9⟩; have hB9 := hB3.trans (hb9.mono hB3.size)))
    go_ret
    exact ⟨rfl, hB9⟩
  | true =>
    have his := fun w hg => Tryz.c_is08 m hm0 w hg
    rw [hm] at his
    have fit : ∀ w : BitVec 128, cls f w ≠ 0 → fFits f w = true := fun w hw => by
      cases e : fFits f w with
      | true => rfl
      | false => unfold cls at hw; rw [e] at hw; simp at hw
    have hA := fit a hx0
    have hB := fit b hy0
    obtain ⟨hf, _⟩ := fits_lt hA
    have ca := cls_rng f a
    have cb := cls_rng f b
    have hda : ∀ U s, Go.LE.look globs s = none → ∀ W, FpuAt U s W → GR globs none' W → Calls Tryz.prog 10 #[.pointer (some ⟨U, 0, none⟩), .int .i64 f, .int .i64 m, .agg #[.int .u64 (hiR a), .int .u64 (loR a)], .agg #[.int .u64 (hiR b), .int .u64 (loR b)]] W fun e W' => e = .returned (.tuple #[.agg #[.int .u64 (hiR (dvW f m a b)), .int .u64 (loR (dvW f m a b))], .int .i64 (dvX f m a b)]) ∧ SetAt s W' ∧ Kept s W W' := fun U s hsg W hF0 hG => Tryz.fpu_Div U s hF0.ne hsg f m hf0 hm0 a b hA hB hm W hF0.at_ hG hF0.set
    have hsq : ∀ U s, Go.LE.look globs s = none → ∀ W, FpuAt U s W → GR globs none' W → Calls Tryz.prog 11 #[.pointer (some ⟨U, 0, none⟩), .int .i64 f, .int .i64 m, .agg #[.int .u64 (hiR a), .int .u64 (loR a)]] W fun e W' => e = .returned (.tuple #[.agg #[.int .u64 (hiR (sqW f m a)), .int .u64 (loR (sqW f m a))], .int .i64 (sqX f m a)]) ∧ SetAt s W' ∧ Kept s W W' := fun U s hsg W hF0 hG => Tryz.fpu_Sqrt U s hF0.ne hsg f m hf0 hm0 a hA hm W hF0.at_ hG hF0.set
    by_cases hx : cls f a = 1
    · have hqa := fun w hg => Tryz.c_quiet f a (.inl hx) hf0 w hg
      obtain ⟨v1, v2⟩ := dv_nan (m := m) hA hB (.inl (by omega))
      obtain ⟨v3, v4⟩ := sq_nan (m := m) hA (by omega)
      rw [if_pos (by omega)] at v1
      rw [if_pos (by omega)] at v2
      replace v4 : sqX f m a = 1 := by rw [v4]; omega
      rw [v1, v2] at hda
      rw [v3, v4] at hsq
      rw [hx] at hca
      clear v1 v2 v3 v4 ca cb
      have e8 := Tryz.neq25 (qW f a) (qW f a)
      have e9 := Tryz.eq25 (qW f a) (qW f a)
      simp only [decide_true, Bool.not_true] at e8 e9
      have y0 : (cls f b == 0) = false := by simpa using hy0
      go_enter Tryz.func3, Tryz.ntmps3
      go_wp2
      go_region_held3 (fun w' : World => w'.cell? ⟨w.heap.size + 1, 0, none⟩ = some (.int .u64 (hiR a)) ∧ w'.cell? ⟨w.heap.size + 1, 1, none⟩ = some (.int .u64 (loR a)) ∧ w'.cell? ⟨w.heap.size + 1 + 1, 0, none⟩ = some (.int .u64 (hiR b)) ∧ w'.cell? ⟨w.heap.size + 1 + 1, 1, none⟩ = some (.int .u64 (loR b))) (first | with_reducible exact ⟨ac0, ac1, bc0, bc1⟩ | exact ⟨ac0, ac1, bc0, bc1⟩ | with_reducible exact ⟨ad0, ad1, bd0, bd1⟩ | with_reducible exact ⟨ae0, ae1, be0, be1⟩) (first | (go_at_call_of 6 (hiR a); refine (hca (((w.alloc (.cells #[.int .i64 f, .int .i64 m] 22)).alloc (.cells #[.int .u64 (hiR (a)), .int .u64 (loR (a))] 25)).alloc (.cells #[.int .u64 (hiR (b)), .int .u64 (loR (b))] 25)).drew (Tryz.GR_below hg hb0.drew)).mono ?_; rintro e w1 ⟨rfl, hb1⟩; have hB1 := hb0.drew.trans (hb1.mono hb0.size); have q1 := Tryz.thruB (Tryz.in_drew q0) hb1; have a1 := Tryz.thruB (Tryz.in_drew a0) hb1; have b1 := Tryz.thruB (Tryz.in_drew b0) hb1; obtain ⟨ad0, ad1, -, -⟩ := Tryz.cells2 a1; obtain ⟨bd0, bd1, -, -⟩ := Tryz.cells2 b1) | (go_at_call_of 6 (hiR b); refine (hcb _ (Tryz.GR_below hg hB1)).mono ?_; rintro e w2 ⟨rfl, hb2⟩; have hB2 := hB1.trans (hb2.mono hB1.size); have q2 := Tryz.thruB q1 hb2; have a2 := Tryz.thruB a1 hb2; have b2 := Tryz.thruB b1 hb2; obtain ⟨ae0, ae1, -, -⟩ := Tryz.cells2 a2; obtain ⟨be0, be1, -, -⟩ := Tryz.cells2 b2; obtain ⟨qe0, qe1, -, -⟩ := Tryz.cells2 q2; have hg2 := Tryz.GR_below hg hB2; clear ac0 ac1 bc0 bc1))
      go_wp2_with (first | (go_at_call 7; refine (his _ hg2).mono ?_; rintro e w3 ⟨rfl, hb3⟩; have hB3 := hB2.trans (hb3.mono hB2.size); have hg3 := Tryz.GR_below hg hB3; have n2 := hB2.size; have n3 := hb3.size; have q3 := Tryz.thruB q2 hb3; have a3 := Tryz.thruB a2 hb3; have b3 := Tryz.thruB b2 hb3; have hsg := Tryz.GR_off hg3 (s := w3.heap.size + 1) (by omega); have l3 := Tryz.lt_of b3) | (go_at_call 9; refine (Tryz.fpu_new _).mono ?_; rintro e w4 ⟨rfl, hF4, hb4⟩; have hB4 := hB3.trans (hb4.mono hB3.size); have hg4 := Tryz.GR_below hg hB4; have l4 := Tryz.lt_of hF4.at_; have n4 := hB3.size; have q4 := Tryz.thruB q3 hb4; have a4 := Tryz.thruB a3 hb4; have b4 := Tryz.thruB b3 hb4; obtain ⟨qf0, qf1, -, -⟩ := Tryz.cells2 q4; obtain ⟨af0, af1, -, -⟩ := Tryz.cells2 a4; obtain ⟨bf0, bf1, -, -⟩ := Tryz.cells2 b4) | (go_at_call 10; refine (hda _ _ hsg _ hF4 hg4).mono ?_; rintro e w5 ⟨rfl, hs5, hk5⟩; have q5 := Tryz.up (Tryz.thru q4 hk5 (by omega)) (.cells #[.int .u64 (hiR (qW f a)), .int .u64 (loR (qW f a))] 25); have a5 := Tryz.up (Tryz.thru a4 hk5 (by omega)) (.cells #[.int .u64 (hiR (qW f a)), .int .u64 (loR (qW f a))] 25); have b5 := Tryz.up (Tryz.thru b4 hk5 (by omega)) (.cells #[.int .u64 (hiR (qW f a)), .int .u64 (loR (qW f a))] 25); have x5 := World.alloc_heap_new w5 (.cells #[.int .u64 (hiR (qW f a)), .int .u64 (loR (qW f a))] 25); have hF5 := (hF4.kept hk5 hs5).alloc (.cells #[.int .u64 (hiR (qW f a)), .int .u64 (loR (qW f a))] 25); have hB5 : Below w.heap.size w (w5.alloc (.cells #[.int .u64 (hiR (qW f a)), .int .u64 (loR (qW f a))] 25)) := hB4.trans ((hk5.alloc _).below (by omega) hB4.size); have hg5 := Tryz.GR_below hg hB5; have n5 := hk5.size; have n5' := hB4.size; obtain ⟨qg0, qg1, -, -⟩ := Tryz.cells2 q5; obtain ⟨ag0, ag1, -, -⟩ := Tryz.cells2 a5; obtain ⟨bg0, bg1, -, -⟩ := Tryz.cells2 b5) | (go_at_call 11; refine (hsq _ _ hsg _ hF5 hg5).mono ?_; rintro e w6 ⟨rfl, hs6, hk6⟩; have q6 := Tryz.up (Tryz.thru q5 hk6 (by omega)) (.cells #[.int .u64 (hiR (qW f a)), .int .u64 (loR (qW f a))] 25); have a6 := Tryz.up (Tryz.thru a5 hk6 (by omega)) (.cells #[.int .u64 (hiR (qW f a)), .int .u64 (loR (qW f a))] 25); have b6 := Tryz.up (Tryz.thru b5 hk6 (by omega)) (.cells #[.int .u64 (hiR (qW f a)), .int .u64 (loR (qW f a))] 25); have x6 := Tryz.up (Tryz.thru x5 hk6 (by omega)) (.cells #[.int .u64 (hiR (qW f a)), .int .u64 (loR (qW f a))] 25); have y6 := World.alloc_heap_new w6 (.cells #[.int .u64 (hiR (qW f a)), .int .u64 (loR (qW f a))] 25); have hB6 : Below w.heap.size w (w6.alloc (.cells #[.int .u64 (hiR (qW f a)), .int .u64 (loR (qW f a))] 25)) := hB5.trans ((hk6.alloc _).below (by omega) hB5.size); have hg6 := Tryz.GR_below hg hB6; have n6 : w5.heap.size + 1 ≤ w6.heap.size := (by have := hk6.size; simpa using this); obtain ⟨ah0, ah1, -, -⟩ := Tryz.cells2 a6; obtain ⟨bh0, bh1, -, -⟩ := Tryz.cells2 b6; obtain ⟨xh0, xh1, -, -⟩ := Tryz.cells2 x6; obtain ⟨yh0, yh1, -, -⟩ := Tryz.cells2 y6))
      go_region_held3 (fun w' : World => w'.cell? ⟨w.heap.size + 1, 0, none⟩ = some (.int .u64 (hiR (a))) ∧ w'.cell? ⟨w.heap.size + 1, 1, none⟩ = some (.int .u64 (loR (a))) ∧ w'.cell? ⟨w6.heap.size, 0, none⟩ = some (.int .u64 (hiR (qW f a))) ∧ w'.cell? ⟨w6.heap.size, 1, none⟩ = some (.int .u64 (loR (qW f a)))) (first | with_reducible exact ⟨ah0, ah1, yh0, yh1⟩ | exact ⟨ah0, ah1, yh0, yh1⟩ | with_reducible exact ⟨ai0, ai1, yi0, yi1⟩) (first | (go_at_call 12; refine (hqa (w6.alloc (.cells #[.int .u64 (hiR (qW f a)), .int .u64 (loR (qW f a))] 25)).drew (Tryz.GR_below hg hB6.drew)).mono ?_; rintro e w7 ⟨rfl, hb7⟩; have hB7 := hB6.drew.trans (hb7.mono hB6.size); have q7 := Tryz.thruB (Tryz.in_drew q6) hb7; have a7 := Tryz.thruB (Tryz.in_drew a6) hb7; have b7 := Tryz.thruB (Tryz.in_drew b6) hb7; have x7 := Tryz.thruB (Tryz.in_drew x6) hb7; have y7 := Tryz.thruB (Tryz.in_drew y6) hb7; obtain ⟨ai0, ai1, -, -⟩ := Tryz.cells2 a7; obtain ⟨bi0, bi1, -, -⟩ := Tryz.cells2 b7; obtain ⟨xi0, xi1, -, -⟩ := Tryz.cells2 x7; obtain ⟨yi0, yi1, -, -⟩ := Tryz.cells2 y7; have a8 := Tryz.up a7 (.cells #[.int .u64 (hiR (b)), .int .u64 (loR (b))] 25); have x8 := Tryz.up x7 (.cells #[.int .u64 (hiR (b)), .int .u64 (loR (b))] 25); obtain ⟨aj0, aj1, -, -⟩ := Tryz.cells2 a8; obtain ⟨xj0, xj1, -, -⟩ := Tryz.cells2 x8))
      go_wp2
      have xk := Tryz.up x7 (.cells #[.int .u64 (hiR (a)), .int .u64 (loR (a))] 25)
      have tk := World.alloc_heap_new w7 (.cells #[.int .u64 (hiR (a)), .int .u64 (loR (a))] 25)
      have hBk : Below w.heap.size w (w7.alloc (.cells #[.int .u64 (hiR (a)), .int .u64 (loR (a))] 25)) := hB7.alloc (by have := hB7.size; omega) _
      obtain ⟨xa0, xa1, -, -⟩ := Tryz.cells2 xk
      obtain ⟨ta0, ta1, -, -⟩ := Tryz.cells2 tk
      go_region_held3 (fun w' : World => w'.cell? ⟨w5.heap.size, 0, none⟩ = some (.int .u64 (hiR (qW f a))) ∧ w'.cell? ⟨w5.heap.size, 1, none⟩ = some (.int .u64 (loR (qW f a))) ∧ w'.cell? ⟨w7.heap.size, 0, none⟩ = some (.int .u64 (hiR (a))) ∧ w'.cell? ⟨w7.heap.size, 1, none⟩ = some (.int .u64 (loR (a)))) (first | with_reducible exact ⟨xa0, xa1, ta0, ta1⟩ | exact ⟨xa0, xa1, ta0, ta1⟩ | with_reducible exact ⟨xb0, xb1, tb0, tb1⟩ | with_reducible exact ⟨xc0, xc1, tc0, tc1⟩) (first | (go_at_call 12; refine (hqa (w7.alloc (.cells #[.int .u64 (hiR (a)), .int .u64 (loR (a))] 25)).drew (Tryz.GR_below hg hBk.drew)).mono ?_; rintro e w8 ⟨rfl, hb8⟩; have hB8 := hBk.drew.trans (hb8.mono hBk.size); have xl := Tryz.thruB (Tryz.in_drew xk) hb8; have tl := Tryz.thruB (Tryz.in_drew tk) hb8; obtain ⟨xb0, xb1, -, -⟩ := Tryz.cells2 xl; obtain ⟨tb0, tb1, -, -⟩ := Tryz.cells2 tl) | (go_at_call 8; refine (Tryz.awake _ (Tryz.GR_below hg hB8)).mono ?_; rintro e w9 ⟨rfl, hb9⟩; have hB9 := hB8.trans (hb9.mono hB8.size); obtain ⟨xc0, xc1, -, -⟩ := Tryz.cells2 (Tryz.thruB xl hb9); obtain ⟨tc0, tc1, -, -⟩ := Tryz.cells2 (Tryz.thruB tl hb9)))
      go_wp2
      go_ret
      exact ⟨rfl, hB9⟩
    by_cases hx : cls f a = 2
    · by_cases hy : cls f b = 1
      · have hqa := fun w hg => Tryz.c_quiet f a (.inr hx) hf0 w hg
        obtain ⟨v1, v2⟩ := dv_nan (m := m) hA hB (.inl (by omega))
        obtain ⟨v3, v4⟩ := sq_nan (m := m) hA (by omega)
        rw [if_pos (by omega)] at v1
        rw [if_pos (by omega)] at v2
        replace v4 : sqX f m a = 0 := by rw [v4]; omega
        rw [v1, v2] at hda
        rw [v3, v4] at hsq
        rw [hx] at hca
        clear v1 v2 v3 v4 ca cb
        have e8 := Tryz.neq25 (qW f a) (qW f a)
        have e9 := Tryz.eq25 (qW f a) (qW f a)
        simp only [decide_true, Bool.not_true] at e8 e9
        rw [hy] at hcb
        go_enter Tryz.func3, Tryz.ntmps3
        go_wp2
        go_region_held3 (fun w' : World => w'.cell? ⟨w.heap.size + 1, 0, none⟩ = some (.int .u64 (hiR a)) ∧ w'.cell? ⟨w.heap.size + 1, 1, none⟩ = some (.int .u64 (loR a)) ∧ w'.cell? ⟨w.heap.size + 1 + 1, 0, none⟩ = some (.int .u64 (hiR b)) ∧ w'.cell? ⟨w.heap.size + 1 + 1, 1, none⟩ = some (.int .u64 (loR b))) (first | with_reducible exact ⟨ac0, ac1, bc0, bc1⟩ | exact ⟨ac0, ac1, bc0, bc1⟩ | with_reducible exact ⟨ad0, ad1, bd0, bd1⟩ | with_reducible exact ⟨ae0, ae1, be0, be1⟩) (first | (go_at_call_of 6 (hiR a); refine (hca (((w.alloc (.cells #[.int .i64 f, .int .i64 m] 22)).alloc (.cells #[.int .u64 (hiR (a)), .int .u64 (loR (a))] 25)).alloc (.cells #[.int .u64 (hiR (b)), .int .u64 (loR (b))] 25)).drew (Tryz.GR_below hg hb0.drew)).mono ?_; rintro e w1 ⟨rfl, hb1⟩; have hB1 := hb0.drew.trans (hb1.mono hb0.size); have q1 := Tryz.thruB (Tryz.in_drew q0) hb1; have a1 := Tryz.thruB (Tryz.in_drew a0) hb1; have b1 := Tryz.thruB (Tryz.in_drew b0) hb1; obtain ⟨ad0, ad1, -, -⟩ := Tryz.cells2 a1; obtain ⟨bd0, bd1, -, -⟩ := Tryz.cells2 b1) | (go_at_call_of 6 (hiR b); refine (hcb _ (Tryz.GR_below hg hB1)).mono ?_; rintro e w2 ⟨rfl, hb2⟩; have hB2 := hB1.trans (hb2.mono hB1.size); have q2 := Tryz.thruB q1 hb2; have a2 := Tryz.thruB a1 hb2; have b2 := Tryz.thruB b1 hb2; obtain ⟨ae0, ae1, -, -⟩ := Tryz.cells2 a2; obtain ⟨be0, be1, -, -⟩ := Tryz.cells2 b2; obtain ⟨qe0, qe1, -, -⟩ := Tryz.cells2 q2; have hg2 := Tryz.GR_below hg hB2; clear ac0 ac1 bc0 bc1))
        go_wp2_with (first | (go_at_call 7; refine (his _ hg2).mono ?_; rintro e w3 ⟨rfl, hb3⟩; have hB3 := hB2.trans (hb3.mono hB2.size); have hg3 := Tryz.GR_below hg hB3; have n2 := hB2.size; have n3 := hb3.size; have q3 := Tryz.thruB q2 hb3; have a3 := Tryz.thruB a2 hb3; have b3 := Tryz.thruB b2 hb3; have hsg := Tryz.GR_off hg3 (s := w3.heap.size + 1) (by omega); have l3 := Tryz.lt_of b3) | (go_at_call 9; refine (Tryz.fpu_new _).mono ?_; rintro e w4 ⟨rfl, hF4, hb4⟩; have hB4 := hB3.trans (hb4.mono hB3.size); have hg4 := Tryz.GR_below hg hB4; have l4 := Tryz.lt_of hF4.at_; have n4 := hB3.size; have q4 := Tryz.thruB q3 hb4; have a4 := Tryz.thruB a3 hb4; have b4 := Tryz.thruB b3 hb4; obtain ⟨qf0, qf1, -, -⟩ := Tryz.cells2 q4; obtain ⟨af0, af1, -, -⟩ := Tryz.cells2 a4; obtain ⟨bf0, bf1, -, -⟩ := Tryz.cells2 b4) | (go_at_call 10; refine (hda _ _ hsg _ hF4 hg4).mono ?_; rintro e w5 ⟨rfl, hs5, hk5⟩; have q5 := Tryz.up (Tryz.thru q4 hk5 (by omega)) (.cells #[.int .u64 (hiR (qW f a)), .int .u64 (loR (qW f a))] 25); have a5 := Tryz.up (Tryz.thru a4 hk5 (by omega)) (.cells #[.int .u64 (hiR (qW f a)), .int .u64 (loR (qW f a))] 25); have b5 := Tryz.up (Tryz.thru b4 hk5 (by omega)) (.cells #[.int .u64 (hiR (qW f a)), .int .u64 (loR (qW f a))] 25); have x5 := World.alloc_heap_new w5 (.cells #[.int .u64 (hiR (qW f a)), .int .u64 (loR (qW f a))] 25); have hF5 := (hF4.kept hk5 hs5).alloc (.cells #[.int .u64 (hiR (qW f a)), .int .u64 (loR (qW f a))] 25); have hB5 : Below w.heap.size w (w5.alloc (.cells #[.int .u64 (hiR (qW f a)), .int .u64 (loR (qW f a))] 25)) := hB4.trans ((hk5.alloc _).below (by omega) hB4.size); have hg5 := Tryz.GR_below hg hB5; have n5 := hk5.size; have n5' := hB4.size; obtain ⟨qg0, qg1, -, -⟩ := Tryz.cells2 q5; obtain ⟨ag0, ag1, -, -⟩ := Tryz.cells2 a5; obtain ⟨bg0, bg1, -, -⟩ := Tryz.cells2 b5) | (go_at_call 11; refine (hsq _ _ hsg _ hF5 hg5).mono ?_; rintro e w6 ⟨rfl, hs6, hk6⟩; have q6 := Tryz.up (Tryz.thru q5 hk6 (by omega)) (.cells #[.int .u64 (hiR (qW f a)), .int .u64 (loR (qW f a))] 25); have a6 := Tryz.up (Tryz.thru a5 hk6 (by omega)) (.cells #[.int .u64 (hiR (qW f a)), .int .u64 (loR (qW f a))] 25); have b6 := Tryz.up (Tryz.thru b5 hk6 (by omega)) (.cells #[.int .u64 (hiR (qW f a)), .int .u64 (loR (qW f a))] 25); have x6 := Tryz.up (Tryz.thru x5 hk6 (by omega)) (.cells #[.int .u64 (hiR (qW f a)), .int .u64 (loR (qW f a))] 25); have y6 := World.alloc_heap_new w6 (.cells #[.int .u64 (hiR (qW f a)), .int .u64 (loR (qW f a))] 25); have hB6 : Below w.heap.size w (w6.alloc (.cells #[.int .u64 (hiR (qW f a)), .int .u64 (loR (qW f a))] 25)) := hB5.trans ((hk6.alloc _).below (by omega) hB5.size); have hg6 := Tryz.GR_below hg hB6; have n6 : w5.heap.size + 1 ≤ w6.heap.size := (by have := hk6.size; simpa using this); obtain ⟨ah0, ah1, -, -⟩ := Tryz.cells2 a6; obtain ⟨bh0, bh1, -, -⟩ := Tryz.cells2 b6; obtain ⟨xh0, xh1, -, -⟩ := Tryz.cells2 x6; obtain ⟨yh0, yh1, -, -⟩ := Tryz.cells2 y6))
        go_region_held3 (fun w' : World => w'.cell? ⟨w.heap.size + 1, 0, none⟩ = some (.int .u64 (hiR (a))) ∧ w'.cell? ⟨w.heap.size + 1, 1, none⟩ = some (.int .u64 (loR (a))) ∧ w'.cell? ⟨w6.heap.size, 0, none⟩ = some (.int .u64 (hiR (qW f a))) ∧ w'.cell? ⟨w6.heap.size, 1, none⟩ = some (.int .u64 (loR (qW f a)))) (first | with_reducible exact ⟨ah0, ah1, yh0, yh1⟩ | exact ⟨ah0, ah1, yh0, yh1⟩ | with_reducible exact ⟨ai0, ai1, yi0, yi1⟩) (first | (go_at_call 12; refine (hqa (w6.alloc (.cells #[.int .u64 (hiR (qW f a)), .int .u64 (loR (qW f a))] 25)).drew (Tryz.GR_below hg hB6.drew)).mono ?_; rintro e w7 ⟨rfl, hb7⟩; have hB7 := hB6.drew.trans (hb7.mono hB6.size); have q7 := Tryz.thruB (Tryz.in_drew q6) hb7; have a7 := Tryz.thruB (Tryz.in_drew a6) hb7; have b7 := Tryz.thruB (Tryz.in_drew b6) hb7; have x7 := Tryz.thruB (Tryz.in_drew x6) hb7; have y7 := Tryz.thruB (Tryz.in_drew y6) hb7; obtain ⟨ai0, ai1, -, -⟩ := Tryz.cells2 a7; obtain ⟨bi0, bi1, -, -⟩ := Tryz.cells2 b7; obtain ⟨xi0, xi1, -, -⟩ := Tryz.cells2 x7; obtain ⟨yi0, yi1, -, -⟩ := Tryz.cells2 y7; have a8 := Tryz.up a7 (.cells #[.int .u64 (hiR (b)), .int .u64 (loR (b))] 25); have x8 := Tryz.up x7 (.cells #[.int .u64 (hiR (b)), .int .u64 (loR (b))] 25); obtain ⟨aj0, aj1, -, -⟩ := Tryz.cells2 a8; obtain ⟨xj0, xj1, -, -⟩ := Tryz.cells2 x8))
        go_wp2
        have xk := Tryz.up x7 (.cells #[.int .u64 (hiR (a)), .int .u64 (loR (a))] 25)
        have tk := World.alloc_heap_new w7 (.cells #[.int .u64 (hiR (a)), .int .u64 (loR (a))] 25)
        have hBk : Below w.heap.size w (w7.alloc (.cells #[.int .u64 (hiR (a)), .int .u64 (loR (a))] 25)) := hB7.alloc (by have := hB7.size; omega) _
        obtain ⟨xa0, xa1, -, -⟩ := Tryz.cells2 xk
        obtain ⟨ta0, ta1, -, -⟩ := Tryz.cells2 tk
        go_region_held3 (fun w' : World => w'.cell? ⟨w5.heap.size, 0, none⟩ = some (.int .u64 (hiR (qW f a))) ∧ w'.cell? ⟨w5.heap.size, 1, none⟩ = some (.int .u64 (loR (qW f a))) ∧ w'.cell? ⟨w7.heap.size, 0, none⟩ = some (.int .u64 (hiR (a))) ∧ w'.cell? ⟨w7.heap.size, 1, none⟩ = some (.int .u64 (loR (a)))) (first | with_reducible exact ⟨xa0, xa1, ta0, ta1⟩ | exact ⟨xa0, xa1, ta0, ta1⟩ | with_reducible exact ⟨xb0, xb1, tb0, tb1⟩ | with_reducible exact ⟨xc0, xc1, tc0, tc1⟩) (first | (go_at_call 12; refine (hqa (w7.alloc (.cells #[.int .u64 (hiR (a)), .int .u64 (loR (a))] 25)).drew (Tryz.GR_below hg hBk.drew)).mono ?_; rintro e w8 ⟨rfl, hb8⟩; have hB8 := hBk.drew.trans (hb8.mono hBk.size); have xl := Tryz.thruB (Tryz.in_drew xk) hb8; have tl := Tryz.thruB (Tryz.in_drew tk) hb8; obtain ⟨xb0, xb1, -, -⟩ := Tryz.cells2 xl; obtain ⟨tb0, tb1, -, -⟩ := Tryz.cells2 tl) | (go_at_call 8; refine (Tryz.awake _ (Tryz.GR_below hg hB8)).mono ?_; rintro e w9 ⟨rfl, hb9⟩; have hB9 := hB8.trans (hb9.mono hB8.size); obtain ⟨xc0, xc1, -, -⟩ := Tryz.cells2 (Tryz.thruB xl hb9); obtain ⟨tc0, tc1, -, -⟩ := Tryz.cells2 (Tryz.thruB tl hb9)))
        go_wp2
        go_ret
        exact ⟨rfl, hB9⟩
      · have hqa := fun w hg => Tryz.c_quiet f a (.inr hx) hf0 w hg
        obtain ⟨v1, v2⟩ := dv_nan (m := m) hA hB (.inl (by omega))
        obtain ⟨v3, v4⟩ := sq_nan (m := m) hA (by omega)
        rw [if_pos (by omega)] at v1
        rw [if_neg (by omega)] at v2
        replace v4 : sqX f m a = 0 := by rw [v4]; omega
        rw [v1, v2] at hda
        rw [v3, v4] at hsq
        rw [hx] at hca
        clear v1 v2 v3 v4 ca cb
        have e8 := Tryz.neq25 (qW f a) (qW f a)
        have e9 := Tryz.eq25 (qW f a) (qW f a)
        simp only [decide_true, Bool.not_true] at e8 e9
        have y0 : (cls f b == 0) = false := by simpa using hy0
        have y1 : (cls f b == 1) = false := by simpa using hy
        go_enter Tryz.func3, Tryz.ntmps3
        go_wp2
        go_region_held3 (fun w' : World => w'.cell? ⟨w.heap.size + 1, 0, none⟩ = some (.int .u64 (hiR a)) ∧ w'.cell? ⟨w.heap.size + 1, 1, none⟩ = some (.int .u64 (loR a)) ∧ w'.cell? ⟨w.heap.size + 1 + 1, 0, none⟩ = some (.int .u64 (hiR b)) ∧ w'.cell? ⟨w.heap.size + 1 + 1, 1, none⟩ = some (.int .u64 (loR b))) (first | with_reducible exact ⟨ac0, ac1, bc0, bc1⟩ | exact ⟨ac0, ac1, bc0, bc1⟩ | with_reducible exact ⟨ad0, ad1, bd0, bd1⟩ | with_reducible exact ⟨ae0, ae1, be0, be1⟩) (first | (go_at_call_of 6 (hiR a); refine (hca (((w.alloc (.cells #[.int .i64 f, .int .i64 m] 22)).alloc (.cells #[.int .u64 (hiR (a)), .int .u64 (loR (a))] 25)).alloc (.cells #[.int .u64 (hiR (b)), .int .u64 (loR (b))] 25)).drew (Tryz.GR_below hg hb0.drew)).mono ?_; rintro e w1 ⟨rfl, hb1⟩; have hB1 := hb0.drew.trans (hb1.mono hb0.size); have q1 := Tryz.thruB (Tryz.in_drew q0) hb1; have a1 := Tryz.thruB (Tryz.in_drew a0) hb1; have b1 := Tryz.thruB (Tryz.in_drew b0) hb1; obtain ⟨ad0, ad1, -, -⟩ := Tryz.cells2 a1; obtain ⟨bd0, bd1, -, -⟩ := Tryz.cells2 b1) | (go_at_call_of 6 (hiR b); refine (hcb _ (Tryz.GR_below hg hB1)).mono ?_; rintro e w2 ⟨rfl, hb2⟩; have hB2 := hB1.trans (hb2.mono hB1.size); have q2 := Tryz.thruB q1 hb2; have a2 := Tryz.thruB a1 hb2; have b2 := Tryz.thruB b1 hb2; obtain ⟨ae0, ae1, -, -⟩ := Tryz.cells2 a2; obtain ⟨be0, be1, -, -⟩ := Tryz.cells2 b2; obtain ⟨qe0, qe1, -, -⟩ := Tryz.cells2 q2; have hg2 := Tryz.GR_below hg hB2; clear ac0 ac1 bc0 bc1))
        go_wp2_with (first | (go_at_call 7; refine (his _ hg2).mono ?_; rintro e w3 ⟨rfl, hb3⟩; have hB3 := hB2.trans (hb3.mono hB2.size); have hg3 := Tryz.GR_below hg hB3; have n2 := hB2.size; have n3 := hb3.size; have q3 := Tryz.thruB q2 hb3; have a3 := Tryz.thruB a2 hb3; have b3 := Tryz.thruB b2 hb3; have hsg := Tryz.GR_off hg3 (s := w3.heap.size + 1) (by omega); have l3 := Tryz.lt_of b3) | (go_at_call 9; refine (Tryz.fpu_new _).mono ?_; rintro e w4 ⟨rfl, hF4, hb4⟩; have hB4 := hB3.trans (hb4.mono hB3.size); have hg4 := Tryz.GR_below hg hB4; have l4 := Tryz.lt_of hF4.at_; have n4 := hB3.size; have q4 := Tryz.thruB q3 hb4; have a4 := Tryz.thruB a3 hb4; have b4 := Tryz.thruB b3 hb4; obtain ⟨qf0, qf1, -, -⟩ := Tryz.cells2 q4; obtain ⟨af0, af1, -, -⟩ := Tryz.cells2 a4; obtain ⟨bf0, bf1, -, -⟩ := Tryz.cells2 b4) | (go_at_call 10; refine (hda _ _ hsg _ hF4 hg4).mono ?_; rintro e w5 ⟨rfl, hs5, hk5⟩; have q5 := Tryz.up (Tryz.thru q4 hk5 (by omega)) (.cells #[.int .u64 (hiR (qW f a)), .int .u64 (loR (qW f a))] 25); have a5 := Tryz.up (Tryz.thru a4 hk5 (by omega)) (.cells #[.int .u64 (hiR (qW f a)), .int .u64 (loR (qW f a))] 25); have b5 := Tryz.up (Tryz.thru b4 hk5 (by omega)) (.cells #[.int .u64 (hiR (qW f a)), .int .u64 (loR (qW f a))] 25); have x5 := World.alloc_heap_new w5 (.cells #[.int .u64 (hiR (qW f a)), .int .u64 (loR (qW f a))] 25); have hF5 := (hF4.kept hk5 hs5).alloc (.cells #[.int .u64 (hiR (qW f a)), .int .u64 (loR (qW f a))] 25); have hB5 : Below w.heap.size w (w5.alloc (.cells #[.int .u64 (hiR (qW f a)), .int .u64 (loR (qW f a))] 25)) := hB4.trans ((hk5.alloc _).below (by omega) hB4.size); have hg5 := Tryz.GR_below hg hB5; have n5 := hk5.size; have n5' := hB4.size; obtain ⟨qg0, qg1, -, -⟩ := Tryz.cells2 q5; obtain ⟨ag0, ag1, -, -⟩ := Tryz.cells2 a5; obtain ⟨bg0, bg1, -, -⟩ := Tryz.cells2 b5) | (go_at_call 11; refine (hsq _ _ hsg _ hF5 hg5).mono ?_; rintro e w6 ⟨rfl, hs6, hk6⟩; have q6 := Tryz.up (Tryz.thru q5 hk6 (by omega)) (.cells #[.int .u64 (hiR (qW f a)), .int .u64 (loR (qW f a))] 25); have a6 := Tryz.up (Tryz.thru a5 hk6 (by omega)) (.cells #[.int .u64 (hiR (qW f a)), .int .u64 (loR (qW f a))] 25); have b6 := Tryz.up (Tryz.thru b5 hk6 (by omega)) (.cells #[.int .u64 (hiR (qW f a)), .int .u64 (loR (qW f a))] 25); have x6 := Tryz.up (Tryz.thru x5 hk6 (by omega)) (.cells #[.int .u64 (hiR (qW f a)), .int .u64 (loR (qW f a))] 25); have y6 := World.alloc_heap_new w6 (.cells #[.int .u64 (hiR (qW f a)), .int .u64 (loR (qW f a))] 25); have hB6 : Below w.heap.size w (w6.alloc (.cells #[.int .u64 (hiR (qW f a)), .int .u64 (loR (qW f a))] 25)) := hB5.trans ((hk6.alloc _).below (by omega) hB5.size); have hg6 := Tryz.GR_below hg hB6; have n6 : w5.heap.size + 1 ≤ w6.heap.size := (by have := hk6.size; simpa using this); obtain ⟨ah0, ah1, -, -⟩ := Tryz.cells2 a6; obtain ⟨bh0, bh1, -, -⟩ := Tryz.cells2 b6; obtain ⟨xh0, xh1, -, -⟩ := Tryz.cells2 x6; obtain ⟨yh0, yh1, -, -⟩ := Tryz.cells2 y6))
        go_region_held3 (fun w' : World => w'.cell? ⟨w.heap.size + 1, 0, none⟩ = some (.int .u64 (hiR (a))) ∧ w'.cell? ⟨w.heap.size + 1, 1, none⟩ = some (.int .u64 (loR (a))) ∧ w'.cell? ⟨w6.heap.size, 0, none⟩ = some (.int .u64 (hiR (qW f a))) ∧ w'.cell? ⟨w6.heap.size, 1, none⟩ = some (.int .u64 (loR (qW f a)))) (first | with_reducible exact ⟨ah0, ah1, yh0, yh1⟩ | exact ⟨ah0, ah1, yh0, yh1⟩ | with_reducible exact ⟨ai0, ai1, yi0, yi1⟩) (first | (go_at_call 12; refine (hqa (w6.alloc (.cells #[.int .u64 (hiR (qW f a)), .int .u64 (loR (qW f a))] 25)).drew (Tryz.GR_below hg hB6.drew)).mono ?_; rintro e w7 ⟨rfl, hb7⟩; have hB7 := hB6.drew.trans (hb7.mono hB6.size); have q7 := Tryz.thruB (Tryz.in_drew q6) hb7; have a7 := Tryz.thruB (Tryz.in_drew a6) hb7; have b7 := Tryz.thruB (Tryz.in_drew b6) hb7; have x7 := Tryz.thruB (Tryz.in_drew x6) hb7; have y7 := Tryz.thruB (Tryz.in_drew y6) hb7; obtain ⟨ai0, ai1, -, -⟩ := Tryz.cells2 a7; obtain ⟨bi0, bi1, -, -⟩ := Tryz.cells2 b7; obtain ⟨xi0, xi1, -, -⟩ := Tryz.cells2 x7; obtain ⟨yi0, yi1, -, -⟩ := Tryz.cells2 y7; have a8 := Tryz.up a7 (.cells #[.int .u64 (hiR (b)), .int .u64 (loR (b))] 25); have x8 := Tryz.up x7 (.cells #[.int .u64 (hiR (b)), .int .u64 (loR (b))] 25); obtain ⟨aj0, aj1, -, -⟩ := Tryz.cells2 a8; obtain ⟨xj0, xj1, -, -⟩ := Tryz.cells2 x8))
        go_wp2
        have xk := Tryz.up x7 (.cells #[.int .u64 (hiR (a)), .int .u64 (loR (a))] 25)
        have tk := World.alloc_heap_new w7 (.cells #[.int .u64 (hiR (a)), .int .u64 (loR (a))] 25)
        have hBk : Below w.heap.size w (w7.alloc (.cells #[.int .u64 (hiR (a)), .int .u64 (loR (a))] 25)) := hB7.alloc (by have := hB7.size; omega) _
        obtain ⟨xa0, xa1, -, -⟩ := Tryz.cells2 xk
        obtain ⟨ta0, ta1, -, -⟩ := Tryz.cells2 tk
        go_region_held3 (fun w' : World => w'.cell? ⟨w5.heap.size, 0, none⟩ = some (.int .u64 (hiR (qW f a))) ∧ w'.cell? ⟨w5.heap.size, 1, none⟩ = some (.int .u64 (loR (qW f a))) ∧ w'.cell? ⟨w7.heap.size, 0, none⟩ = some (.int .u64 (hiR (a))) ∧ w'.cell? ⟨w7.heap.size, 1, none⟩ = some (.int .u64 (loR (a)))) (first | with_reducible exact ⟨xa0, xa1, ta0, ta1⟩ | exact ⟨xa0, xa1, ta0, ta1⟩ | with_reducible exact ⟨xb0, xb1, tb0, tb1⟩ | with_reducible exact ⟨xc0, xc1, tc0, tc1⟩) (first | (go_at_call 12; refine (hqa (w7.alloc (.cells #[.int .u64 (hiR (a)), .int .u64 (loR (a))] 25)).drew (Tryz.GR_below hg hBk.drew)).mono ?_; rintro e w8 ⟨rfl, hb8⟩; have hB8 := hBk.drew.trans (hb8.mono hBk.size); have xl := Tryz.thruB (Tryz.in_drew xk) hb8; have tl := Tryz.thruB (Tryz.in_drew tk) hb8; obtain ⟨xb0, xb1, -, -⟩ := Tryz.cells2 xl; obtain ⟨tb0, tb1, -, -⟩ := Tryz.cells2 tl) | (go_at_call 8; refine (Tryz.awake _ (Tryz.GR_below hg hB8)).mono ?_; rintro e w9 ⟨rfl, hb9⟩; have hB9 := hB8.trans (hb9.mono hB8.size); obtain ⟨xc0, xc1, -, -⟩ := Tryz.cells2 (Tryz.thruB xl hb9); obtain ⟨tc0, tc1, -, -⟩ := Tryz.cells2 (Tryz.thruB tl hb9)))
        go_wp2
        go_ret
        exact ⟨rfl, hB9⟩
    by_cases hy : cls f b = 1
    · have hqa := fun w hg => Tryz.c_quiet f b (.inl hy) hf0 w hg
      obtain ⟨v1, v2⟩ := dv_nan (m := m) hA hB (.inr (by omega))
      rw [if_neg (by omega)] at v1
      rw [if_pos (by omega)] at v2
      rw [v1, v2] at hda
      rw [hy] at hcb
      have xx0 : (cls f a == 0) = false := by simp; omega
      have xx1 : (cls f a == 1) = false := by simp; omega
      have xx3 : decide (cls f a < 3) = false := by simp; omega
      clear v1 v2 ca cb
      have e9 := Tryz.eq25 (qW f b) (qW f b)
      simp only [decide_true] at e9
      generalize hSW : sqW f m a = SW at hsq
      generalize hSX : sqX f m a = SX at hsq
      go_enter Tryz.func3, Tryz.ntmps3
      go_wp2
      go_region_held3 (fun w' : World => w'.cell? ⟨w.heap.size + 1, 0, none⟩ = some (.int .u64 (hiR a)) ∧ w'.cell? ⟨w.heap.size + 1, 1, none⟩ = some (.int .u64 (loR a)) ∧ w'.cell? ⟨w.heap.size + 1 + 1, 0, none⟩ = some (.int .u64 (hiR b)) ∧ w'.cell? ⟨w.heap.size + 1 + 1, 1, none⟩ = some (.int .u64 (loR b))) (first | with_reducible exact ⟨ac0, ac1, bc0, bc1⟩ | exact ⟨ac0, ac1, bc0, bc1⟩ | with_reducible exact ⟨ad0, ad1, bd0, bd1⟩ | with_reducible exact ⟨ae0, ae1, be0, be1⟩) (first | (go_at_call_of 6 (hiR a); refine (hca (((w.alloc (.cells #[.int .i64 f, .int .i64 m] 22)).alloc (.cells #[.int .u64 (hiR (a)), .int .u64 (loR (a))] 25)).alloc (.cells #[.int .u64 (hiR (b)), .int .u64 (loR (b))] 25)).drew (Tryz.GR_below hg hb0.drew)).mono ?_; rintro e w1 ⟨rfl, hb1⟩; have hB1 := hb0.drew.trans (hb1.mono hb0.size); have q1 := Tryz.thruB (Tryz.in_drew q0) hb1; have a1 := Tryz.thruB (Tryz.in_drew a0) hb1; have b1 := Tryz.thruB (Tryz.in_drew b0) hb1; obtain ⟨ad0, ad1, -, -⟩ := Tryz.cells2 a1; obtain ⟨bd0, bd1, -, -⟩ := Tryz.cells2 b1) | (go_at_call_of 6 (hiR b); refine (hcb _ (Tryz.GR_below hg hB1)).mono ?_; rintro e w2 ⟨rfl, hb2⟩; have hB2 := hB1.trans (hb2.mono hB1.size); have q2 := Tryz.thruB q1 hb2; have a2 := Tryz.thruB a1 hb2; have b2 := Tryz.thruB b1 hb2; obtain ⟨ae0, ae1, -, -⟩ := Tryz.cells2 a2; obtain ⟨be0, be1, -, -⟩ := Tryz.cells2 b2; obtain ⟨qe0, qe1, -, -⟩ := Tryz.cells2 q2; have hg2 := Tryz.GR_below hg hB2; clear ac0 ac1 bc0 bc1))
      go_wp2_with (first | (go_at_call 7; refine (his _ hg2).mono ?_; rintro e w3 ⟨rfl, hb3⟩; have hB3 := hB2.trans (hb3.mono hB2.size); have hg3 := Tryz.GR_below hg hB3; have n2 := hB2.size; have n3 := hb3.size; have q3 := Tryz.thruB q2 hb3; have a3 := Tryz.thruB a2 hb3; have b3 := Tryz.thruB b2 hb3; have hsg := Tryz.GR_off hg3 (s := w3.heap.size + 1) (by omega); have l3 := Tryz.lt_of b3) | (go_at_call 9; refine (Tryz.fpu_new _).mono ?_; rintro e w4 ⟨rfl, hF4, hb4⟩; have hB4 := hB3.trans (hb4.mono hB3.size); have hg4 := Tryz.GR_below hg hB4; have l4 := Tryz.lt_of hF4.at_; have n4 := hB3.size; have q4 := Tryz.thruB q3 hb4; have a4 := Tryz.thruB a3 hb4; have b4 := Tryz.thruB b3 hb4; obtain ⟨qf0, qf1, -, -⟩ := Tryz.cells2 q4; obtain ⟨af0, af1, -, -⟩ := Tryz.cells2 a4; obtain ⟨bf0, bf1, -, -⟩ := Tryz.cells2 b4) | (go_at_call 10; refine (hda _ _ hsg _ hF4 hg4).mono ?_; rintro e w5 ⟨rfl, hs5, hk5⟩; have q5 := Tryz.up (Tryz.thru q4 hk5 (by omega)) (.cells #[.int .u64 (hiR (qW f b)), .int .u64 (loR (qW f b))] 25); have a5 := Tryz.up (Tryz.thru a4 hk5 (by omega)) (.cells #[.int .u64 (hiR (qW f b)), .int .u64 (loR (qW f b))] 25); have b5 := Tryz.up (Tryz.thru b4 hk5 (by omega)) (.cells #[.int .u64 (hiR (qW f b)), .int .u64 (loR (qW f b))] 25); have x5 := World.alloc_heap_new w5 (.cells #[.int .u64 (hiR (qW f b)), .int .u64 (loR (qW f b))] 25); have hF5 := (hF4.kept hk5 hs5).alloc (.cells #[.int .u64 (hiR (qW f b)), .int .u64 (loR (qW f b))] 25); have hB5 : Below w.heap.size w (w5.alloc (.cells #[.int .u64 (hiR (qW f b)), .int .u64 (loR (qW f b))] 25)) := hB4.trans ((hk5.alloc _).below (by omega) hB4.size); have hg5 := Tryz.GR_below hg hB5; have n5 := hk5.size; have n5' := hB4.size; obtain ⟨qg0, qg1, -, -⟩ := Tryz.cells2 q5; obtain ⟨ag0, ag1, -, -⟩ := Tryz.cells2 a5; obtain ⟨bg0, bg1, -, -⟩ := Tryz.cells2 b5) | (go_at_call 11; refine (hsq _ _ hsg _ hF5 hg5).mono ?_; rintro e w6 ⟨rfl, hs6, hk6⟩; have q6 := Tryz.up (Tryz.thru q5 hk6 (by omega)) (.cells #[.int .u64 (hiR (SW)), .int .u64 (loR (SW))] 25); have a6 := Tryz.up (Tryz.thru a5 hk6 (by omega)) (.cells #[.int .u64 (hiR (SW)), .int .u64 (loR (SW))] 25); have b6 := Tryz.up (Tryz.thru b5 hk6 (by omega)) (.cells #[.int .u64 (hiR (SW)), .int .u64 (loR (SW))] 25); have x6 := Tryz.up (Tryz.thru x5 hk6 (by omega)) (.cells #[.int .u64 (hiR (SW)), .int .u64 (loR (SW))] 25); have y6 := World.alloc_heap_new w6 (.cells #[.int .u64 (hiR (SW)), .int .u64 (loR (SW))] 25); have hB6 : Below w.heap.size w (w6.alloc (.cells #[.int .u64 (hiR (SW)), .int .u64 (loR (SW))] 25)) := hB5.trans ((hk6.alloc _).below (by omega) hB5.size); have hg6 := Tryz.GR_below hg hB6; have n6 : w5.heap.size + 1 ≤ w6.heap.size := (by have := hk6.size; simpa using this); obtain ⟨ah0, ah1, -, -⟩ := Tryz.cells2 a6; obtain ⟨bh0, bh1, -, -⟩ := Tryz.cells2 b6; obtain ⟨xh0, xh1, -, -⟩ := Tryz.cells2 x6; obtain ⟨yh0, yh1, -, -⟩ := Tryz.cells2 y6))
      go_quiet (fail)
      go_wp2
      have tk0 : (((w6.alloc (.cells #[.int .u64 (hiR (SW)), .int .u64 (loR (SW))] 25)).drewN nq).alloc (.cells #[.int .u64 (hiR (b)), .int .u64 (loR (b))] 25)).heap[w6.heap.size + 1]? = some (.cells #[.int .u64 (hiR (b)), .int .u64 (loR (b))] 25) := (by have h := World.alloc_heap_new ((w6.alloc (.cells #[.int .u64 (hiR (SW)), .int .u64 (loR (SW))] 25)).drewN nq) (.cells #[.int .u64 (hiR (b)), .int .u64 (loR (b))] 25); simpa using h)
      have xk := Tryz.up (w := ((w6.alloc (.cells #[.int .u64 (hiR (SW)), .int .u64 (loR (SW))] 25)).drewN nq)) x6 (.cells #[.int .u64 (hiR (b)), .int .u64 (loR (b))] 25)
      have tk := tk0
      have hBk : Below w.heap.size w (((w6.alloc (.cells #[.int .u64 (hiR (SW)), .int .u64 (loR (SW))] 25)).drewN nq).alloc (.cells #[.int .u64 (hiR (b)), .int .u64 (loR (b))] 25)) := Below.alloc (w := ((w6.alloc (.cells #[.int .u64 (hiR (SW)), .int .u64 (loR (SW))] 25)).drewN nq)) ⟨hB6.os, hB6.tape, hB6.output, hB6.size, hB6.block⟩ (show w.heap.size ≤ (w6.alloc (.cells #[.int .u64 (hiR (SW)), .int .u64 (loR (SW))] 25)).heap.size from hB6.size) _
      obtain ⟨xa0, xa1, -, -⟩ := Tryz.cells2 xk
      obtain ⟨ta0, ta1, -, -⟩ := Tryz.cells2 tk
      go_region_held3 (fun w' : World => w'.cell? ⟨w5.heap.size, 0, none⟩ = some (.int .u64 (hiR (qW f b))) ∧ w'.cell? ⟨w5.heap.size, 1, none⟩ = some (.int .u64 (loR (qW f b))) ∧ w'.cell? ⟨w6.heap.size + 1, 0, none⟩ = some (.int .u64 (hiR (b))) ∧ w'.cell? ⟨w6.heap.size + 1, 1, none⟩ = some (.int .u64 (loR (b)))) (first | with_reducible exact ⟨xa0, xa1, ta0, ta1⟩ | exact ⟨xa0, xa1, ta0, ta1⟩ | with_reducible exact ⟨xb0, xb1, tb0, tb1⟩ | with_reducible exact ⟨xc0, xc1, tc0, tc1⟩) (first | (go_at_call 12; refine (hqa (((w6.alloc (.cells #[.int .u64 (hiR (SW)), .int .u64 (loR (SW))] 25)).drewN nq).alloc (.cells #[.int .u64 (hiR (b)), .int .u64 (loR (b))] 25)).drew (Tryz.GR_below hg hBk.drew)).mono ?_; rintro e w8 ⟨rfl, hb8⟩; have hB8 := hBk.drew.trans (hb8.mono hBk.size); have xl := Tryz.thruB (Tryz.in_drew xk) hb8; have tl := Tryz.thruB (Tryz.in_drew tk) hb8; obtain ⟨xb0, xb1, -, -⟩ := Tryz.cells2 xl; obtain ⟨tb0, tb1, -, -⟩ := Tryz.cells2 tl) | (go_at_call 8; refine (Tryz.awake _ (Tryz.GR_below hg hB8)).mono ?_; rintro e w9 ⟨rfl, hb9⟩; have hB9 := hB8.trans (hb9.mono hB8.size); obtain ⟨xc0, xc1, -, -⟩ := Tryz.cells2 (Tryz.thruB xl hb9); obtain ⟨tc0, tc1, -, -⟩ := Tryz.cells2 (Tryz.thruB tl hb9)))
      go_wp2
      go_ret
      exact ⟨rfl, hB9⟩
    by_cases hy : cls f b = 2
    · have hqa := fun w hg => Tryz.c_quiet f b (.inr hy) hf0 w hg
      obtain ⟨v1, v2⟩ := dv_nan (m := m) hA hB (.inr (by omega))
      rw [if_neg (by omega)] at v1
      rw [if_neg (by omega)] at v2
      rw [v1, v2] at hda
      rw [hy] at hcb
      have xx0 : (cls f a == 0) = false := by simp; omega
      have xx1 : (cls f a == 1) = false := by simp; omega
      have xx3 : decide (cls f a < 3) = false := by simp; omega
      clear v1 v2 ca cb
      have e9 := Tryz.eq25 (qW f b) (qW f b)
      simp only [decide_true] at e9
      generalize hSW : sqW f m a = SW at hsq
      generalize hSX : sqX f m a = SX at hsq
      go_enter Tryz.func3, Tryz.ntmps3
      go_wp2
      go_region_held3 (fun w' : World => w'.cell? ⟨w.heap.size + 1, 0, none⟩ = some (.int .u64 (hiR a)) ∧ w'.cell? ⟨w.heap.size + 1, 1, none⟩ = some (.int .u64 (loR a)) ∧ w'.cell? ⟨w.heap.size + 1 + 1, 0, none⟩ = some (.int .u64 (hiR b)) ∧ w'.cell? ⟨w.heap.size + 1 + 1, 1, none⟩ = some (.int .u64 (loR b))) (first | with_reducible exact ⟨ac0, ac1, bc0, bc1⟩ | exact ⟨ac0, ac1, bc0, bc1⟩ | with_reducible exact ⟨ad0, ad1, bd0, bd1⟩ | with_reducible exact ⟨ae0, ae1, be0, be1⟩) (first | (go_at_call_of 6 (hiR a); refine (hca (((w.alloc (.cells #[.int .i64 f, .int .i64 m] 22)).alloc (.cells #[.int .u64 (hiR (a)), .int .u64 (loR (a))] 25)).alloc (.cells #[.int .u64 (hiR (b)), .int .u64 (loR (b))] 25)).drew (Tryz.GR_below hg hb0.drew)).mono ?_; rintro e w1 ⟨rfl, hb1⟩; have hB1 := hb0.drew.trans (hb1.mono hb0.size); have q1 := Tryz.thruB (Tryz.in_drew q0) hb1; have a1 := Tryz.thruB (Tryz.in_drew a0) hb1; have b1 := Tryz.thruB (Tryz.in_drew b0) hb1; obtain ⟨ad0, ad1, -, -⟩ := Tryz.cells2 a1; obtain ⟨bd0, bd1, -, -⟩ := Tryz.cells2 b1) | (go_at_call_of 6 (hiR b); refine (hcb _ (Tryz.GR_below hg hB1)).mono ?_; rintro e w2 ⟨rfl, hb2⟩; have hB2 := hB1.trans (hb2.mono hB1.size); have q2 := Tryz.thruB q1 hb2; have a2 := Tryz.thruB a1 hb2; have b2 := Tryz.thruB b1 hb2; obtain ⟨ae0, ae1, -, -⟩ := Tryz.cells2 a2; obtain ⟨be0, be1, -, -⟩ := Tryz.cells2 b2; obtain ⟨qe0, qe1, -, -⟩ := Tryz.cells2 q2; have hg2 := Tryz.GR_below hg hB2; clear ac0 ac1 bc0 bc1))
      go_wp2_with (first | (go_at_call 7; refine (his _ hg2).mono ?_; rintro e w3 ⟨rfl, hb3⟩; have hB3 := hB2.trans (hb3.mono hB2.size); have hg3 := Tryz.GR_below hg hB3; have n2 := hB2.size; have n3 := hb3.size; have q3 := Tryz.thruB q2 hb3; have a3 := Tryz.thruB a2 hb3; have b3 := Tryz.thruB b2 hb3; have hsg := Tryz.GR_off hg3 (s := w3.heap.size + 1) (by omega); have l3 := Tryz.lt_of b3) | (go_at_call 9; refine (Tryz.fpu_new _).mono ?_; rintro e w4 ⟨rfl, hF4, hb4⟩; have hB4 := hB3.trans (hb4.mono hB3.size); have hg4 := Tryz.GR_below hg hB4; have l4 := Tryz.lt_of hF4.at_; have n4 := hB3.size; have q4 := Tryz.thruB q3 hb4; have a4 := Tryz.thruB a3 hb4; have b4 := Tryz.thruB b3 hb4; obtain ⟨qf0, qf1, -, -⟩ := Tryz.cells2 q4; obtain ⟨af0, af1, -, -⟩ := Tryz.cells2 a4; obtain ⟨bf0, bf1, -, -⟩ := Tryz.cells2 b4) | (go_at_call 10; refine (hda _ _ hsg _ hF4 hg4).mono ?_; rintro e w5 ⟨rfl, hs5, hk5⟩; have q5 := Tryz.up (Tryz.thru q4 hk5 (by omega)) (.cells #[.int .u64 (hiR (qW f b)), .int .u64 (loR (qW f b))] 25); have a5 := Tryz.up (Tryz.thru a4 hk5 (by omega)) (.cells #[.int .u64 (hiR (qW f b)), .int .u64 (loR (qW f b))] 25); have b5 := Tryz.up (Tryz.thru b4 hk5 (by omega)) (.cells #[.int .u64 (hiR (qW f b)), .int .u64 (loR (qW f b))] 25); have x5 := World.alloc_heap_new w5 (.cells #[.int .u64 (hiR (qW f b)), .int .u64 (loR (qW f b))] 25); have hF5 := (hF4.kept hk5 hs5).alloc (.cells #[.int .u64 (hiR (qW f b)), .int .u64 (loR (qW f b))] 25); have hB5 : Below w.heap.size w (w5.alloc (.cells #[.int .u64 (hiR (qW f b)), .int .u64 (loR (qW f b))] 25)) := hB4.trans ((hk5.alloc _).below (by omega) hB4.size); have hg5 := Tryz.GR_below hg hB5; have n5 := hk5.size; have n5' := hB4.size; obtain ⟨qg0, qg1, -, -⟩ := Tryz.cells2 q5; obtain ⟨ag0, ag1, -, -⟩ := Tryz.cells2 a5; obtain ⟨bg0, bg1, -, -⟩ := Tryz.cells2 b5) | (go_at_call 11; refine (hsq _ _ hsg _ hF5 hg5).mono ?_; rintro e w6 ⟨rfl, hs6, hk6⟩; have q6 := Tryz.up (Tryz.thru q5 hk6 (by omega)) (.cells #[.int .u64 (hiR (SW)), .int .u64 (loR (SW))] 25); have a6 := Tryz.up (Tryz.thru a5 hk6 (by omega)) (.cells #[.int .u64 (hiR (SW)), .int .u64 (loR (SW))] 25); have b6 := Tryz.up (Tryz.thru b5 hk6 (by omega)) (.cells #[.int .u64 (hiR (SW)), .int .u64 (loR (SW))] 25); have x6 := Tryz.up (Tryz.thru x5 hk6 (by omega)) (.cells #[.int .u64 (hiR (SW)), .int .u64 (loR (SW))] 25); have y6 := World.alloc_heap_new w6 (.cells #[.int .u64 (hiR (SW)), .int .u64 (loR (SW))] 25); have hB6 : Below w.heap.size w (w6.alloc (.cells #[.int .u64 (hiR (SW)), .int .u64 (loR (SW))] 25)) := hB5.trans ((hk6.alloc _).below (by omega) hB5.size); have hg6 := Tryz.GR_below hg hB6; have n6 : w5.heap.size + 1 ≤ w6.heap.size := (by have := hk6.size; simpa using this); obtain ⟨ah0, ah1, -, -⟩ := Tryz.cells2 a6; obtain ⟨bh0, bh1, -, -⟩ := Tryz.cells2 b6; obtain ⟨xh0, xh1, -, -⟩ := Tryz.cells2 x6; obtain ⟨yh0, yh1, -, -⟩ := Tryz.cells2 y6))
      go_quiet (fail)
      go_wp2
      have tk0 : (((w6.alloc (.cells #[.int .u64 (hiR (SW)), .int .u64 (loR (SW))] 25)).drewN nq).alloc (.cells #[.int .u64 (hiR (b)), .int .u64 (loR (b))] 25)).heap[w6.heap.size + 1]? = some (.cells #[.int .u64 (hiR (b)), .int .u64 (loR (b))] 25) := (by have h := World.alloc_heap_new ((w6.alloc (.cells #[.int .u64 (hiR (SW)), .int .u64 (loR (SW))] 25)).drewN nq) (.cells #[.int .u64 (hiR (b)), .int .u64 (loR (b))] 25); simpa using h)
      have xk := Tryz.up (w := ((w6.alloc (.cells #[.int .u64 (hiR (SW)), .int .u64 (loR (SW))] 25)).drewN nq)) x6 (.cells #[.int .u64 (hiR (b)), .int .u64 (loR (b))] 25)
      have tk := tk0
      have hBk : Below w.heap.size w (((w6.alloc (.cells #[.int .u64 (hiR (SW)), .int .u64 (loR (SW))] 25)).drewN nq).alloc (.cells #[.int .u64 (hiR (b)), .int .u64 (loR (b))] 25)) := Below.alloc (w := ((w6.alloc (.cells #[.int .u64 (hiR (SW)), .int .u64 (loR (SW))] 25)).drewN nq)) ⟨hB6.os, hB6.tape, hB6.output, hB6.size, hB6.block⟩ (show w.heap.size ≤ (w6.alloc (.cells #[.int .u64 (hiR (SW)), .int .u64 (loR (SW))] 25)).heap.size from hB6.size) _
      obtain ⟨xa0, xa1, -, -⟩ := Tryz.cells2 xk
      obtain ⟨ta0, ta1, -, -⟩ := Tryz.cells2 tk
      go_region_held3 (fun w' : World => w'.cell? ⟨w5.heap.size, 0, none⟩ = some (.int .u64 (hiR (qW f b))) ∧ w'.cell? ⟨w5.heap.size, 1, none⟩ = some (.int .u64 (loR (qW f b))) ∧ w'.cell? ⟨w6.heap.size + 1, 0, none⟩ = some (.int .u64 (hiR (b))) ∧ w'.cell? ⟨w6.heap.size + 1, 1, none⟩ = some (.int .u64 (loR (b)))) (first | with_reducible exact ⟨xa0, xa1, ta0, ta1⟩ | exact ⟨xa0, xa1, ta0, ta1⟩ | with_reducible exact ⟨xb0, xb1, tb0, tb1⟩ | with_reducible exact ⟨xc0, xc1, tc0, tc1⟩) (first | (go_at_call 12; refine (hqa (((w6.alloc (.cells #[.int .u64 (hiR (SW)), .int .u64 (loR (SW))] 25)).drewN nq).alloc (.cells #[.int .u64 (hiR (b)), .int .u64 (loR (b))] 25)).drew (Tryz.GR_below hg hBk.drew)).mono ?_; rintro e w8 ⟨rfl, hb8⟩; have hB8 := hBk.drew.trans (hb8.mono hBk.size); have xl := Tryz.thruB (Tryz.in_drew xk) hb8; have tl := Tryz.thruB (Tryz.in_drew tk) hb8; obtain ⟨xb0, xb1, -, -⟩ := Tryz.cells2 xl; obtain ⟨tb0, tb1, -, -⟩ := Tryz.cells2 tl) | (go_at_call 8; refine (Tryz.awake _ (Tryz.GR_below hg hB8)).mono ?_; rintro e w9 ⟨rfl, hb9⟩; have hB9 := hB8.trans (hb9.mono hB8.size); obtain ⟨xc0, xc1, -, -⟩ := Tryz.cells2 (Tryz.thruB xl hb9); obtain ⟨tc0, tc1, -, -⟩ := Tryz.cells2 (Tryz.thruB tl hb9)))
      go_wp2
      go_ret
      exact ⟨rfl, hB9⟩
    have hcl := dv_class (f := f) (m := m) (a := a) (b := b) hm (by omega) (by omega)
    by_cases hc : cls f (dvW f m a b) < 3
    · obtain ⟨v1, v2⟩ := hcl hc
      rw [v1, v2] at hda
      rw [v1] at hc
      have xx0 : (cls f a == 0) = false := by simp; omega
      have xx1 : (cls f a == 1) = false := by simp; omega
      have xx3 : decide (cls f a < 3) = false := by simp; omega
      have yy0 : (cls f b == 0) = false := by simp; omega
      have yy1 : (cls f b == 1) = false := by simp; omega
      have yy3 : decide (cls f b < 3) = false := by simp; omega
      clear v1 v2 hcl ca cb
      have hcw := fun w hg => Tryz.c_cls f (fNaN f) hf0 w hg
      have e9 := Tryz.eq25 (fNaN f) (fNaN f)
      simp only [decide_true] at e9
      have hc3 : decide (cls f (fNaN f) < 3) = true := by simpa using hc
      generalize hSW : sqW f m a = SW at hsq
      generalize hSX : sqX f m a = SX at hsq
      go_enter Tryz.func3, Tryz.ntmps3
      go_wp2
      go_region_held3 (fun w' : World => w'.cell? ⟨w.heap.size + 1, 0, none⟩ = some (.int .u64 (hiR a)) ∧ w'.cell? ⟨w.heap.size + 1, 1, none⟩ = some (.int .u64 (loR a)) ∧ w'.cell? ⟨w.heap.size + 1 + 1, 0, none⟩ = some (.int .u64 (hiR b)) ∧ w'.cell? ⟨w.heap.size + 1 + 1, 1, none⟩ = some (.int .u64 (loR b))) (first | with_reducible exact ⟨ac0, ac1, bc0, bc1⟩ | exact ⟨ac0, ac1, bc0, bc1⟩ | with_reducible exact ⟨ad0, ad1, bd0, bd1⟩ | with_reducible exact ⟨ae0, ae1, be0, be1⟩) (first | (go_at_call_of 6 (hiR a); refine (hca (((w.alloc (.cells #[.int .i64 f, .int .i64 m] 22)).alloc (.cells #[.int .u64 (hiR (a)), .int .u64 (loR (a))] 25)).alloc (.cells #[.int .u64 (hiR (b)), .int .u64 (loR (b))] 25)).drew (Tryz.GR_below hg hb0.drew)).mono ?_; rintro e w1 ⟨rfl, hb1⟩; have hB1 := hb0.drew.trans (hb1.mono hb0.size); have q1 := Tryz.thruB (Tryz.in_drew q0) hb1; have a1 := Tryz.thruB (Tryz.in_drew a0) hb1; have b1 := Tryz.thruB (Tryz.in_drew b0) hb1; obtain ⟨ad0, ad1, -, -⟩ := Tryz.cells2 a1; obtain ⟨bd0, bd1, -, -⟩ := Tryz.cells2 b1) | (go_at_call_of 6 (hiR b); refine (hcb _ (Tryz.GR_below hg hB1)).mono ?_; rintro e w2 ⟨rfl, hb2⟩; have hB2 := hB1.trans (hb2.mono hB1.size); have q2 := Tryz.thruB q1 hb2; have a2 := Tryz.thruB a1 hb2; have b2 := Tryz.thruB b1 hb2; obtain ⟨ae0, ae1, -, -⟩ := Tryz.cells2 a2; obtain ⟨be0, be1, -, -⟩ := Tryz.cells2 b2; obtain ⟨qe0, qe1, -, -⟩ := Tryz.cells2 q2; have hg2 := Tryz.GR_below hg hB2; clear ac0 ac1 bc0 bc1))
      go_wp2_with (first | (go_at_call 7; refine (his _ hg2).mono ?_; rintro e w3 ⟨rfl, hb3⟩; have hB3 := hB2.trans (hb3.mono hB2.size); have hg3 := Tryz.GR_below hg hB3; have n2 := hB2.size; have n3 := hb3.size; have q3 := Tryz.thruB q2 hb3; have a3 := Tryz.thruB a2 hb3; have b3 := Tryz.thruB b2 hb3; have hsg := Tryz.GR_off hg3 (s := w3.heap.size + 1) (by omega); have l3 := Tryz.lt_of b3) | (go_at_call 9; refine (Tryz.fpu_new _).mono ?_; rintro e w4 ⟨rfl, hF4, hb4⟩; have hB4 := hB3.trans (hb4.mono hB3.size); have hg4 := Tryz.GR_below hg hB4; have l4 := Tryz.lt_of hF4.at_; have n4 := hB3.size; have q4 := Tryz.thruB q3 hb4; have a4 := Tryz.thruB a3 hb4; have b4 := Tryz.thruB b3 hb4; obtain ⟨qf0, qf1, -, -⟩ := Tryz.cells2 q4; obtain ⟨af0, af1, -, -⟩ := Tryz.cells2 a4; obtain ⟨bf0, bf1, -, -⟩ := Tryz.cells2 b4) | (go_at_call 10; refine (hda _ _ hsg _ hF4 hg4).mono ?_; rintro e w5 ⟨rfl, hs5, hk5⟩; have q5 := Tryz.up (Tryz.thru q4 hk5 (by omega)) (.cells #[.int .u64 (hiR (fNaN f)), .int .u64 (loR (fNaN f))] 25); have a5 := Tryz.up (Tryz.thru a4 hk5 (by omega)) (.cells #[.int .u64 (hiR (fNaN f)), .int .u64 (loR (fNaN f))] 25); have b5 := Tryz.up (Tryz.thru b4 hk5 (by omega)) (.cells #[.int .u64 (hiR (fNaN f)), .int .u64 (loR (fNaN f))] 25); have x5 := World.alloc_heap_new w5 (.cells #[.int .u64 (hiR (fNaN f)), .int .u64 (loR (fNaN f))] 25); have hF5 := (hF4.kept hk5 hs5).alloc (.cells #[.int .u64 (hiR (fNaN f)), .int .u64 (loR (fNaN f))] 25); have hB5 : Below w.heap.size w (w5.alloc (.cells #[.int .u64 (hiR (fNaN f)), .int .u64 (loR (fNaN f))] 25)) := hB4.trans ((hk5.alloc _).below (by omega) hB4.size); have hg5 := Tryz.GR_below hg hB5; have n5 := hk5.size; have n5' := hB4.size; obtain ⟨qg0, qg1, -, -⟩ := Tryz.cells2 q5; obtain ⟨ag0, ag1, -, -⟩ := Tryz.cells2 a5; obtain ⟨bg0, bg1, -, -⟩ := Tryz.cells2 b5) | (go_at_call 11; refine (hsq _ _ hsg _ hF5 hg5).mono ?_; rintro e w6 ⟨rfl, hs6, hk6⟩; have q6 := Tryz.up (Tryz.thru q5 hk6 (by omega)) (.cells #[.int .u64 (hiR (SW)), .int .u64 (loR (SW))] 25); have a6 := Tryz.up (Tryz.thru a5 hk6 (by omega)) (.cells #[.int .u64 (hiR (SW)), .int .u64 (loR (SW))] 25); have b6 := Tryz.up (Tryz.thru b5 hk6 (by omega)) (.cells #[.int .u64 (hiR (SW)), .int .u64 (loR (SW))] 25); have x6 := Tryz.up (Tryz.thru x5 hk6 (by omega)) (.cells #[.int .u64 (hiR (SW)), .int .u64 (loR (SW))] 25); have y6 := World.alloc_heap_new w6 (.cells #[.int .u64 (hiR (SW)), .int .u64 (loR (SW))] 25); have hB6 : Below w.heap.size w (w6.alloc (.cells #[.int .u64 (hiR (SW)), .int .u64 (loR (SW))] 25)) := hB5.trans ((hk6.alloc _).below (by omega) hB5.size); have hg6 := Tryz.GR_below hg hB6; have n6 : w5.heap.size + 1 ≤ w6.heap.size := (by have := hk6.size; simpa using this); obtain ⟨ah0, ah1, -, -⟩ := Tryz.cells2 a6; obtain ⟨bh0, bh1, -, -⟩ := Tryz.cells2 b6; obtain ⟨xh0, xh1, -, -⟩ := Tryz.cells2 x6; obtain ⟨yh0, yh1, -, -⟩ := Tryz.cells2 y6))
      go_quiet (fail)
      have xk := Tryz.up (w := ((w6.alloc (.cells #[.int .u64 (hiR (SW)), .int .u64 (loR (SW))] 25)).drewN nq)) x6 (.cells #[.int .u64 (hiR (b)), .int .u64 (loR (b))] 25)
      obtain ⟨xz0, xz1, -, -⟩ := Tryz.cells2 xk
      have hBk : Below w.heap.size w (((w6.alloc (.cells #[.int .u64 (hiR (SW)), .int .u64 (loR (SW))] 25)).drewN nq).alloc (.cells #[.int .u64 (hiR (b)), .int .u64 (loR (b))] 25)) := Below.alloc (w := ((w6.alloc (.cells #[.int .u64 (hiR (SW)), .int .u64 (loR (SW))] 25)).drewN nq)) ⟨hB6.os, hB6.tape, hB6.output, hB6.size, hB6.block⟩ (show w.heap.size ≤ (w6.alloc (.cells #[.int .u64 (hiR (SW)), .int .u64 (loR (SW))] 25)).heap.size from hB6.size) _
      go_wp2_with (go_at_call 6; refine (hcw _ (Tryz.GR_below hg hBk)).mono ?_; rintro e w7 ⟨rfl, hb7⟩; have hB7 := hBk.trans (hb7.mono hBk.size); have xl := Tryz.thruB xk hb7; obtain ⟨xa0, xa1, -, -⟩ := Tryz.cells2 xl)
      go_region_held3 (fun w' : World => w'.cell? ⟨w5.heap.size, 0, none⟩ = some (.int .u64 (hiR (fNaN f))) ∧ w'.cell? ⟨w5.heap.size, 1, none⟩ = some (.int .u64 (loR (fNaN f)))) (first | with_reducible exact ⟨xa0, xa1⟩ | exact ⟨xa0, xa1⟩ | with_reducible exact ⟨xb0, xb1⟩ | with_reducible exact ⟨xc0, xc1⟩) (first | (go_at_call 13; refine (Tryz.c_nan f hf hf0 w7.drew (Tryz.GR_below hg hB7.drew)).mono ?_; rintro e w8 ⟨rfl, hb8⟩; have hB8 := hB7.drew.trans (hb8.mono hB7.size); have xm := Tryz.thruB (Tryz.in_drew xl) hb8; obtain ⟨xb0, xb1, -, -⟩ := Tryz.cells2 xm) | (go_at_call 8; refine (Tryz.awake _ (Tryz.GR_below hg hB8)).mono ?_; rintro e w9 ⟨rfl, hb9⟩; have hB9 := hB8.trans (hb9.mono hB8.size); obtain ⟨xc0, xc1, -, -⟩ := Tryz.cells2 (Tryz.thruB xm hb9)))
      go_wp2
      go_ret
      exact ⟨rfl, hB9⟩
    · clear hcl
      generalize hWD : dvW f m a b = WD at hda hc
      generalize hXD : dvX f m a b = XD at hda
      have hcw := fun w hg => Tryz.c_cls f WD hf0 w hg
      have cw := cls_rng f WD
      obtain ⟨k, hk⟩ : ∃ k, k = cls f WD := ⟨_, rfl⟩
      have xx0 : (cls f a == 0) = false := by simp; omega
      have xx1 : (cls f a == 1) = false := by simp; omega
      have xx3 : decide (cls f a < 3) = false := by simp; omega
      have yy0 : (cls f b == 0) = false := by simp; omega
      have yy1 : (cls f b == 1) = false := by simp; omega
      have yy3 : decide (cls f b < 3) = false := by simp; omega
      clear ca cb
      generalize hSW : sqW f m a = SW at hsq
      generalize hSX : sqX f m a = SX at hsq
      rw [← hk] at hcw cw hc
      obtain rfl | rfl | rfl | rfl : k = 3 ∨ k = 4 ∨ k = 5 ∨ k = 6 := by omega
      all_goals (clear hk cw hc)
      all_goals
        go_enter Tryz.func3, Tryz.ntmps3
        go_wp2
        go_region_held3 (fun w' : World => w'.cell? ⟨w.heap.size + 1, 0, none⟩ = some (.int .u64 (hiR a)) ∧ w'.cell? ⟨w.heap.size + 1, 1, none⟩ = some (.int .u64 (loR a)) ∧ w'.cell? ⟨w.heap.size + 1 + 1, 0, none⟩ = some (.int .u64 (hiR b)) ∧ w'.cell? ⟨w.heap.size + 1 + 1, 1, none⟩ = some (.int .u64 (loR b))) (first | with_reducible exact ⟨ac0, ac1, bc0, bc1⟩ | exact ⟨ac0, ac1, bc0, bc1⟩ | with_reducible exact ⟨ad0, ad1, bd0, bd1⟩ | with_reducible exact ⟨ae0, ae1, be0, be1⟩) (first | (go_at_call_of 6 (hiR a); refine (hca (((w.alloc (.cells #[.int .i64 f, .int .i64 m] 22)).alloc (.cells #[.int .u64 (hiR (a)), .int .u64 (loR (a))] 25)).alloc (.cells #[.int .u64 (hiR (b)), .int .u64 (loR (b))] 25)).drew (Tryz.GR_below hg hb0.drew)).mono ?_; rintro e w1 ⟨rfl, hb1⟩; have hB1 := hb0.drew.trans (hb1.mono hb0.size); have q1 := Tryz.thruB (Tryz.in_drew q0) hb1; have a1 := Tryz.thruB (Tryz.in_drew a0) hb1; have b1 := Tryz.thruB (Tryz.in_drew b0) hb1; obtain ⟨ad0, ad1, -, -⟩ := Tryz.cells2 a1; obtain ⟨bd0, bd1, -, -⟩ := Tryz.cells2 b1) | (go_at_call_of 6 (hiR b); refine (hcb _ (Tryz.GR_below hg hB1)).mono ?_; rintro e w2 ⟨rfl, hb2⟩; have hB2 := hB1.trans (hb2.mono hB1.size); have q2 := Tryz.thruB q1 hb2; have a2 := Tryz.thruB a1 hb2; have b2 := Tryz.thruB b1 hb2; obtain ⟨ae0, ae1, -, -⟩ := Tryz.cells2 a2; obtain ⟨be0, be1, -, -⟩ := Tryz.cells2 b2; obtain ⟨qe0, qe1, -, -⟩ := Tryz.cells2 q2; have hg2 := Tryz.GR_below hg hB2; clear ac0 ac1 bc0 bc1))
        go_wp2_with (first | (go_at_call 7; refine (his _ hg2).mono ?_; rintro e w3 ⟨rfl, hb3⟩; have hB3 := hB2.trans (hb3.mono hB2.size); have hg3 := Tryz.GR_below hg hB3; have n2 := hB2.size; have n3 := hb3.size; have q3 := Tryz.thruB q2 hb3; have a3 := Tryz.thruB a2 hb3; have b3 := Tryz.thruB b2 hb3; have hsg := Tryz.GR_off hg3 (s := w3.heap.size + 1) (by omega); have l3 := Tryz.lt_of b3) | (go_at_call 9; refine (Tryz.fpu_new _).mono ?_; rintro e w4 ⟨rfl, hF4, hb4⟩; have hB4 := hB3.trans (hb4.mono hB3.size); have hg4 := Tryz.GR_below hg hB4; have l4 := Tryz.lt_of hF4.at_; have n4 := hB3.size; have q4 := Tryz.thruB q3 hb4; have a4 := Tryz.thruB a3 hb4; have b4 := Tryz.thruB b3 hb4; obtain ⟨qf0, qf1, -, -⟩ := Tryz.cells2 q4; obtain ⟨af0, af1, -, -⟩ := Tryz.cells2 a4; obtain ⟨bf0, bf1, -, -⟩ := Tryz.cells2 b4) | (go_at_call 10; refine (hda _ _ hsg _ hF4 hg4).mono ?_; rintro e w5 ⟨rfl, hs5, hk5⟩; have q5 := Tryz.up (Tryz.thru q4 hk5 (by omega)) (.cells #[.int .u64 (hiR (WD)), .int .u64 (loR (WD))] 25); have a5 := Tryz.up (Tryz.thru a4 hk5 (by omega)) (.cells #[.int .u64 (hiR (WD)), .int .u64 (loR (WD))] 25); have b5 := Tryz.up (Tryz.thru b4 hk5 (by omega)) (.cells #[.int .u64 (hiR (WD)), .int .u64 (loR (WD))] 25); have x5 := World.alloc_heap_new w5 (.cells #[.int .u64 (hiR (WD)), .int .u64 (loR (WD))] 25); have hF5 := (hF4.kept hk5 hs5).alloc (.cells #[.int .u64 (hiR (WD)), .int .u64 (loR (WD))] 25); have hB5 : Below w.heap.size w (w5.alloc (.cells #[.int .u64 (hiR (WD)), .int .u64 (loR (WD))] 25)) := hB4.trans ((hk5.alloc _).below (by omega) hB4.size); have hg5 := Tryz.GR_below hg hB5; have n5 := hk5.size; have n5' := hB4.size; obtain ⟨qg0, qg1, -, -⟩ := Tryz.cells2 q5; obtain ⟨ag0, ag1, -, -⟩ := Tryz.cells2 a5; obtain ⟨bg0, bg1, -, -⟩ := Tryz.cells2 b5) | (go_at_call 11; refine (hsq _ _ hsg _ hF5 hg5).mono ?_; rintro e w6 ⟨rfl, hs6, hk6⟩; have q6 := Tryz.up (Tryz.thru q5 hk6 (by omega)) (.cells #[.int .u64 (hiR (SW)), .int .u64 (loR (SW))] 25); have a6 := Tryz.up (Tryz.thru a5 hk6 (by omega)) (.cells #[.int .u64 (hiR (SW)), .int .u64 (loR (SW))] 25); have b6 := Tryz.up (Tryz.thru b5 hk6 (by omega)) (.cells #[.int .u64 (hiR (SW)), .int .u64 (loR (SW))] 25); have x6 := Tryz.up (Tryz.thru x5 hk6 (by omega)) (.cells #[.int .u64 (hiR (SW)), .int .u64 (loR (SW))] 25); have y6 := World.alloc_heap_new w6 (.cells #[.int .u64 (hiR (SW)), .int .u64 (loR (SW))] 25); have hB6 : Below w.heap.size w (w6.alloc (.cells #[.int .u64 (hiR (SW)), .int .u64 (loR (SW))] 25)) := hB5.trans ((hk6.alloc _).below (by omega) hB5.size); have hg6 := Tryz.GR_below hg hB6; have n6 : w5.heap.size + 1 ≤ w6.heap.size := (by have := hk6.size; simpa using this); obtain ⟨ah0, ah1, -, -⟩ := Tryz.cells2 a6; obtain ⟨bh0, bh1, -, -⟩ := Tryz.cells2 b6; obtain ⟨xh0, xh1, -, -⟩ := Tryz.cells2 x6; obtain ⟨yh0, yh1, -, -⟩ := Tryz.cells2 y6))
        go_quiet (fail)
        have xk := Tryz.up (w := ((w6.alloc (.cells #[.int .u64 (hiR (SW)), .int .u64 (loR (SW))] 25)).drewN nq)) x6 (.cells #[.int .u64 (hiR (b)), .int .u64 (loR (b))] 25)
        obtain ⟨xz0, xz1, -, -⟩ := Tryz.cells2 xk
        have hBk : Below w.heap.size w (((w6.alloc (.cells #[.int .u64 (hiR (SW)), .int .u64 (loR (SW))] 25)).drewN nq).alloc (.cells #[.int .u64 (hiR (b)), .int .u64 (loR (b))] 25)) := Below.alloc (w := ((w6.alloc (.cells #[.int .u64 (hiR (SW)), .int .u64 (loR (SW))] 25)).drewN nq)) ⟨hB6.os, hB6.tape, hB6.output, hB6.size, hB6.block⟩ (show w.heap.size ≤ (w6.alloc (.cells #[.int .u64 (hiR (SW)), .int .u64 (loR (SW))] 25)).heap.size from hB6.size) _
        go_wp2_with (go_at_call 6; refine (hcw _ (Tryz.GR_below hg hBk)).mono ?_; rintro e w7 ⟨rfl, hb7⟩; have hB7 := hBk.trans (hb7.mono hBk.size); have xl := Tryz.thruB xk hb7; obtain ⟨xa0, xa1, -, -⟩ := Tryz.cells2 xl)
        refine wp_region_held_drew (S := fun _ => True) (by kernel_rfl) trivial (fun _ => ?_)
        refine Tryz.take_yes (i := 0) (d := 91) (v := ?_) rfl (by kernel_rfl) (by kernel_rfl) (by kernel_rfl) (fun _ _ _ _ h => h) ⟨_, rfl, by rfl, ?_⟩ trivial ?_
        rotate_left
        · (intro w hSw; go_simp <;> with_reducible rfl)
        try simp only [Act.put, List.setIfInBounds_toArray, List.set_cons_zero, List.set_cons_succ]
        refine Tryz.take_yes (i := 1) (d := 92) (v := ?_) rfl (by kernel_rfl) (by kernel_rfl) (by kernel_rfl) (fun _ _ _ _ h => h) ⟨_, rfl, by rfl, ?_⟩ trivial ?_
        rotate_left
        · (intro w hSw; go_simp <;> with_reducible rfl)
        try simp only [Act.put, List.setIfInBounds_toArray, List.set_cons_zero, List.set_cons_succ]
        refine Tryz.take_yes (i := 2) (d := 93) (v := ?_) rfl (by kernel_rfl) (by kernel_rfl) (by kernel_rfl) (fun _ _ _ _ h => h) ⟨_, rfl, by rfl, ?_⟩ trivial ?_
        rotate_left
        · (intro w hSw; go_simp <;> with_reducible rfl)
        try simp only [Act.put, List.setIfInBounds_toArray, List.set_cons_zero, List.set_cons_succ]
        refine Tryz.take_no (i := 3) (d := 94) rfl (by kernel_rfl) (by kernel_rfl) (by kernel_rfl) (fun _ _ _ _ h => h) (by rfl) trivial ?_
        try simp only [Act.put, List.setIfInBounds_toArray, List.set_cons_zero, List.set_cons_succ]
        refine Tryz.take_no (i := 4) (d := 95) rfl (by kernel_rfl) (by kernel_rfl) (by kernel_rfl) (fun _ _ _ _ h => h) (by rfl) trivial ?_
        try simp only [Act.put, List.setIfInBounds_toArray, List.set_cons_zero, List.set_cons_succ]
        refine Tryz.take_no (i := 5) (d := 96) rfl (by kernel_rfl) (by kernel_rfl) (by kernel_rfl) (fun _ _ _ _ h => h) (by rfl) trivial ?_
        try simp only [Act.put, List.setIfInBounds_toArray, List.set_cons_zero, List.set_cons_succ]
        refine Tryz.take_no (i := 6) (d := 97) rfl (by kernel_rfl) (by kernel_rfl) (by kernel_rfl) (fun _ _ _ _ h => h) (by rfl) trivial ?_
        try simp only [Act.put, List.setIfInBounds_toArray, List.set_cons_zero, List.set_cons_succ]
        refine Tryz.take_no (i := 7) (d := 98) rfl (by kernel_rfl) (by kernel_rfl) (by kernel_rfl) (fun _ _ _ _ h => h) (by rfl) trivial ?_
        try simp only [Act.put, List.setIfInBounds_toArray, List.set_cons_zero, List.set_cons_succ]
        refine Tryz.take_no (i := 8) (d := 99) rfl (by kernel_rfl) (by kernel_rfl) (by kernel_rfl) (fun _ _ _ _ h => h) (by rfl) trivial ?_
        try simp only [Act.put, List.setIfInBounds_toArray, List.set_cons_zero, List.set_cons_succ]
        refine Tryz.take_no (i := 9) (d := 100) rfl (by kernel_rfl) (by kernel_rfl) (by kernel_rfl) (fun _ _ _ _ h => h) (by rfl) trivial ?_
        try simp only [Act.put, List.setIfInBounds_toArray, List.set_cons_zero, List.set_cons_succ]
        refine Tryz.take_no (i := 10) (d := 101) rfl (by kernel_rfl) (by kernel_rfl) (by kernel_rfl) (fun _ _ _ _ h => h) (by rfl) trivial ?_
        try simp only [Act.put, List.setIfInBounds_toArray, List.set_cons_zero, List.set_cons_succ]
        refine Tryz.take_yes (i := 11) (d := 102) (v := ?_) rfl (by kernel_rfl) (by kernel_rfl) (by kernel_rfl) (fun _ _ _ _ h => h) ⟨_, rfl, by rfl, ?_⟩ trivial ?_
        rotate_left
        · (intro w hSw; go_simp <;> with_reducible rfl)
        try simp only [Act.put, List.setIfInBounds_toArray, List.set_cons_zero, List.set_cons_succ]
        refine Tryz.take_yes (i := 12) (d := 103) (v := ?_) rfl (by kernel_rfl) (by kernel_rfl) (by kernel_rfl) (fun _ _ _ _ h => h) ⟨_, rfl, by rfl, ?_⟩ trivial ?_
        rotate_left
        · (intro w hSw; go_simp <;> with_reducible rfl)
        try simp only [Act.put, List.setIfInBounds_toArray, List.set_cons_zero, List.set_cons_succ]
        refine wpAnyH_ready (rs := [13]) (by kernel_rfl) (by simp) ?_
        refine AllReadyH.cons rfl (fun K hK => ?_) AllReadyH.nil
        go_simp
        have hgd := Tryz.GR_below hg hB7.drew
        have hB7d := hB7.drew
        go_wp2_with (go_at_call 8; refine (Tryz.awake _ hgd).mono ?_; rintro e w9 ⟨rfl, hb9⟩; have hB9 := hB7d.trans (hb9.mono hB7d.size))
        refine hK.out _ _ trivial (fun _ => ?_)
        clear hK K
        try simp only [Act.put, List.setIfInBounds_toArray, List.set_cons_zero, List.set_cons_succ]
        refine Tryz.take_yes (i := 14) (d := 105) (v := ?_) rfl (by kernel_rfl) (by kernel_rfl) (by kernel_rfl) (fun _ _ _ _ h => h) ⟨_, rfl, by rfl, ?_⟩ trivial ?_
        rotate_left
        · (intro w hSw; go_simp <;> with_reducible rfl)
        try simp only [Act.put, List.setIfInBounds_toArray, List.set_cons_zero, List.set_cons_succ]
        refine Tryz.take_yes (i := 15) (d := 6) (v := ?_) rfl (by kernel_rfl) (by kernel_rfl) (by kernel_rfl) (fun _ _ _ _ h => h) ⟨_, rfl, by rfl, ?_⟩ trivial ?_
        rotate_left
        · (intro w hSw; go_simp <;> with_reducible rfl)
        try simp only [Act.put, List.setIfInBounds_toArray, List.set_cons_zero, List.set_cons_succ]
        refine wpAnyH_done (by kernel_rfl) ?_ _
        go_wp2
        go_ret
        exact ⟨rfl, hB9⟩
end Go.Proofs