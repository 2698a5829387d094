import Derived.Test.YtnanihpaifaceaaGreatDoorUI
set_option linter.unusedVariables false
set_option linter.unusedSimpArgs false
set_option linter.unusedVariables false
namespace Go.Proofs
open Go.RowKit Go.LE
set_option maxRecDepth 100000
theorem Tryz.c_cls (f : Int) (a : BitVec 128) (hk0 : inK .i64 (f)) (w : World) (hg : GR globs none' w) : Calls Tryz.prog 6 #[.int .i64 (f), .agg #[.int .u64 (hiR (a)), .int .u64 (loR (a))]] w fun e w' => e = .returned (.int .i64 (cls f a)) ∧ Below w.heap.size w w' := by
  refine (p_class06.2 [.int .i64 (f), .word (a)] (.int .i64 (cls f a)) rfl w [.int .i64 (f), .agg #[.int .u64 (hiR (a)), .int .u64 (loR (a))]] ⟨_, _, rfl, ⟨hk0, rfl⟩, ⟨_, _, rfl, rfl, rfl⟩⟩ hg).mono ?_
  rintro e w' ⟨v, rfl, hv, hb⟩
  obtain ⟨_, rfl⟩ := hv
  exact ⟨rfl, hb⟩
theorem Tryz.c_is08 (m : Int) (hk0 : inK .i64 (m)) (w : World) (hg : GR globs none' w) : Calls Tryz.prog 7 #[.int .i64 (m)] w fun e w' => e = .returned (.bool (isM m)) ∧ Below w.heap.size w w' := by
  refine (p_mIs08.2 [.int .i64 (m)] (.bool (isM m)) rfl w [.int .i64 (m)] ⟨_, _, rfl, ⟨hk0, rfl⟩, rfl⟩ hg).mono ?_
  rintro e w' ⟨v, rfl, hv, hb⟩
  subst hv
  exact ⟨rfl, hb⟩
theorem Tryz.c_quiet (f : Int) (a : BitVec 128) (hq : cls f a = 1 ∨ cls f a = 2) (hk0 : inK .i64 (f)) (w : World) (hg : GR globs none' w) : Calls Tryz.prog 12 #[.int .i64 (f), .agg #[.int .u64 (hiR (a)), .int .u64 (loR (a))]] w fun e w' => e = .returned (.agg #[.int .u64 (hiR (qW f a)), .int .u64 (loR (qW f a))]) ∧ Below w.heap.size w w' := by
  refine (p_quietT.2 [.int .i64 (f), .word (a)] (.word (qW f a)) ⟨hq, rfl⟩ w [.int .i64 (f), .agg #[.int .u64 (hiR (a)), .int .u64 (loR (a))]] ⟨_, _, rfl, ⟨hk0, rfl⟩, ⟨_, _, rfl, rfl, rfl⟩⟩ hg).mono ?_
  rintro e w' ⟨v, rfl, hv, hb⟩
  subst hv
  exact ⟨rfl, hb⟩
theorem Tryz.c_nan (f : Int) (hf : 1 ≤ f ∧ f ≤ 4) (hk0 : inK .i64 (f)) (w : World) (hg : GR globs none' w) : Calls Tryz.prog 13 #[.int .i64 (f)] w fun e w' => e = .returned (.agg #[.int .u64 (hiR (fNaN f)), .int .u64 (loR (fNaN f))]) ∧ Below w.heap.size w w' := by
  refine (p_refNaN.2 [.int .i64 (f)] (.word (fNaN f)) ⟨hf, rfl⟩ w [.int .i64 (f)] ⟨_, _, rfl, ⟨hk0, rfl⟩, rfl⟩ hg).mono ?_
  rintro e w' ⟨v, rfl, hv, hb⟩
  subst hv
  exact ⟨rfl, hb⟩
theorem Tryz.c_some (f m : Int) (a b : BitVec 128) (hk0 : inK .i64 (f)) (hk1 : inK .i64 (m)) (w : World) (hg : GR globs none' w) : Calls Tryz.prog 14 #[.agg #[.int .i64 (f), .int .i64 (m)], .agg #[.int .u64 (hiR (a)), .int .u64 (loR (a))], .agg #[.int .u64 (hiR (b)), .int .u64 (loR (b))]] w fun e w' => e = .returned (.bool (isM m && (someW f a && someW f b))) ∧ Below w.heap.size w w' := by
  refine (p_someT.2 [.agg [.int .i64 (f), .int .i64 (m)], .word (a), .word (b)] (.bool (isM m && (someW f a && someW f b))) rfl w [.agg #[.int .i64 (f), .int .i64 (m)], .agg #[.int .u64 (hiR (a)), .int .u64 (loR (a))], .agg #[.int .u64 (hiR (b)), .int .u64 (loR (b))]] ⟨_, _, rfl, ⟨[.int .i64 (f), .int .i64 (m)], rfl, [_], _, rfl, ⟨hk0, rfl⟩, [_], _, rfl, ⟨hk1, rfl⟩, rfl⟩, ⟨_, _, rfl, rfl, ⟨_, _, rfl, rfl, rfl⟩⟩⟩ hg).mono ?_
  rintro e w' ⟨v, rfl, hv, hb⟩
  subst hv
  exact ⟨rfl, hb⟩
theorem Tryz.c_signed (f : Int) (hf : 1 ≤ f ∧ f ≤ 4) (a : BitVec 128) (n : Bool) (hk0 : inK .i64 (f)) (w : World) (hg : GR globs none' w) : Calls Tryz.prog 15 #[.int .i64 (f), .agg #[.int .u64 (hiR (a)), .int .u64 (loR (a))], .bool (n)] w fun e w' => e = .returned (.agg #[.int .u64 (hiR (sgn f a n)), .int .u64 (loR (sgn f a n))]) ∧ Below w.heap.size w w' := by
  refine (p_signed06.2 [.int .i64 (f), .word (a), .bool (n)] (.word (sgn f a n)) ⟨hf, rfl⟩ w [.int .i64 (f), .agg #[.int .u64 (hiR (a)), .int .u64 (loR (a))], .bool (n)] ⟨_, _, rfl, ⟨hk0, rfl⟩, ⟨_, _, rfl, rfl, ⟨_, _, rfl, rfl, rfl⟩⟩⟩ hg).mono ?_
  rintro e w' ⟨v, rfl, hv, hb⟩
  subst hv
  exact ⟨rfl, hb⟩
theorem Tryz.c_neg (f : Int) (a : BitVec 128) (hk0 : inK .i64 (f)) (w : World) (hg : GR globs none' w) : Calls Tryz.prog 16 #[.int .i64 (f), .agg #[.int .u64 (hiR (a)), .int .u64 (loR (a))]] w fun e w' => e = .returned (.bool (wNeg f a)) ∧ Below w.heap.size w w' := by
  refine (p_neg06.2 [.int .i64 (f), .word (a)] (.bool (wNeg f a)) rfl w [.int .i64 (f), .agg #[.int .u64 (hiR (a)), .int .u64 (loR (a))]] ⟨_, _, rfl, ⟨hk0, rfl⟩, ⟨_, _, rfl, rfl, rfl⟩⟩ hg).mono ?_
  rintro e w' ⟨v, rfl, hv, hb⟩
  subst hv
  exact ⟨rfl, hb⟩
theorem Tryz.c_one (f : Int) (hf : 1 ≤ f ∧ f ≤ 4) (hk0 : inK .i64 (f)) (w : World) (hg : GR globs none' w) : Calls Tryz.prog 17 #[.int .i64 (f)] w fun e w' => e = .returned (.agg #[.int .u64 (hiR (fOne f)), .int .u64 (loR (fOne f))]) ∧ Below w.heap.size w w' := by
  refine (p_refOne.2 [.int .i64 (f)] (.word (fOne f)) ⟨hf, rfl⟩ w [.int .i64 (f)] ⟨_, _, rfl, ⟨hk0, rfl⟩, rfl⟩ hg).mono ?_
  rintro e w' ⟨v, rfl, hv, hb⟩
  subst hv
  exact ⟨rfl, hb⟩
end Go.Proofs