import Derived.Test.YtbbggnihogcjcaaW1
set_option linter.unusedVariables false
set_option linter.unusedSimpArgs false
namespace Go.LE
open Go Go.Proofs
theorem of_cases {S : Ops} {k : EK} {l : List Int} {r : LV} (h : (s_of S [.ints k l]).Y r) : (∃ a, l = [a]) ∨ ∃ a b, l = [a, b] := by
  match l, h with
  | [], h => exact h.elim
  | [a], _ => exact .inl ⟨a, rfl⟩
  | [a, b], _ => exact .inr ⟨a, b, rfl⟩
  | _ :: _ :: _ :: _, h => exact h.elim
theorem p_len64 : SpecOk Try.prog globs 38 (mkSpec real [.int .u64] (s_len64 rops)) := by
  have hfns : FnsOk Try.prog globs [] := fnsNil
  refine spec0 hfns (by kernel_rfl) Try.func38 (by kernel_rfl) (by kernel_rfl) (by kernel_rfl) 5 _ _ (.int .i64) ?_
  clear hfns
  generalize hEE : env0 [] = EE
  intro l r hl hr
  simp only [Forms, Form] at hl
  obtain ⟨_, _, rfl, ⟨x1, rfl, x1lo, x1hi⟩, rfl⟩ := hl
  subst hEE
  generalize hK : kR (.int .i64) r = K
  generalize hO : real = O
  set_option maxRecDepth 100000 in cbv
  subst hO hK 
  simp only [s_len64, R.Y] at hr
  subst hr
  try dsimp only [real, rops]
  rw [u64_min] at x1lo
  rw [u64_max] at x1hi
  set_option maxRecDepth 100000 in simp only [shr32, shr16, shr8]
  have e1 : x1 / 4294967296 / 65536 = x1 / 281474976710656 := by omega
  have e2 : x1 / 4294967296 / 256 = x1 / 1099511627776 := by omega
  have e3 : x1 / 4294967296 / 65536 / 256 = x1 / 72057594037927936 := by omega
  have e4 : x1 / 65536 / 256 = x1 / 16777216 := by omega
  set_option maxRecDepth 100000 in simp only [e1, e2, e4]
  have e5 : x1 / 281474976710656 / 256 = x1 / 72057594037927936 := by omega
  set_option maxRecDepth 100000 in simp only [e5]
  repeat' (first | apply And.intro | (refine imp_f fun _ => ?_) | (refine imp_t fun _ => ?_))
  all_goals set_option maxRecDepth 100000 in simp only [c_eql_t, c_eql_f, c_neq_t, c_neq_f, c_lss_t, c_lss_f, c_leq_t, c_leq_f, c_gtr_t, c_gtr_f, c_geq_t, c_geq_f] at *
  all_goals first
    | (rw [u8_wrap (by omega)]; omega)
    | (rw [u8_wrap (by omega)]; set_option maxRecDepth 100000 in show _ < ((256 : Nat) : Int); omega)
    | (set_option maxRecDepth 100000 in simp only [kR, canon, isK, asInt, kindEq, Option.some.injEq, LV.int.injEq, true_and])
  all_goals first
    | exact len64_leaf (s := 56) (by omega) rfl (by decide) rfl (.inr (by simp only [Nat.reducePow]; omega))
    | exact len64_leaf (s := 48) (by omega) rfl (by decide) rfl (.inr (by simp only [Nat.reducePow]; omega))
    | exact len64_leaf (s := 40) (by omega) rfl (by decide) rfl (.inr (by simp only [Nat.reducePow]; omega))
    | exact len64_leaf (s := 32) (by omega) rfl (by decide) rfl (.inr (by simp only [Nat.reducePow]; omega))
    | exact len64_leaf (s := 24) (by omega) rfl (by decide) rfl (.inr (by simp only [Nat.reducePow]; omega))
    | exact len64_leaf (s := 16) (by omega) rfl (by decide) rfl (.inr (by simp only [Nat.reducePow]; omega))
    | exact len64_leaf (s := 8) (by omega) rfl (by decide) rfl (.inr (by simp only [Nat.reducePow]; omega))
    | exact len64_leaf (s := 0) (by omega) rfl (by decide) (by simp) (.inl rfl)
end Go.LE