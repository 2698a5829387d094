import Derived.Test.YtnanihpaifaceaaGreatDoorLeR
set_option linter.unusedVariables false
set_option linter.unusedSimpArgs false
namespace Go.LE
open Go
/-! ## a number told otherwise is cut and rounded alike -/
end Go.LE
namespace Go.LE
open Go
/-! ## a word of one format as one of another -/
/-! ## rounded to the other format: a finite word -/
end Go.LE
namespace Go.LE
open Go
/-! ## whole numbers -/
/-! ## is it whole, is it odd? -/
/-! ## made whole: any word -/
end Go.LE
namespace Go.LE
open Go
/-! ## a number without its lowest digits -/
/-! ## whole numbers: how great they are -/
/-! ## ints -/
end Go.LE
namespace Go.LE
open Go
/-! ## to a greater format, and back -/
end Go.LE
namespace Go.LE
open Go
/-! ## made whole: how it stands to what it was -/
/-! ## what is left below the whole part -/
end Go.LE
namespace Go.LE
open Go
/-! ## times a power of 2: far ones are told apart no more -/
end Go.LE
namespace Go.LE
open Go
/-! ## rounding keeps the order -/
end Go.LE
namespace Go.LE
open Go
/-! ## texts that are ordered as numbers are -/
end Go.LE
namespace Go.LE
open Go
/-! ## of two numbers, rounded, the one that isn't above isn't above either -/
theorem rd_inf {f : Int} (hf : 1 ≤ f ∧ f ≤ 4) {a : Nat} (ha : a ≠ 0) (g m : Int) (neg : Bool) : rdMag f m neg a g ≤ infN f := by
  by_cases hoa : fEMax f < rdT f m neg a g
  · unfold rdMag; rw [if_pos hoa]
    cases overInf m neg <;> simp only [cond_true, cond_false] <;> omega
  · by_cases hs : rdT f m neg a g < 1 - fEMax f
    · have := (rd_sub hf ha hs).2.2.1; omega
    · have := (rd_normal hf ha (g := g) (m := m) (neg := neg) (by omega) (by omega)).1; omega
end Go.LE