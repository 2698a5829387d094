import Derived.Test.YtnanihpaifaceaaGreatDoorW61
import Derived.Test.YtnanihpaifaceaaGreatDoorUJ
set_option linter.unusedVariables false
set_option linter.unusedSimpArgs false
namespace Go.LE
open Go Go.Proofs Go.RowKit
structure OpsTp where
  none : Unit
noncomputable def ropsTp : OpsTp where
  none := ()
def s_TopSelf (_ : OpsTp) : List LV → R LV := fun _ => .ok (.bool true)
theorem p_TopSelf : SpecOk Tryz.prog globs 5 (mkSpec real [.st [.int .i64, .int .i64], .word] (s_TopSelf ropsTp)) := by
  refine ⟨⟨Tryz.f5, _, Tryz.func5, rfl, by kernel_rfl⟩, fun args r hY w vals hv hg => ?_⟩
  unfold mkSpec at hY
  split at hY
  · rename_i l hl
    obtain ⟨hv', hfm⟩ := canons_VV _ args l vals hl hv
    simp only [Forms, Form] at hfm
    obtain ⟨_, _, rfl, ⟨_, rfl, _, _, rfl, ⟨f, rfl, _, _⟩, _, _, rfl, ⟨m, rfl, _, _⟩, rfl⟩, _, _, rfl, ⟨a, rfl⟩, rfl⟩ := hfm
    have hr : r = _ := hY.symm
    subst hr
    simp only [VVs, VV, VCs, VC] at hv'
    obtain ⟨_, _, rfl, ⟨cs, rfl, _, _, rfl, ⟨hf0, rfl⟩, _, _, rfl, ⟨hm0, rfl⟩, rfl⟩, _, _, rfl, rfl, rfl⟩ := hv'
    refine (Tryz.topSelf f m hf0 hm0 a w hg).mono ?_
    rintro e w' ⟨rfl, hb⟩
    exact ⟨_, rfl, rfl, hb⟩
  · exact hY.elim
end Go.LE