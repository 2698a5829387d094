import Derived.Test.YtnanihpaifaceaaGreatDoorW61
import Derived.Test.YtnanihpaifaceaaGreatDoorUK
set_option linter.unusedVariables false
set_option linter.unusedSimpArgs false
namespace Go.LE
open Go Go.Proofs Go.RowKit
structure OpsTm where
  none : Unit
noncomputable def ropsTm : OpsTm where
  none := ()
def s_TopMirror (_ : OpsTm) : List LV → R LV := fun _ => .ok (.bool true)
theorem p_TopMirror : SpecOk Tryz.prog globs 4 (mkSpec real [.st [.int .i64, .int .i64], .word, .word] (s_TopMirror ropsTm)) := by
  refine ⟨⟨Tryz.f4, _, Tryz.func4, rfl, by kernel_rfl⟩, fun args r hY w vals hv hg => ?_⟩
  unfold mkSpec at hY
  split at hY
  · rename_i l hl
    obtain ⟨hv', hfm⟩ := canons_VV _ args l vals hl hv
    simp only [Forms, Form] at hfm
    obtain ⟨_, _, rfl, ⟨_, rfl, _, _, rfl, ⟨f, rfl, _, _⟩, _, _, rfl, ⟨m, rfl, _, _⟩, rfl⟩, _, _, rfl, ⟨a, rfl⟩, _, _, rfl, ⟨b, rfl⟩, rfl⟩ := hfm
    have hr : r = _ := hY.symm
    subst hr
    simp only [VVs, VV, VCs, VC] at hv'
    obtain ⟨_, _, rfl, ⟨cs, rfl, _, _, rfl, ⟨hf0, rfl⟩, _, _, rfl, ⟨hm0, rfl⟩, rfl⟩, _, _, rfl, rfl, _, _, rfl, rfl, rfl⟩ := hv'
    refine (Tryz.topMirror f m hf0 hm0 a b w hg).mono ?_
    rintro e w' ⟨rfl, hb⟩
    exact ⟨_, rfl, rfl, hb⟩
  · exact hY.elim
end Go.LE