import Derived.Test.YtcmicmbpcgminaaGreatDoorW8
import Derived.Test.YtcmicmbpcgminaaGreatDoorCards
import Derived.Test.YtcmicmbpcgminaaGreatDoorTie
import Derived.WalkKit
import Derived.ProofKit
import Derived.OpenShut
set_option linter.unusedVariables false
set_option linter.unusedSimpArgs false
namespace Go.Proofs.YtcmicmbpcgminaaGreatDoor
open Go Go.LE Go.RowKit
theorem own : ownKnob Tryz.prog.godebug = none := by kernel_rfl
theorem globs_at {W : World} {laid : List (String × DataW Unit)} (h : laidMetH Tryz.prog laid W) (hl : laid = [("radicand/format.known", Rows.laid_radicand_format_known)] := by rfl) : GR globs none' W := by
  subst hl
  obtain ⟨ps, hl⟩ := laid_of h rfl
  obtain ⟨h1, _⟩ := laid_one (g := 0) (t := 149) (ty := knownT) (c := knownC) hl (by kernel_rfl) (by kernel_rfl) (tyChk_ok _ _ (by kernel_rfl)) rfl rfl rfl rfl rfl
  exact GR_cons h1 GR_nil
end Go.Proofs.YtcmicmbpcgminaaGreatDoor