import Derived.Test.YtnanihpaifaceaaGreatDoorW61
import Derived.Test.YtnanihpaifaceaaGreatDoorCards
import Derived.Test.YtnanihpaifaceaaGreatDoorTie
import Derived.WalkKit
import Derived.ProofKit
import Derived.OpenShut
set_option linter.unusedVariables false
set_option linter.unusedSimpArgs false
namespace Go.Proofs.YtnanihpaifaceaaGreatDoor
open Go Go.LE Go.RowKit
theorem own : ownKnob Tryz.prog.godebug = none := by kernel_rfl
theorem globs_at {W : World} {laid : List (String × DataW Unit)} (h : laidMetH Tryz.prog laid W) (hl : laid = [("radicand/format.known", Rows.laid_radicand_format_known), ("radicand/engine.names", Rows.laid_radicand_engine_names)] := by rfl) : GR globs none' W := by
  subst hl
  obtain ⟨ps, hl⟩ := laid_of h rfl
  obtain ⟨h1, q, hq⟩ := laid_one (g := 1) (t := 108) (ty := knownT) (c := knownC) hl (by kernel_rfl) (by kernel_rfl) (tyChk_ok _ _ (by kernel_rfl)) rfl rfl rfl rfl rfl
  obtain ⟨h2, _⟩ := laid_one (g := 0) (t := 99) (ty := namesT) (c := namesC) hq (by kernel_rfl) (by kernel_rfl) (tyChk_ok _ _ (by kernel_rfl)) rfl rfl rfl rfl rfl
  exact GR_cons h1 (GR_cons h2 GR_nil)
end Go.Proofs.YtnanihpaifaceaaGreatDoor