import Derived.Test.YtbbggnihogcjcaaW54
import Derived.Test.YtbbggnihogcjcaaRows
import Derived.WalkKit
import Derived.ProofKit
import Derived.OpenShut
set_option linter.unusedVariables false
set_option linter.unusedSimpArgs false
namespace Go.Proofs.Ytbbggnihogcjcaa
open Go Go.LE Go.RowKit
theorem own : ownKnob Try.prog.godebug = none := by kernel_rfl
theorem globs_at {W : World} {laid : List (String × DataW Unit)} (_ : laidMetH Try.prog laid W) : GR globs none' W := GR_nil
end Go.Proofs.Ytbbggnihogcjcaa