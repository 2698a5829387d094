import Derived.Test.YtnanihpaifaceaaGreatDoorW13
import Derived.Test.YtnanihpaifaceaaGreatDoorLeR
set_option linter.unusedVariables false
set_option linter.unusedSimpArgs false
namespace Go.LE
open Go Go.Proofs
structure OpsUm where
  small : Nat → Prop
  mul : Nat → Nat → Nat
  odd : Nat → Bool
noncomputable def ropsUm : OpsUm where
  small := small
  mul := fun a b => a * b
  odd := oddN
def s_mul01 (S : OpsUm) : List LV → R LV
  | [.big a, .big b] => .req (S.small a) (.req (S.small b) (.ok (.big (S.mul a b))))
  | _ => .fail
def s_odd01 (S : OpsUm) : List LV → R LV
  | [.big a] => .ok (.bool (S.odd a))
  | _ => .fail
end Go.LE