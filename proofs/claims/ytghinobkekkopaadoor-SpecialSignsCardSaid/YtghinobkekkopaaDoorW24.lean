import Derived.Test.YtghinobkekkopaaDoorW23
set_option linter.unusedVariables false
set_option linter.unusedSimpArgs false
namespace Go.LE
open Go Go.Proofs
def s_nextY (S : OpsN) : List LV → R LV
  | [.int _ f, .word w, .bool up] => .req (S.knw f w) (.ok (.tup [.word (S.onx f w up), .blit true]))
  | _ => .fail
def s_stepsY (S : OpsR) : List LV → R LV
  | [.int _ f, .word a, .word b] => .req (S.kY f a b) (.ok (.tup [.wide (S.stepW f a b), .blit true]))
  | _ => .fail
end Go.LE