import Derived.Test.YtapdblddamhdfaaDoorW4
set_option linter.unusedVariables false
set_option linter.unusedSimpArgs false
namespace Go.LE
open Go Go.Proofs
end Go.LE
namespace Go.LE
open Go Go.Proofs
def s_sign05 (S : Ops) : List LV → R LV
  | [.bool b] => .ok (.str (S.sign05 b))
  | _ => .fail
def s_bword (S : Ops) : List LV → R LV
  | [.str s] => .ok (.word (S.bword s))
  | _ => .fail
end Go.LE
namespace Go.LE
open Go Go.Proofs
def s_refInf (S : Ops) : List LV → R LV
  | [.int _ f, .bool b] => .req (S.isF f) (.ok (.word (S.inf f b)))
  | _ => .fail
def s_refNaN (S : Ops) : List LV → R LV
  | [.int _ f] => .req (S.isF f) (.ok (.word (S.nanw f)))
  | _ => .fail
def s_refMax (S : Ops) : List LV → R LV
  | [.int _ f, .bool b] => .req (S.isF f) (.ok (.word (S.maxw f b)))
  | _ => .fail
def s_refOne (S : Ops) : List LV → R LV
  | [.int _ f] => .req (S.isF f) (.ok (.word (S.onew f)))
  | _ => .fail
def s_refNought (S : Ops) : List LV → R LV
  | [.int _ f, .bool b] => .req (S.isF f) (.ok (.word (S.nought f b)))
  | _ => .fail
end Go.LE