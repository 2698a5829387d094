import Derived.Test.YtapdblddamhdfaaDoorW5
set_option linter.unusedVariables false
set_option linter.unusedSimpArgs false
namespace Go.LE
open Go Go.Proofs
structure OpsB where
  nn : Int → Prop
  notF : Int → Prop
  yesF : Int → Prop
  notIs : Int → Prop
  is : Int → Prop
  wdbit : BitVec 128 → Int → Bool
  fits : Int → BitVec 128 → Bool
  fname : Int → ByteArray
  byN : ByteArray → Int
  byOk : ByteArray → Bool
noncomputable def ropsB : OpsB where
  nn := fun n => 0 ≤ n
  notF := fun f => fOk f = false
  yesF := fun f => fOk f = true
  notIs := fun f => ¬ (1 ≤ f ∧ f ≤ 4)
  is := fun f => 1 ≤ f ∧ f ≤ 4
  wdbit := wdBit
  fits := fFits
  fname := fName
  byN := fByName
  byOk := fun s => decide (fByName s > 0)
def s_isNot (S : OpsB) : List LV → R LV
  | [.int _ f] => .req (S.notF f) (.ok (.blit false))
  | _ => .fail
def s_isYes (S : OpsB) : List LV → R LV
  | [.int _ f] => .req (S.yesF f) (.ok (.blit true))
  | _ => .fail
def s_bit05 (S : OpsB) : List LV → R LV
  | [.word w, .int _ n] => .req (S.nn n) (.ok (.bool (S.wdbit w n)))
  | _ => .fail
def s_fits05 (S : OpsB) : List LV → R LV
  | [.int _ f, .word w] => .ok (.bool (S.fits f w))
  | _ => .fail
def s_fits (S : OpsB) : List LV → R LV
  | [.int _ f, .word w] => .ok (.bool (S.fits f w))
  | _ => .fail
def s_fname (S : OpsB) : List LV → R LV
  | [.int _ f] => .ok (.str (S.fname f))
  | _ => .fail
def s_byName (S : OpsB) : List LV → R LV
  | [.str s] => .ok (.tup [.int .i64 (S.byN s), .bool (S.byOk s)])
  | _ => .fail
def s_true (_ : OpsB) : List LV → R LV := fun _ => .ok (.bool true)
def s_FormatWords (_ : OpsB) : List LV → R LV := fun _ => .ok (.bool true)
def s_FormatOf (_ : OpsB) : List LV → R LV := fun _ => .ok (.bool true)
def s_FormatOfNot (S : OpsB) : List LV → R LV
  | [.int _ f] => .req (S.notIs f) (.ok (.bool true))
  | _ => .fail
def s_FormatOfYes (S : OpsB) : List LV → R LV
  | [.int _ f] => .req (S.is f) (.ok (.bool true))
  | _ => .fail
def s_FormatNames (_ : OpsB) : List LV → R LV := fun _ => .ok (.bool true)
def s_awake05 (_ : OpsB) : List LV → R LV := fun _ => .ok (.bool true)
theorem kb_t (b : Bool) : kR .bool (.bool true) (.bool b) = (b = true) := by
  simp only [kR, canon, isArgB, Option.some.injEq, LV.bool.injEq]
theorem kb_lt : kR .bool (.bool true) (.blit true) = True := by
  simp only [kR, canon, isArgB]
theorem kb_lf : kR .bool (.bool true) (.blit false) = False := by
  simp [kR, canon, isArgB]
theorem dt {p : Prop} [Decidable p] (h : p) : decide p = true := decide_eq_true h
end Go.LE