import Derived.Test.YtapdblddamhdfaaDoorW10
import Derived.Test.YtapdblddamhdfaaDoorLeN
import Derived.Test.YtapdblddamhdfaaDoorLeO
set_option linter.unusedVariables false
set_option linter.unusedSimpArgs false
namespace Go.LE
open Go Go.Proofs
structure OpsE where
  fin : Int → BitVec 128 → Bool
  nan : Int → BitVec 128 → Bool
  isC : Int → BitVec 128 → Int → Prop
  isN : Int → BitVec 128 → Bool → Prop
noncomputable def ropsE : OpsE where
  fin := wFin
  nan := wNaN
  isC := fun f w c => cls f w = c
  isN := fun f w b => wNeg f w = b
def s_awake06 (_ : OpsB) : List LV → R LV := fun _ => .ok (.bool true)
def s_ClassOf (_ : OpsB) : List LV → R LV := fun _ => .ok (.bool true)
def s_ClassSigns (_ : OpsB) : List LV → R LV := fun _ => .ok (.bool true)
def s_cFinite (S : OpsE) : List LV → R LV
  | [.int _ f, .word w] => .ok (.bool (S.fin f w))
  | _ => .fail
def s_cIsNaN (S : OpsE) : List LV → R LV
  | [.int _ f, .word w] => .ok (.bool (S.nan f w))
  | _ => .fail
def s_cOfL (c : Int) (S : OpsE) : List LV → R LV
  | [.int _ f, .word w] => .req (S.isC f w c) (.ok (.lit .i64 c))
  | _ => .fail
def s_class06L (c : Int) (S : OpsE) : List LV → R LV
  | [.int _ f, .word w] => .req (S.isC f w c) (.ok (.lit .i64 c))
  | _ => .fail
def s_cNegL (b : Bool) (S : OpsE) : List LV → R LV
  | [.int _ f, .word w] => .req (S.isN f w b) (.ok (.blit b))
  | _ => .fail
def s_neg06L (b : Bool) (S : OpsE) : List LV → R LV
  | [.int _ f, .word w] => .req (S.isN f w b) (.ok (.blit b))
  | _ => .fail
def s_cFiniteL (c : Int) (S : OpsE) : List LV → R LV
  | [.int _ f, .word w] => .req (S.isC f w c) (.ok (.blit (decide (c ≥ 4))))
  | _ => .fail
def s_cIsNaNL (c : Int) (S : OpsE) : List LV → R LV
  | [.int _ f, .word w] => .req (S.isC f w c) (.ok (.blit (decide (c = 1 ∨ c = 2))))
  | _ => .fail
def s_ClassOfAt (c : Int) (b : Bool) (S : OpsE) : List LV → R LV
  | [.int _ f, .word w] => .req (S.isC f w c ∧ S.isN f w b) (.ok (.bool true))
  | _ => .fail
end Go.LE
namespace Go.LE
open Go Go.Proofs
structure OpsF where
  high : Int → Int
  q : Int → BitVec 128 → BitVec 128
  pay : Int → BitVec 128 → W
  nan : Int → BitVec 128 → Bool
noncomputable def ropsF : OpsF where
  high := fun f => arithR .sub .i64 (fPrec f) 2
  q := qW
  pay := payW
  nan := wNaN
def s_high (S : OpsF) : List LV → R LV
  | [.int _ f] => .ok (.int .i64 (S.high f))
  | _ => .fail
def s_quieted (S : OpsF) : List LV → R LV
  | [.int _ f, .word w] => .ok (.word (S.q f w))
  | _ => .fail
def s_quieted10 (S : OpsF) : List LV → R LV
  | [.int _ f, .word w] => .ok (.word (S.q f w))
  | _ => .fail
def s_payload (S : OpsF) : List LV → R LV
  | [.int _ f, .word w] => .ok (.tup [.wide (S.pay f w), .bool (S.nan f w)])
  | _ => .fail
structure OpsG where
  sig : Int → BitVec 128 → Bool
  idxN : Int → List (BitVec 128) → Int
  idxS : Int → List (BitVec 128) → Int
  anyS : Int → List (BitVec 128) → Bool
  nanV : Int → List (BitVec 128) → BitVec 128
  nanX : Int → List (BitVec 128) → Int
  nanIs : Int → List (BitVec 128) → Bool
noncomputable def ropsG : OpsG where
  sig := isSig
  idxN := fun f l => idxP (wNaN f) l
  idxS := fun f l => idxP (isSig f) l
  anyS := fun f l => l.any (isSig f)
  nanV := nanV
  nanX := nanX
  nanIs := nanIs
def s_of1 (S : OpsF) : List LV → R LV
  | [.word w, .cell (.int _ f)] => .ok (.bool (S.nan f w))
  | _ => .fail
def s_of2 (S : OpsG) : List LV → R LV
  | [.word w, .cell (.int _ f)] => .ok (.bool (S.sig f w))
  | _ => .fail
def s_idxN (S : OpsG) : List LV → R LV
  | [.words l, .fn _ [.cell (.int _ f)]] => .ok (.int .i64 (S.idxN f l))
  | _ => .fail
def s_idxS (S : OpsG) : List LV → R LV
  | [.words l, .fn _ [.cell (.int _ f)]] => .ok (.int .i64 (S.idxS f l))
  | _ => .fail
def s_anyS (S : OpsG) : List LV → R LV
  | [.words l, .fn _ [.cell (.int _ f)]] => .ok (.bool (S.anyS f l))
  | _ => .fail
def s_nanOf (S : OpsG) : List LV → R LV
  | [.int _ f, .words l] => .ok (.tup [.word (S.nanV f l), .int .i64 (S.nanX f l), .bool (S.nanIs f l)])
  | _ => .fail
theorem sig_eq (f : Int) (w : BitVec 128) : cmpR .eql (cls f w) 1 = isSig f w := by
  unfold isSig
  by_cases h : cls f w = 1
  · rw [decide_eq_true h, c_eql_t]; exact h
  · rw [decide_eq_false h, c_eql_f]; exact h
theorem sig_nan {f : Int} {w : BitVec 128} (h : isSig f w = true) : wNaN f w = true := by
  have h1 : cls f w = 1 := by unfold isSig at h; exact of_decide_eq_true h
  unfold wNaN
  exact decide_eq_true (.inl h1)
end Go.LE