import Derived.Calls
import Derived.Orders
import Derived.Scope
import Derived.Below
import Derived.Tactics
import Derived.Laws.World
import Derived.Laws.BitsLemmas
import Derived.Laws.BitsAllLaws
import Derived.Laws.AppendOwn
import Derived.Laws.MakeOwn
import Derived.Laws.Cells
import Derived.Laws.CopyRow
import Derived.Laws.Entries
import Derived.Laws.Tables
import Derived.Laws.StructEq
import Derived.ChangeKeysEq
import Derived.Laws.Bits64
set_option linter.unusedVariables false
set_option linter.unusedSimpArgs false
namespace Go.LE
open Go

/-! ## Numbers that are written out are compared at once -/
abbrev natEq (a b : Nat) : Bool := a == b
abbrev natLt (a b : Nat) : Bool := decide (a < b)
abbrev natLe (a b : Nat) : Bool := decide (a ≤ b)
theorem natEq_true {a b : Nat} (h : natEq a b = true) : a = b := eq_of_beq h
theorem natLe_true {a b : Nat} (h : natLe a b = true) : a ≤ b := of_decide_eq_true h
theorem natLe_iff {a b : Nat} : (natLe a b = true) = (a ≤ b) := by simp [natLe]
/-! ## Types, abstract values -/
inductive Ty where
  | int (k : IntKind) | bool | str | slice (e : Ty) | func
  | struct (fs : List Ty) | arr (n : Nat) (e : Ty)
  deriving Inhabited

mutual
def Ty.size : Ty → Nat
  | .struct fs => Ty.sizes fs
  | .arr n e => n * e.size
  | _ => 1
def Ty.sizes : List Ty → Nat
  | [] => 0
  | t :: ts => t.size + Ty.sizes ts
end

def Ty.isU32 : IntKind → Bool
  | .u32 => true
  | _ => false
mutual
/-- no cell of it is a uint32 -/
def Ty.noU32 : Ty → Bool
  | .int k => !Ty.isU32 k
  | .struct fs => Ty.noU32s fs
  | .arr _ e => e.noU32
  | _ => true
def Ty.noU32s : List Ty → Bool
  | [] => true
  | t :: ts => t.noU32 && Ty.noU32s ts
end
def kindEq : IntKind → IntKind → Bool
  | .i8, .i8 | .i16, .i16 | .i32, .i32 | .i64, .i64 | .u8, .u8 | .u16, .u16 | .u32, .u32 | .u64, .u64 => true
  | _, _ => false

/-- what lists' elements may be -/
inductive EK where
  | int (k : IntKind) | bool
  deriving Inhabited
abbrev EK.u8 : EK := .int .u8
abbrev EK.u32 : EK := .int .u32
abbrev EK.u64 : EK := .int .u64
def ekEq : EK → EK → Bool
  | .int k, .int j => kindEq k j
  | .bool, .bool => true
  | _, _ => false
def ekOf : Ty → Option EK
  | .int k => some (.int k)
  | .bool => some .bool
  | _ => none
mutual
def Ty.eqb : Ty → Ty → Bool
  | .int k, .int j => kindEq k j
  | .bool, .bool => true
  | .str, .str => true
  | .slice a, .slice b => a.eqb b
  | .func, .func => true
  | .struct fs, .struct gs => Ty.eqbs fs gs
  | .arr n e, .arr m f => n == m && e.eqb f
  | _, _ => false
def Ty.eqbs : List Ty → List Ty → Bool
  | [], [] => true
  | a :: as, b :: bs => a.eqb b && Ty.eqbs as bs
  | _, _ => false
end

inductive LV where
  | int (k : IntKind) (n : Int) | lit (k : IntKind) (n : Int)
  | bool (b : Bool) | blit (b : Bool)
  | str (s : ByteArray) | slit (s : ByteArray)
  | wide (b : BitVec 512) | word (b : BitVec 128)
  | agg (ps : List LV) | tup (ps : List LV)
  | ptr (k off : Nat) | gptr (g off : Nat)
  | sl (k off len : Nat)
  | fn (f : FuncId) (cs : List LV)
  | nils | nilf
  | im (l : List LV)
  | big (n : Nat)
  | words (l : List (BitVec 128)) | ints (k : EK) (l : List Int)
  | cell (c : LV)
  | own (k : EK) (l : List Int)
  | oel (k : EK) (l : List Int) (i : Int)
  | undef
  deriving Inhabited

/-! ## What is kept abstract while a body is evaluated -/
structure Prim where
  arith : BinOp → IntKind → Int → Int → Int
  cmp : BinOp → Int → Int → Bool
  conv : IntKind → Int → Int
  un : UnOp → IntKind → Int → Int
  bnot : Bool → Bool
  band : Bool → Bool → Bool
  beq : Bool → Bool → Bool
  sel : Bool → Bool → Bool → Bool
  mx : Int → Int → Int
  mn : Int → Int → Int
  limb : BitVec 512 → Nat → Int
  ofLimbs : Int → Int → Int → Int → Int → Int → Int → Int → BitVec 512
  eqW : BitVec 512 → BitVec 512 → Bool
  hi : BitVec 128 → Int
  lo : BitVec 128 → Int
  mkWord : Int → Int → BitVec 128
  eqWord : BitVec 128 → BitVec 128 → Bool
  strEq : ByteArray → ByteArray → Bool
  strCat : ByteArray → ByteArray → ByteArray
  strLen : ByteArray → Int
  strCut : ByteArray → Int → Int → ByteArray
  cutOk : Int → Int → ByteArray → Prop
  strFits : ByteArray → ByteArray → Prop
  byteAt : ByteArray → Int → Int
  nonneg : Int → Prop
  nz : Int → Prop
  inB : Int → Nat → Prop
  lenBig : Nat → Int
  lenW : List (BitVec 128) → Int
  lenI : List Int → Int
  inW : Int → List (BitVec 128) → Prop
  inI : Int → List Int → Prop
  nthI : List Int → Int → Int
  nthW : List (BitVec 128) → Int → BitVec 128
  inS : Int → ByteArray → Prop
  digI : Nat → Int → Int
  inD : Int → Nat → Prop
  takeI : List Int → Int → List Int
  dropI : List Int → Int → List Int
  toI : Int → List Int → Prop
  appI : List Int → List Int → List Int
  setI : List Int → Int → Int → List Int
  zerosI : Int → List Int
  room : List Int → List Int → Prop
  roomN : Int → Prop
  strLe : ByteArray → ByteArray → Bool
  b2i : Bool → Int

def digs : Nat → Nat → List Int
  | 0, _ => []
  | f + 1, n => if n = 0 then [] else ((n % 2 ^ 32 : Nat) : Int) :: digs f (n / 2 ^ 32)
/-- the digits of 32 bits of a number, the lowest first -/
def dig (n : Nat) : List Int := digs n n

def limbR (b : BitVec 512) (i : Nat) : Int := ((b.toNat / 2 ^ (64 * i) % 2 ^ 64 : Nat) : Int)
def ofLimbsR (a b c d e f g h : Int) : BitVec 512 :=
  BitVec.ofNat 512 (a.toNat + 18446744073709551616 * (b.toNat + 18446744073709551616 * (c.toNat + 18446744073709551616 * (d.toNat + 18446744073709551616 * (e.toNat + 18446744073709551616 * (f.toNat + 18446744073709551616 * (g.toNat + 18446744073709551616 * (h.toNat))))))))
def hiR (b : BitVec 128) : Int := ((b.toNat / 2 ^ 64 : Nat) : Int)
def loR (b : BitVec 128) : Int := ((b.toNat % 2 ^ 64 : Nat) : Int)
def mkWordR (h l : Int) : BitVec 128 := BitVec.ofNat 128 (l.toNat + h.toNat * 2 ^ 64)

def arithR : BinOp → IntKind → Int → Int → Int
  | .add, k, x, y => k.wrap (x + y)
  | .sub, k, x, y => k.wrap (x - y)
  | .mul, k, x, y => k.wrap (x * y)
  | .quo, k, x, y => k.wrap (x.tdiv y)
  | .rem, _, x, y => x.tmod y
  | .and, k, x, y => k.wrap (BitVec.ofInt k.bits x &&& BitVec.ofInt k.bits y).toNat
  | .or, k, x, y => k.wrap (BitVec.ofInt k.bits x ||| BitVec.ofInt k.bits y).toNat
  | .xor, k, x, y => k.wrap (BitVec.ofInt k.bits x ^^^ BitVec.ofInt k.bits y).toNat
  | .andNot, k, x, y => k.wrap (BitVec.ofInt k.bits x &&& ~~~(BitVec.ofInt k.bits y)).toNat
  | .shl, k, x, y => k.wrap (x * 2 ^ (min y.toNat k.bits))
  | .shr, k, x, y => x.fdiv (2 ^ (min y.toNat k.bits))
  | _, _, _, _ => 0

def cmpR : BinOp → Int → Int → Bool
  | .eql, x, y => x == y
  | .neq, x, y => x != y
  | .lss, x, y => decide (x < y)
  | .leq, x, y => decide (x ≤ y)
  | .gtr, x, y => decide (x > y)
  | .geq, x, y => decide (x ≥ y)
  | _, _, _ => false

def unR : UnOp → IntKind → Int → Int
  | .neg, k, x => k.wrap (-x)
  | .xor, k, x => k.wrap (-x - 1)
  | _, _, x => x

def byteOf (s : ByteArray) (i : Int) : Int := ((s.data.toList.getD i.toNat 0).toNat : Int)
def real : Prim where
  arith := arithR
  cmp := cmpR
  conv := fun k n => k.wrap n
  un := unR
  bnot := fun b => !b
  band := fun a b => a && b
  beq := fun a b => a == b
  sel := fun c a b => bif c then a else b
  mx := fun x y => if y > x then y else x
  mn := fun x y => if y < x then y else x
  limb := limbR
  ofLimbs := ofLimbsR
  eqW := fun a b => decide (a = b)
  hi := hiR
  lo := loR
  mkWord := mkWordR
  eqWord := fun a b => decide (a = b)
  strEq := fun a b => a.toList == b.toList
  strCat := fun a b => a ++ b
  strCut := fun s l h => s.extract l.toNat h.toNat
  cutOk := fun l h s => 0 ≤ l ∧ l ≤ h ∧ h ≤ (s.size : Int)
  strLen := fun a => (a.size : Int)
  strFits := fun a b => ((a.size + b.size : Nat) : Int) ≤ IntKind.i64.max
  byteAt := byteOf
  nonneg := fun n => 0 ≤ n
  nz := fun n => n ≠ 0
  inB := fun i n => 0 ≤ i ∧ i < (n : Int)
  lenBig := fun n => ((dig n).length : Int)
  lenW := fun l => (l.length : Int)
  lenI := fun l => (l.length : Int)
  inW := fun i l => 0 ≤ i ∧ i < (l.length : Int)
  inI := fun i l => 0 ≤ i ∧ i < (l.length : Int)
  nthI := fun l i => l.getD i.toNat 0
  nthW := fun l i => l.getD i.toNat 0#128
  inS := fun i s => 0 ≤ i ∧ i < (s.size : Int)
  digI := fun n i => (dig n).getD i.toNat 0
  inD := fun i n => 0 ≤ i ∧ i < ((dig n).length : Int)
  takeI := fun l i => l.take i.toNat
  dropI := fun l i => l.drop i.toNat
  toI := fun i l => 0 ≤ i ∧ i ≤ (l.length : Int)
  appI := fun l m => l ++ m
  setI := fun l i x => l.set i.toNat x
  zerosI := fun n => List.replicate n.toNat 0
  room := fun l m => ((l.length + m.length : Nat) : Int) ≤ 1099511627776
  roomN := fun n => 0 ≤ n ∧ n ≤ 1099511627776
  strLe := fun a b => Go.Op.bytesLess a.toList b.toList || a.toList == b.toList
  b2i := fun b => bif b then 1 else 0

/-! ## Outcomes: a tree over tests and obligations -/
inductive R (α : Type) where
  | ok (a : α)
  | fail
  | req (p : Prop) (r : R α)
  | br (b : Bool) (x y : R α)

def R.wp {α : Type} : R α → (α → Prop) → Prop
  | .ok a, K => K a
  | .fail, _ => False
  | .req p r, K => p ∧ r.wp K
  | .br b x y, K => (b = false ∨ x.wp K) ∧ (b = true ∨ y.wp K)

def R.bind {α β : Type} : R α → (α → R β) → R β
  | .ok a, f => f a
  | .fail, _ => .fail
  | .req p r, f => .req p (r.bind f)
  | .br b x y, f => .br b (x.bind f) (y.bind f)

/-! ## Small readers -/
def nth : List LV → Nat → LV
  | [], _ => .undef
  | x :: _, 0 => x
  | _ :: xs, n + 1 => nth xs n

def setN : List LV → Nat → LV → List LV
  | [], _, _ => []
  | _ :: xs, 0, v => v :: xs
  | x :: xs, n + 1, v => x :: setN xs n v
/-- .. in steps of eight -/
def nthF : List LV → Nat → LV
  | a :: b :: c :: d :: e :: f :: g :: h :: l, n => match natLt n 8 with
    | true => nth [a, b, c, d, e, f, g, h] n
    | false => nthF l (n - 8)
  | l, n => nth l n
def setF : List LV → Nat → LV → List LV
  | a :: b :: c :: d :: e :: f :: g :: h :: l, n, v => match natLt n 8 with
    | true => match n with
      | 0 => v :: b :: c :: d :: e :: f :: g :: h :: l
      | 1 => a :: v :: c :: d :: e :: f :: g :: h :: l
      | 2 => a :: b :: v :: d :: e :: f :: g :: h :: l
      | 3 => a :: b :: c :: v :: e :: f :: g :: h :: l
      | 4 => a :: b :: c :: d :: v :: f :: g :: h :: l
      | 5 => a :: b :: c :: d :: e :: v :: g :: h :: l
      | 6 => a :: b :: c :: d :: e :: f :: v :: h :: l
      | _ => a :: b :: c :: d :: e :: f :: g :: v :: l
    | false => a :: b :: c :: d :: e :: f :: g :: h :: setF l (n - 8) v
  | l, n, v => setN l n v

def ofVal : Value → LV
  | .int k n => match decide (k.wrap n = n) with
    | true => .lit k n
    | false => .undef
  | .bool b => .blit b
  | .string s => match natLt s.size 1000000 with
    | true => .slit s
    | false => .undef
  | .slice none 0 0 => .nils
  | _ => .undef

def evL (t : List LV) : Operand → LV
  | .tmp i => nthF t i
  | .const v => ofVal v
  | .global g => .gptr g 0
  | .func f => .fn f []

/-- an int, and whether it is written out -/
def asInt : LV → Option (IntKind × Int × Bool)
  | .int k n => some (k, n, false)
  | .lit k n => some (k, n, true)
  | _ => none

def allInts8 (O : Prim) : List LV → Option (BitVec 512)
  | [a, b, c, d, e, f, g, h] =>
    match asInt a, asInt b, asInt c, asInt d, asInt e, asInt f, asInt g, asInt h with
    | some (.u64, a, _), some (.u64, b, _), some (.u64, c, _), some (.u64, d, _), some (.u64, e, _), some (.u64, f, _), some (.u64, g, _), some (.u64, h, _) =>
      some (O.ofLimbs a b c d e f g h)
    | _, _, _, _, _, _, _, _ => none
  | _ => none

def getW (O : Prim) : LV → Option (BitVec 512)
  | .wide b => some b
  | .agg ps => allInts8 O ps
  | _ => none

def getWord (O : Prim) : LV → Option (BitVec 128)
  | .word b => some b
  | .agg [a, b] => match asInt a, asInt b with
    | some (.u64, h, _), some (.u64, l, _) => some (O.mkWord h l)
    | _, _ => none
  | _ => none

def u64 : IntKind := .u64
def limbs (O : Prim) (b : BitVec 512) : List LV :=
  [.int .u64 (O.limb b 0), .int .u64 (O.limb b 1), .int .u64 (O.limb b 2), .int .u64 (O.limb b 3),
   .int .u64 (O.limb b 4), .int .u64 (O.limb b 5), .int .u64 (O.limb b 6), .int .u64 (O.limb b 7)]

/-- the parts of an aggregate -/
def partsOf (O : Prim) : LV → Option (List LV)
  | .agg ps => some ps
  | .wide b => some (limbs O b)
  | .word b => some [.int .u64 (O.hi b), .int .u64 (O.lo b)]
  | _ => none

def repsLV : Nat → LV → List LV
  | 0, _ => []
  | n + 1, a => a :: repsLV n a
mutual
def Ty.zero : Ty → LV
  | .int k => .lit k 0
  | .bool => .blit false
  | .str => .slit ByteArray.empty
  | .slice _ => .nils
  | .func => .nilf
  | .struct fs => .agg (Ty.zeros fs)
  | .arr n e => .agg (repsLV n e.zero)
def Ty.zeros : List Ty → List LV
  | [] => []
  | t :: ts => t.zero :: Ty.zeros ts
end

mutual
/-- how many cells -/
def LV.size : LV → Nat
  | .wide _ => 8
  | .word _ => 2
  | .agg ps => LV.sizes ps
  | _ => 1
def LV.sizes : List LV → Nat
  | [] => 0
  | p :: ps => p.size + LV.sizes ps
end

mutual
/-- has it the form of a type's values? -/
def shape : Ty → LV → Bool
  | .int k, .int j _ | .int k, .lit j _ => kindEq k j
  | .bool, .bool _ | .bool, .blit _ => true
  | .str, .str _ | .str, .slit _ => true
  | .slice _, .nils | .slice _, .sl _ _ _ | .slice _, .im _ | .slice _, .big _ | .slice _, .words _ | .slice _, .ints _ _ => true
  | .func, .fn _ _ | .func, .nilf => true
  | .struct fs, .agg ps => shapes fs ps
  | .struct [.int .u64, .int .u64], .word _ => true
  | .arr n e, .agg ps => natEq ps.length n && shapeEl e ps
  | .arr 8 (.int .u64), .wide _ => true
  | _, _ => false
def shapes : List Ty → List LV → Bool
  | [], [] => true
  | f :: fs, p :: ps => shape f p && shapes fs ps
  | _, _ => false
def shapeEl : Ty → List LV → Bool
  | _, [] => true
  | e, p :: ps => shape e p && shapeEl e ps
end

/-- the part of type 'tgt' at cell 'off' -/
def getAt (O : Prim) : Nat → Ty → LV → Nat → Ty → Option LV
  | 0, _, _, _, _ => none
  | d + 1, ty, lv, off, tgt =>
    match off == 0 && ty.eqb tgt with
    | true => some lv
    | false =>
      match ty, partsOf O lv with
      | .struct fs, some ps => getIn O d fs ps off tgt
      | .arr _ e, some ps => getEl O d e ps off tgt
      | _, _ => none
where
  getIn (O : Prim) (d : Nat) : List Ty → List LV → Nat → Ty → Option LV
    | f :: fs, p :: ps, off, tgt =>
      match natLt off f.size with
      | true => getAt O d f p off tgt
      | false => getIn O d fs ps (off - f.size) tgt
    | _, _, _, _ => none
  getEl (O : Prim) (d : Nat) (e : Ty) : List LV → Nat → Ty → Option LV
    | p :: ps, off, tgt =>
      match natLt off e.size with
      | true => getAt O d e p off tgt
      | false => getEl O d e ps (off - e.size) tgt
    | _, _, _ => none

def setAt (O : Prim) : Nat → Ty → LV → Nat → Ty → LV → Option LV
  | 0, _, _, _, _, _ => none
  | d + 1, ty, lv, off, tgt, v =>
    match off == 0 && ty.eqb tgt with
    | true => some v
    | false =>
      match ty, partsOf O lv with
      | .struct fs, some ps => (setIn O d fs ps off tgt v).map .agg
      | .arr _ e, some ps => (setEl O d e ps off tgt v).map .agg
      | _, _ => none
where
  setIn (O : Prim) (d : Nat) : List Ty → List LV → Nat → Ty → LV → Option (List LV)
    | f :: fs, p :: ps, off, tgt, v =>
      match natLt off f.size with
      | true => (setAt O d f p off tgt v).map (· :: ps)
      | false => (setIn O d fs ps (off - f.size) tgt v).map (p :: ·)
    | _, _, _, _, _ => none
  setEl (O : Prim) (d : Nat) (e : Ty) : List LV → Nat → Ty → LV → Option (List LV)
    | p :: ps, off, tgt, v =>
      match natLt off e.size with
      | true => (setAt O d e p off tgt v).map (· :: ps)
      | false => (setEl O d e ps (off - e.size) tgt v).map (p :: ·)
    | _, _, _, _ => none

mutual
/-- '==' by type -/
def eqTy (O : Prim) : Ty → LV → LV → Option Bool
  | .int _, x, y => match asInt x, asInt y with
    | some (_, a, _), some (_, b, _) => some (O.cmp .eql a b)
    | _, _ => none
  | .bool, .bool a, .bool b => some (O.beq a b)
  | .bool, .blit a, .bool b => some (O.beq a b)
  | .bool, .bool a, .blit b => some (O.beq a b)
  | .bool, .blit a, .blit b => some (O.beq a b)
  | .str, .str a, .str b => some (O.strEq a b)
  | .str, .slit a, .str b => some (O.strEq a b)
  | .str, .str a, .slit b => some (O.strEq a b)
  | .str, .slit a, .slit b => some (O.strEq a b)
  | .struct fs, x, y =>
    match getWord O x, getWord O y with
    | some a, some b => some (O.eqWord a b)
    | _, _ => match partsOf O x, partsOf O y with
      | some xs, some ys => eqTys O fs xs ys
      | _, _ => none
  | .arr _ e, x, y =>
    match getW O x, getW O y with
    | some a, some b => some (O.eqW a b)
    | _, _ => match partsOf O x, partsOf O y with
      | some xs, some ys => eqEls O e xs ys
      | _, _ => none
  | _, _, _ => none
def eqTys (O : Prim) : List Ty → List LV → List LV → Option Bool
  | [], [], [] => some true
  | t :: ts, x :: xs, y :: ys => match eqTy O t x y, eqTys O ts xs ys with
    | some a, some b => some (O.band a b)
    | _, _ => none
  | _, _, _ => none
def eqEls (O : Prim) (e : Ty) : List LV → List LV → Option Bool
  | [], [] => some true
  | x :: xs, y :: ys => match eqTy O e x y, eqEls O e xs ys with
    | some a, some b => some (O.band a b)
    | _, _ => none
  | _, _ => none
end


mutual
/-- nothing in it leads anywhere -/
def flat : LV → Bool
  | .int _ _ | .lit _ _ | .bool _ | .blit _ | .str _ | .slit _ | .wide _ | .word _ | .gptr _ _ | .nils | .nilf => true
  | .agg ps => flats ps
  | _ => false
def flats : List LV → Bool
  | [] => true
  | p :: ps => flat p && flats ps
end
def flatV : LV → Bool
  | .tup ps => flats ps
  | v => flat v
mutual
/-- no part of it is a list of the call's own -/
def tame : LV → Bool
  | .own _ _ | .oel _ _ _ => false
  | .tup ps => tames ps
  | _ => true
def tames : List LV → Bool
  | [] => true
  | p :: ps => tame p && tames ps
end
/-! ## One operation -/
inductive Upd where
  | no
  | new (ty : Ty) (c : LV)
  | put (k : Nat) (ty : Ty) (c : LV)

structure OR where
  v : LV
  u : Upd
  rd : Option Nat

/-- a specification: of arguments the obligations and the result -/
abbrev Spec := List LV → R LV

inductive FnE where
  | spec (s : Spec)
  | ext (s : Spec)      -- without a body: the value comes at once
  | inl (c : Code) (ntmps : Nat) (res : List ResultVar)

structure Env where
  ty : List (TypeId × Ty)
  fns : List (FuncId × FnE)
  globs : List (Nat × Ty × LV)
  loops : Nat → Option Nat
  live : Nat → List Nat := fun _ => []

def look {α : Type} : List (Nat × α) → Nat → Option α
  | [], _ => none
  | (k, a) :: l, n => match natEq k n with
    | true => some a
    | false => look l n

abbrev Bx := Nat → Option (Ty × LV)
def Bx.set (b : Bx) (k : Nat) (c : Ty × LV) : Bx := fun j => match natEq j k with | true => some c | false => b j
def Bx.none : Bx := fun _ => Option.none

def val (v : LV) : R OR := .ok ⟨v, .no, none⟩
def ofOpt (o : Option LV) : R OR := match o with | some v => val v | none => .fail

def isShift : BinOp → Bool
  | .shl | .shr => true
  | _ => false
def isCmp : BinOp → Bool
  | .eql | .neq | .lss | .leq | .gtr | .geq => true
  | _ => false
def isDiv : BinOp → Bool
  | .quo | .rem => true
  | _ => false

def binInt (O : Prim) (op : BinOp) (k : IntKind) (a : Int) (la : Bool) (j : IntKind) (b : Int) (lb : Bool) : R OR :=
  match isShift op with
  | true =>
    match lb with
    | true => match decide (0 ≤ b) with
      | true => match la with
        | true => val (.lit k (arithR op k a b))
        | false => val (.int k (O.arith op k a b))
      | false => .fail
    | false => .req (O.nonneg b) (val (.int k (O.arith op k a b)))
  | false =>
    match kindEq k j with
    | false => .fail
    | true =>
      match isCmp op with
      | true => match la && lb with
        | true => val (.blit (cmpR op a b))
        | false => val (.bool (O.cmp op a b))
      | false =>
        match isDiv op with
        | true => match lb with
          | true => match decide (b = 0) with
            | true => .fail
            | false => match la with
              | true => val (.lit k (arithR op k a b))
              | false => val (.int k (O.arith op k a b))
          | false => .req (O.nz b) (val (.int k (O.arith op k a b)))
        | false => match la && lb with
          | true => val (.lit k (arithR op k a b))
          | false => val (.int k (O.arith op k a b))

def strOf : LV → Option ByteArray
  | .str s | .slit s => some s
  | _ => none

def slits : LV → LV → Bool
  | .slit _, .slit _ => true
  | _, _ => false
def shortS (x y : LV) (a b : ByteArray) : Bool := match slits x y with
  | true => natLt (a.size + b.size) 10000
  | false => false
def binR (O : Prim) (E : Env) (op : BinOp) (t : TypeId) (x y : LV) : R OR :=
  match asInt x, asInt y with
  | some (k, a, la), some (j, b, lb) => binInt O op k a la j b lb
  | _, _ =>
    match op, strOf x, strOf y with
    | .add, some a, some b => match shortS x y a b with
      | true => val (.slit (a ++ b))
      | false => .req (O.strFits a b) (val (.str (O.strCat a b)))
    | .eql, some a, some b => match slits x y with
      | true => val (.blit (a.toList == b.toList))
      | false => val (.bool (O.strEq a b))
    | .neq, some a, some b => val (.bool (O.bnot (O.strEq a b)))
    | .leq, some a, some b => val (.bool (O.strLe a b))
    | _, _, _ =>
      match look E.ty t with
      | some ty =>
        match shape ty x && shape ty y with
        | true => match op, eqTy O ty x y with
          | .eql, some b => val (.bool b)
          | .neq, some b => val (.bool (O.bnot b))
          | _, _ => .fail
        | false => .fail
      | none => .fail

def isArgB : LV → Option Bool
  | .bool b | .blit b => some b
  | _ => none

/-- a list's element, and what it is told as -/
def elV (O : Prim) : EK → Int → LV
  | .int k, n => .int k n
  | .bool, n => .bool (O.cmp .eql n 1)
def numE (O : Prim) (k : EK) (v : LV) : Option Int := match k with
  | .int k => match asInt v with
    | some (j, n, _) => match kindEq k j with
      | true => some n
      | false => none
    | none => none
  | .bool => match isArgB v with
    | some b => some (O.b2i b)
    | none => none
/-- where a pointer leads -/
def readR (O : Prim) (E : Env) (bx : Bx) (t : TypeId) (a : LV) : R OR :=
  match look E.ty t with
  | none => .fail
  | some tgt =>
    match a with
    | .ptr k off => match bx k with
      | some (ty, c) => match getAt O 8 ty c off tgt with
        | some v => .ok ⟨v, .no, some k⟩
        | none => .fail
      | none => .fail
    | .gptr g off => match look E.globs g with
      | some (ty, c) => ofOpt (getAt O 8 ty c off tgt)
      | none => .fail
    | .cell c => match shape tgt c with
      | true => val c
      | false => .fail
    | .oel k l i => match ekOf tgt with
      | some j => match ekEq k j with
        | true => val (elV O k (O.nthI l i))
        | false => .fail
      | none => .fail
    | _ => .fail

def writeR (O : Prim) (E : Env) (bx : Bx) (t : TypeId) (a v : LV) : R OR :=
  match look E.ty t with
  | none => .fail
  | some tgt =>
    match a with
    | .ptr k off => match shape tgt v, bx k with
      | true, some (ty, c) => match setAt O 8 ty c off tgt v with
        | some c' => .ok ⟨.undef, .put k ty c', some k⟩
        | none => .fail
      | _, _ => .fail
    | _ => .fail

def offsetOf : List Ty → Nat → Option Nat
  | _ :: _, 0 => some 0
  | t :: ts, n + 1 => (offsetOf ts n).map (t.size + ·)
  | [], _ => none

/-- the places of an array, one for each index that it may be -/
def pick1 (O : Prim) (i : Int) (f : Nat → R OR) : Nat → Nat → R OR
  | 0, _ => .fail
  | 1, j => f j
  | n + 2, j => .br (O.cmp .eql i (j : Int)) (f j) (pick1 O i f (n + 1) (j + 1))

def atIndex (O : Prim) (n : Nat) (ix : LV) (f : Nat → R OR) : R OR :=
  match asInt ix with
  | some (_, i, true) => match decide (0 ≤ i) && natLt i.toNat n with
    | true => f i.toNat
    | false => .fail
  | some (_, i, false) => .req (O.inB i n) (pick1 O i f n 0)
  | none => .fail

/-- a part of an aggregate, set -/
def setTy : List Ty → List LV → Nat → LV → Option (List LV)
  | f :: _, _ :: ps, 0, v => match shape f v with
    | true => some (v :: ps)
    | false => none
  | _ :: fs, p :: ps, n + 1, v => match setTy fs ps n v with
    | some l => some (p :: l)
    | none => none
  | _, _, _, _ => none
def buildS (fs : List Ty) : List LV → List (Nat × LV) → Option (List LV)
  | l, [] => some l
  | l, (i, v) :: r => match setTy fs l i v with
    | some l => buildS fs l r
    | none => none
def reps {α : Type} : Nat → α → List α
  | 0, _ => []
  | n + 1, a => a :: reps n a

def lenR (O : Prim) (ty : Ty) (x : LV) : R OR :=
  match ty, x with
  | .slice _, .sl _ _ n => val (.lit .i64 n)
  | .slice _, .nils => val (.lit .i64 0)
  | .slice _, .im l => val (.lit .i64 l.length)
  | .slice _, .words l => val (.int .i64 (O.lenW l))
  | .slice _, .ints _ l => val (.int .i64 (O.lenI l))
  | .slice _, .own _ l => val (.int .i64 (O.lenI l))
  | .slice _, .big n => val (.int .i64 (O.lenBig n))
  | .str, .str s => val (.int .i64 (O.strLen s))
  | .str, .slit s => val (.lit .i64 s.size)
  | _, _ => .fail
def builtinR (O : Prim) (E : Env) (b : Builtin) (ts : List TypeId) (args : List LV) : R OR :=
  match b, args with
  | .len, [x] => match ts with
    | t :: _ => match look E.ty t with
      | some ty => lenR O ty x
      | none => .fail
    | [] => .fail
  | .max, [x, y] => match asInt x, asInt y with
    | some (k, a, la), some (j, b, lb) => match kindEq k j, la && lb with
      | true, true => val (.lit k (if b > a then b else a))
      | true, false => val (.int k (O.mx a b))
      | _, _ => .fail
    | _, _ => .fail
  | .min, [x, y] => match asInt x, asInt y with
    | some (k, a, la), some (j, b, lb) => match kindEq k j, la && lb with
      | true, true => val (.lit k (if b < a then b else a))
      | true, false => val (.int k (O.mn a b))
      | _, _ => .fail
    | _, _ => .fail
  | _, _ => .fail

def isCopy : Builtin → Bool
  | .copy => true
  | _ => false
def cpyL (k : IntKind) : List LV → List Int → List LV
  | _ :: ps, x :: xs => .int k x :: cpyL k ps xs
  | ps, _ => ps
/-- numbers are copied into an array of the call's own -/
def copyR (O : Prim) (E : Env) (bx : Bx) (ts : List TypeId) (args : List LV) : R OR :=
  match ts, args with
  | [t, _], [.sl k off n, .ints (.int j) (x :: l)] => match look E.ty t, bx k with
    | some (.slice (.int kd)), some (.arr m (.int ke), c) => match kindEq kd j && kindEq ke j && natEq off 0 && natEq n m, partsOf O c with
      | true, some ps => .ok ⟨.lit .i64 (Nat.min (x :: l).length n : Nat), .put k (.arr m (.int ke)) (.agg (cpyL j ps (x :: l))), some k⟩
      | _, _ => .fail
    | _, _ => .fail
  | _, _ => .fail
def evEq (x : LV) (h : Int) : Bool := match asInt x with | some (_, m, true) => decide (m = h) | _ => false
def opR (O : Prim) (E : Env) (o : Op) (ev : Operand → LV) (bx : Bx) (lab : Nat) : R OR :=
  match o with
  | .move x | .assign x => val (ev x)
  | .nilCheck x => match ev x with
    | .ptr k off => val (.ptr k off)
    | .gptr k off => val (.gptr k off)
    | .fn f cs => val (.fn f cs)
    | _ => .fail
  | .pick c a b => match ev c with
    | .blit true => val (ev a)
    | .blit false => val (ev b)
    | .bool c => match isArgB (ev a), isArgB (ev b) with
      | some a, some b => val (.bool (O.sel c a b))
      | _, _ => .br c (val (ev a)) (val (ev b))
    | _ => .fail
  | .alloc t => match look E.ty t with
    | some ty => match ty.noU32 with
      | true => .ok ⟨.ptr lab 0, .new ty ty.zero, none⟩
      | false => .fail
    | none => .fail
  | .box t x => match look E.ty t with
    | some ty => match ty.noU32 && shape ty (ev x) with
      | true => .ok ⟨.ptr lab 0, .new ty (ev x), none⟩
      | false => .fail
    | none => .fail
  | .build t ps => match look E.ty t with
    | some (.struct fs) => match buildS fs (Ty.zeros fs) (ps.toList.map fun p => (p.1, ev p.2)) with
      | some l => val (.agg l)
      | none => .fail
    | some (.arr n e) => match buildS (reps n e) (repsLV n e.zero) (ps.toList.map fun p => (p.1, ev p.2)) with
      | some l => val (.agg l)
      | none => .fail
    | _ => .fail
  | .buildSlice t n ps => match look E.ty t with
    | some (.slice e) => match natLt n 1000 && natLt (n * e.size) 1000, buildS (reps n e) (repsLV n e.zero) (ps.toList.map fun p => (p.1, ev p.2)) with
      | true, some l => val (.im l)
      | _, _ => .fail
    | _ => .fail
  | .load t a => readR O E bx t (ev a)
  | .store t a x => writeR O E bx t (ev a) (ev x)
  | .binOp op t x y _ => binR O E op t (ev x) (ev y)
  | .unOp op _ x => match op, ev x with
    | .not, .bool b => val (.bool (O.bnot b))
    | .not, .blit b => val (.blit (!b))
    | .neg, .int k n => val (.int k (O.un .neg k n))
    | .neg, .lit k n => val (.lit k (unR .neg k n))
    | _, _ => .fail
  | .convert s d x => match look E.ty s, look E.ty d, ev x with
    | some _, some (.int k), .int _ n => val (.int k (O.conv k n))
    | some _, some (.int k), .lit _ n => val (.lit k (k.wrap n))
    | _, _, _ => .fail
  | .makeFunc (.func f) fi cs => match fi.toList with
    | [] => match tames (cs.toList.map ev) with
      | true => val (.fn f (cs.toList.map ev))
      | false => .fail
    | _ => .fail
  | .fieldAddr t x i => match look E.ty t, ev x with
    | some (.struct fs), .ptr k off => match offsetOf fs i with
      | some d => val (.ptr k (off + d))
      | none => .fail
    | some (.struct fs), .gptr k off => match offsetOf fs i with
      | some d => val (.gptr k (off + d))
      | none => .fail
    | some (.struct fs), .cell c => match shape (.struct fs) c, partsOf O c with
      | true, some ps => match nth ps i with
        | .undef => .fail
        | v => val (.cell v)
      | _, _ => .fail
    | _, _ => .fail
  | .field t x i => match look E.ty t with
    | some (.struct fs) => match shape (.struct fs) (ev x), partsOf O (ev x) with
      | true, some ps => match nth ps i with
        | .undef => .fail
        | v => val v
      | _, _ => .fail
    | _ => .fail
  | .indexAddr t x ix => match look E.ty t, ev x with
    | some (.arr n e), .ptr k off => match natLt 1 n with
      | true => atIndex O n (ev ix) fun j => val (.ptr k (off + j * e.size))
      | false => .fail
    | some (.arr n e), .gptr k off => match natLt 1 n with
      | true => atIndex O n (ev ix) fun j => val (.gptr k (off + j * e.size))
      | false => .fail
    | some (.slice e), .sl k off n => atIndex O n (ev ix) fun j => val (.ptr k (off + j * e.size))
    | some (.slice e), .im l => match shapeEl e l && natLt 0 e.size with
      | true => atIndex O l.length (ev ix) fun j => val (.cell (nth l j))
      | false => .fail
    | some (.slice e), .ints j l => match ekOf e, asInt (ev ix) with
      | some k, some (_, i, _) => match ekEq k j with
        | true => .req (O.inI i l) (val (.cell (elV O k (O.nthI l i))))
        | false => .fail
      | _, _ => .fail
    | some (.slice (.struct [.int .u64, .int .u64])), .words l => match asInt (ev ix) with
      | some (_, i, _) => .req (O.inW i l) (val (.cell (.word (O.nthW l i))))
      | none => .fail
    | some (.slice (.int k)), .big n => match kindEq k .u32, asInt (ev ix) with
      | true, some (_, i, _) => .req (O.inD i n) (val (.cell (.int .u32 (O.digI n i))))
      | _, _ => .fail
    | some (.slice e), .own j l => match ekOf e, asInt (ev ix) with
      | some k, some (_, i, _) => match ekEq k j with
        | true => .req (O.inI i l) (val (.oel j l i))
        | false => .fail
      | _, _ => .fail
    | _, _ => .fail
  | .index t x ix => match look E.ty t with
    | some (.arr n e) => match shape (.arr n e) (ev x), partsOf O (ev x) with
      | true, some ps => atIndex O n (ev ix) fun j => match nth ps j with
        | .undef => .fail
        | v => val v
      | _, _ => .fail
    | some .str => match ev x, asInt (ev ix) with
      | .slit s, some (_, i, true) => match decide (0 ≤ i ∧ i < s.size) with
        | true => val (.lit .u8 (byteOf s i))
        | false => .fail
      | .slit s, some (_, i, false) => .req (O.inS i s) (val (.int .u8 (O.byteAt s i)))
      | .str s, some (_, i, _) => .req (O.inS i s) (val (.int .u8 (O.byteAt s i)))
      | _, _ => .fail
    | _ => .fail
  | .slice t x none none none => match look E.ty t, ev x with
    | some (.arr n _), .ptr k off => match natLt n 1000000 with
      | true => val (.sl k off n)
      | false => .fail
    | _, _ => .fail
  | .slice t x none (some hi) mx => match look E.ty t, ev x with
    | some (.slice _), .sl k off n => match asInt (ev hi) with
      | some (_, h, true) => match (match mx with | some m => evEq (ev m) h | none => true) && decide (0 ≤ h) && natLe h.toNat n with
        | true => val (.sl k off h.toNat)
        | false => .fail
      | _ => .fail
    | some (.arr n _), .ptr k off => match mx, asInt (ev hi) with
      | none, some (_, h, true) => match decide (0 ≤ h) && natLe h.toNat n && natLt n 1000000 with
        | true => val (.sl k off h.toNat)
        | false => .fail
      | _, _ => .fail
    | some (.slice e), .ints j l => match mx, (match ekOf e with | some k => ekEq k j | none => false), asInt (ev hi) with
      | none, true, some (_, h, _) => .req (O.toI h l) (val (.ints j (O.takeI l h)))
      | some m, true, some (_, h, _) => match asInt (ev m) with
        | some (_, c, _) => .req (O.toI h l) (.req (c = h) (val (.ints j (O.takeI l h))))
        | none => .fail
      | _, _, _ => .fail
    | _, _ => .fail
  | .slice t x (some lo) none none => match look E.ty t, ev x with
    | some (.slice e), .ints j l => match (match ekOf e with | some k => ekEq k j | none => false), asInt (ev lo) with
      | true, some (_, h, _) => .req (O.toI h l) (val (.ints j (O.dropI l h)))
      | _, _ => .fail
    | some (.arr n e), .ptr k off => match asInt (ev lo) with
      | some (_, h, true) => match decide (0 ≤ h) && natLt h.toNat n && natLt n 1000000 && natEq e.size 1 with
        | true => val (.sl k (off + h.toNat) (n - h.toNat))
        | false => .fail
      | _ => .fail
    | _, _ => .fail
  | .slice t x (some lo) (some hi) none => match look E.ty t, strOf (ev x), asInt (ev lo), asInt (ev hi) with
    | some .str, some s, some (_, l, _), some (_, h, _) => .req (O.cutOk l h s) (val (.str (O.strCut s l h)))
    | _, _, _, _ => .fail
  | .extract x i => match ev x with
    | .tup ps => match nth ps i with
      | .undef => .fail
      | v => val v
    | _ => .fail
  | .call { callee := .builtin b, args, argTypes } => match isCopy b with
    | true => copyR O E bx argTypes.toList (args.toList.map ev)
    | false => builtinR O E b argTypes.toList (args.toList.map ev)
  | _ => .fail

/-! ## A list of the call's own that grows -/
/-- where a table of blocks says that there may be one -/
def RF : Nat := 1000003
def kill (v : LV) : LV := match tame v with | true => v | false => .undef
def kills : List LV → List LV
  | [] => []
  | v :: l => kill v :: kills l
def setTok (O : Prim) (k : EK) (i x : Int) : LV → LV
  | .own j l => match ekEq j k with
    | true => .own j (O.setI l i x)
    | false => .undef
  | .oel j l h => match ekEq j k with
    | true => .oel j (O.setI l i x) h
    | false => .undef
  | v => kill v
def setToks (O : Prim) (k : EK) (i x : Int) : List LV → List LV
  | [] => []
  | v :: l => setTok O k i x v :: setToks O k i x l
/-- what such an operation does -/
inductive OwnU where
  | new (k : EK) (l : List Int)
  | put (k : EK) (i x : Int)
  | give (k : EK) (l : List Int)
def OwnU.v : OwnU → LV
  | .new k l => .own k l
  | .give k l => .ints k l
  | .put _ _ _ => .undef
def OwnU.upd (O : Prim) : OwnU → List LV → List LV
  | .new _ _, t => kills t
  | .give _ _, t => kills t
  | .put k i x, t => setToks O k i x t
def allInts (O : Prim) (k : EK) : List LV → Option (List Int)
  | [] => some []
  | x :: xs => match numE O k x, allInts O k xs with
    | some n, some l => some (n :: l)
    | _, _ => none
def ownOf (k : EK) : LV → Option (List Int)
  | .nils => some []
  | .own j l => match ekEq j k with | true => some l | false => none
  | _ => none
def imOf (O : Prim) (k : EK) : LV → Option (List Int)
  | .im (p :: ps) => allInts O k (p :: ps)
  | .ints j l => match ekEq j k with | true => some l | false => none
  | _ => none
def ownR (O : Prim) (E : Env) (op : Op) (ev : Operand → LV) : Option (R OwnU) :=
  match op with
  | .call { callee := .builtin .append, args, argTypes } => match argTypes.toList, args.toList.map ev with
    | [t, t2], [x, y] => match look E.ty t, natEq t t2 with
      | some (.slice e), true => match ekOf e with
        | some k => match ownOf k x, imOf O k y with
          | some l, some m => some (.req (O.room l m) (.ok (.new k (O.appI l m))))
          | _, _ => none
        | none => none
      | _, _ => none
    | _, _ => none
  | .makeSlice t n c => match look E.ty t, asInt (ev n), asInt (ev c) with
    | some (.slice e), some (_, i, _), some (_, j, _) => match ekOf e with
      | some k => some (.req (O.roomN i) (.req (i = j) (.ok (.new k (O.zerosI i)))))
      | none => none
    | _, _, _ => none
  | .store t a x => match ev a with
    | .oel k _ i => match look E.ty t with
      | some e => match ekOf e, numE O k (ev x) with
        | some j, some n => match ekEq k j with
          | true => some (.ok (.put k i n))
          | false => none
        | _, _ => none
      | none => none
    | _ => none
  | .slice t x none (some hi) mx => match ev x with
    | .own k l => match look E.ty t, asInt (ev hi) with
      | some (.slice e), some (_, h, _) => match (match ekOf e with | some j => ekEq j k | none => false) with
        | true => match mx with
          | none => some (.req (O.toI h l) (.ok (.give k (O.takeI l h))))
          | some m => match asInt (ev m) with
            | some (_, c, _) => some (.req (O.toI h l) (.req (c = h) (.ok (.give k (O.takeI l h)))))
            | none => none
        | false => none
      | _, _ => none
    | _ => none
  | _ => none
def flagOn (bx : Bx) : Bx := match bx RF with | some _ => bx | none => bx.set RF (.bool, .undef)
def keepT (bx : Bx) (r : LV) (t : List LV) : List LV := match bx RF with
  | none => t
  | some _ => match flatV r with
    | true => t
    | false => kills t
def bxR (bx : Bx) (k : Nat) : Option (Ty × LV) := match natEq k RF with | true => none | false => bx k
def flagB : Bx := Bx.none.set RF (.bool, .undef)

/-! ## Bodies -/
structure St where
  tmps : List LV
  bx : Bx
  next : Nat

inductive Ex where
  | normal | exit (id : Nat) | ret

def putT (t : List LV) (d : Option Nat) (v : LV) : List LV := match d with | some i => setF t i v | none => t
def updB (bx : Bx) (lab : Nat) : Upd → Bx
  | .no => bx
  | .new ty c => bx.set lab (ty, c)
  | .put k ty c => bx.set k (ty, c)

/-- a test, known or both ways; the slot is set to what is known then -/
def testW (t : List LV) (x : Operand) (K : Bool → List LV → Prop) : Prop :=
  match x with
  | .tmp i => match nthF t i with
    | .blit b => K b t
    | .bool b => (b = false ∨ K true (setF t i (.blit true))) ∧ (b = true ∨ K false (setF t i (.blit false)))
    | _ => False
  | .const (.bool b) => K b t
  | _ => False

abbrev CallW := FuncId → List LV → Bx → Nat → (LV → Bx → Nat → Prop) → Prop

def fnOf : LV → List LV → Option (FuncId × List LV)
  | .fn f cs, args => some (f, args ++ cs)
  | _, _ => none

mutual
/-- nothing in it is the call's own -/
def plain : LV → Bool
  | .int _ _ | .lit _ _ | .bool _ | .blit _ | .str _ | .slit _ | .wide _ | .word _ | .gptr _ _ | .nils | .nilf | .big _ | .words _ | .ints _ _ => true
  | .agg ps | .tup ps | .fn _ ps | .im ps => plains ps
  | .cell c => plain c
  | _ => false
def plains : List LV → Bool
  | [] => true
  | p :: ps => plain p && plains ps
end
mutual
/-- nothing in it leads to a cell; but to digits of 32 bits -/
def rigid : LV → Bool
  | .int _ _ | .lit _ _ | .bool _ | .blit _ | .str _ | .slit _ | .wide _ | .word _ | .gptr _ _ | .nils | .nilf | .big _ => true
  | .agg ps | .tup ps | .fn _ ps => rigids ps
  | _ => false
def rigids : List LV → Bool
  | [] => true
  | p :: ps => rigid p && rigids ps
end
def noOwn (bx : Bx) : Nat → Bool
  | 0 => true
  | n + 1 => (bx n).isNone && noOwn bx n
/-- a pointer to a cell of the call's own, as it stands -/
def derefP (bx : Bx) : LV → LV
  | .ptr k off => match bxR bx k with
    | some (_, c) => match natEq off 0 && rigid c && natLt 0 c.size with
      | true => .cell c
      | false => .undef
    | none => .undef
  | v => v
/-- a slice of an array of the call's own, as it stands; what a function value has caught -/
def deref (O : Prim) (bx : Bx) : LV → LV
  | .own k l => .ints k l
  | .sl k off n => match bxR bx k with
    | some (.arr m e, c) => match natEq off 0 && natEq n m && rigid c, partsOf O c with
      | true, some ps => match shapeEl e ps with
        | true => .im ps
        | false => .undef
      | false, some ps => match shapeEl e ps && natLe (off + n) m && natEq e.size 1 && rigid c with
        | true => .im ((ps.drop off).take n)
        | false => .undef
      | _, _ => .undef
    | _ => .undef
  | .ptr k off => derefP bx (.ptr k off)
  | .fn f cs => .fn f (cs.map (derefP bx))
  | v => v
def flagOk (dm : Option Bx) (fl : Option (Ty × LV)) (r : LV) : Bool := match fl with
  | none => true
  | some _ => flatV r || dm.isNone
/-- a call of what is specified; where the order is drawn nothing of the call's own is read -/
def specW (O : Prim) (dm : Option Bx) (s : Spec) (args : List LV) (bx : Bx) (next : Nat) (K : LV → Prop) : Prop :=
  match plains (args.map (deref O (dm.getD bx))) with
  | true => (s (args.map (deref O (dm.getD bx)))).wp fun r => match plain r && (rigid r || (dm.isNone && noOwn bx next)) && flagOk dm ((dm.getD bx) RF) r with
    | true => K r
    | false => False
  | false => False

/-- what a call sees that is to leave the caller's own list alone: pointers to what leads nowhere; other cells as they stand -/
def hidA (bx : Bx) : LV → LV
  | .ptr k off => match bx k with
    | some (_, c) => match flat c with
      | true => .ptr k off
      | false => match natEq off 0 && plain c && natLt 0 c.size with
        | true => .cell c
        | false => .undef
    | none => .undef
  | v => match plain v with
    | true => v
    | false => .undef
def hideB (bx : Bx) : Bx := fun k => match bx k with
  | some (ty, c) => match flat c with
    | true => some (ty, c)
    | false => none
  | none => none
def okM (bx bx' : Bx) : Nat → Bool
  | 0 => true
  | n + 1 => (match bx n with
    | some (_, c) => match flat c with
      | true => match bx' n with
        | some (_, c') => flat c'
        | none => false
      | false => true
    | none => true) && okM bx bx' n
def mergeB (bx bx' : Bx) (next : Nat) : Bx := fun k => match natLt k next with
  | false => bx k
  | true => match bx k with
    | some (_, c) => match flat c with
      | true => bx' k
      | false => bx k
    | none => none
def hidK (bx : Bx) (next : Nat) (K : LV → Bx → Nat → Prop) : LV → Bx → Nat → Prop := fun v bx' _ => match flatV v && okM bx bx' next with
  | true => K v (mergeB bx bx' next) next
  | false => False
/-- a call that takes the caller's own list: it is lost to the caller -/
def giveK (dm : Option Bx) (bx : Bx) (K : LV → Bx → Nat → Prop) : LV → Bx → Nat → Prop := fun v bx' next' => match dm, bx RF, flatV v with
  | none, some _, false => K v bx' next'
  | _, _, _ => False
def callOpW (O : Prim) (E : Env) (call : CallW) (dm : Option Bx) (tm : List LV) (f : LV) (args : List LV) (bx : Bx) (next : Nat) (K : LV → Bx → Nat → Prop) : Prop :=
  match fnOf f args with
  | none => False
  | some (f, args) =>
    match look E.fns f with
    | some (.spec s) => specW O dm s args bx next fun r => K r bx next
    | some (.ext s) => (s args).wp fun r => K r bx next
    | some (.inl _ _ _) => match tames tm with
      | true => call f args bx next K
      | false => match tames args with
        | true => match natLt next RF with
          | true => call f (args.map (hidA bx)) (hideB bx) next (hidK bx next K)
          | false => False
        | false => call f args bx next (giveK dm bx K)
    | none => False

structure LogE where
  i : Nat
  after : List Nat
  lab : Nat
  st : Bool

def edgesOf (o : Oper) : List Nat := o.after.toList.filterMap fun e => match Region.binds .any e with | true => some e.on | false => none

def mem : Nat → List Nat → Bool
  | _, [] => false
  | n, x :: xs => match natEq n x with | true => true | false => mem n xs

def pairOk (x y : LogE) : Bool :=
  match x.st || y.st with
  | false => true
  | true => match natEq x.lab y.lab with
    | false => true
    | true => mem y.i x.after || mem x.i y.after
def pairsOk (x : LogE) : List LogE → Bool
  | [] => true
  | y :: l => pairOk x y && pairsOk x l
def logOk : List LogE → Bool
  | [] => true
  | x :: l => pairsOk x l && logOk l

def logOf (o : Oper) (i lab : Nat) (r : OR) (log : List LogE) : List LogE :=
  match r.u, r.rd with
  | .no, none => log
  | .no, some k => ⟨i, edgesOf o, k, false⟩ :: log
  | .new _ _, none => ⟨i, edgesOf o, lab, true⟩ :: log
  | .new _ _, some k => ⟨i, edgesOf o, lab, true⟩ :: ⟨i, edgesOf o, k, false⟩ :: log
  | .put k _ _, none => ⟨i, edgesOf o, k, true⟩ :: log
  | .put k _ _, some k' => match natEq k' k with
    | true => ⟨i, edgesOf o, k, true⟩ :: log
    | false => ⟨i, edgesOf o, k, true⟩ :: ⟨i, edgesOf o, k', false⟩ :: log

def opW (O : Prim) (E : Env) (call : CallW) (dm : Option Bx) (o : Oper) (i lab : Nat) (st : St) (log : List LogE) (K : St → List LogE → Prop) : Prop :=
  match o.op with
  | .call { callee := .value f, args, .. } =>
    callOpW O E call dm st.tmps (evL st.tmps f) (args.toList.map (evL st.tmps)) st.bx st.next fun v bx next => K ⟨putT (match dm with | none => keepT st.bx v st.tmps | some _ => st.tmps) o.dst v, bx, next⟩ log
  | op => match dm, ownR O E op (evL st.tmps) with
    | none, some r => r.wp fun u => K ⟨putT (u.upd O st.tmps) o.dst u.v, flagOn st.bx, st.next⟩ log
    | _, _ => (opR O E op (evL st.tmps) st.bx lab).wp fun r => K ⟨putT st.tmps o.dst r.v, updB st.bx lab r.u, st.next⟩ (logOf o i lab r log)

/-- what an operation leaves that was not done -/
def isNoV : LV → Bool
  | .tup [] => true
  | _ => false
def guardW (dsts : List (Option Nat)) (o : Oper) (st : St) (yes no : St → Prop) : Prop :=
  match o.guard with
  | none => yes st
  | some (j, want) => match dsts[j]? with
    | some (some d) => match isNoV (nthF st.tmps d) with
      | true => no st
      | false => testW st.tmps (.tmp d) fun b t => match b == want with
        | true => yes ⟨t, st.bx, st.next⟩
        | false => no ⟨t, st.bx, st.next⟩
    | _ => False

def opsW (O : Prim) (E : Env) (call : CallW) (dm : Option Bx) (dsts : List (Option Nat)) : List Oper → Nat → Nat → St → List LogE → (St → List LogE → Prop) → Prop
  | [], _, _, st, log, K => K st log
  | o :: os, i, base, st, log, K => guardW dsts o st
      (fun st => opW O E call dm o i (base + i) st log fun st log => opsW O E call dm dsts os (i + 1) base st log K)
      (fun st => opsW O E call dm dsts os (i + 1) base ⟨putT st.tmps o.dst (.tup []), st.bx, st.next⟩ log K)

def noCall : CallW := fun _ _ _ _ _ => False

/-- the blocks that a region's stores lead to, told ahead; none: not known -/
def madeIn (i : Nat) : List Oper → Bool
  | [] => false
  | o :: os => match o.op, o.dst with
    | .alloc _, some d | .box _ _, some d => natEq d i || madeIn i os
    | _, _ => madeIn i os
def wsOf (all : List Oper) (t : List LV) : List Oper → Option (List Nat)
  | [] => some []
  | o :: os => match o.op with
    | .store _ a _ => match a with
      | .tmp i => match madeIn i all with
        | true => wsOf all t os
        | false => match nth t i, wsOf all t os with
          | .ptr k _, some l => some (k :: l)
          | _, _ => none
      | _ => none
    | _ => wsOf all t os
def wrOk (ws : Option (List Nat)) (base : Nat) : List LogE → Bool
  | [] => true
  | x :: l => (!x.st || (match ws with | none => true | some ks => mem x.lab ks || natLe base x.lab)) && wrOk ws base l
/-- the blocks that a region leaves as they are -/
def drawBx (ws : Option (List Nat)) (base : Nat) (bx : Bx) : Bx := match ws with
  | none => Bx.none
  | some ks => fun k => match mem k ks || natLe base k with | true => none | false => bx k
/-- what must come behind all that stands ahead of it -/
def ownish : Op → Bool
  | .call { callee := .builtin .append, .. } => true
  | .makeSlice _ _ _ => true
  | .store _ _ _ => true
  | .slice _ _ _ _ _ => true
  | _ => false
def firstOwn : List Oper → Nat
  | [] => 0
  | o :: os => match ownish o.op with
    | true => 0
    | false => firstOwn os + 1
def nthO : List Oper → Nat → Option Oper
  | [], _ => none
  | o :: _, 0 => some o
  | _ :: l, n + 1 => nthO l n
def covG (ops : List Oper) : List Nat → Nat → Bool
  | _, 0 => true
  | S, n + 1 => mem n S && (match nthO ops n with | some o => covG ops (edgesOf o ++ S) n | none => false)
def covAll (ops : List Oper) : Nat → Nat → Bool
  | 0, _ => true
  | n + 1, j => (match nthO ops j with | some o => covG ops (edgesOf o) j | none => false) && covAll ops n (j + 1)
def edgesB (i : Nat) : List Nat → Bool
  | [] => true
  | e :: l => natLt e i && edgesB i l
/-- the regions that draw, where a list of the call's own may be -/
def drawStat2 (ops : List Oper) : Bool := covAll ops (ops.length - firstOwn ops) (firstOwn ops)
def drawF (bx b : Bx) : Bx := match bx RF with
  | none => b
  | some _ => flagB
def loopW (body : (Ex → St → Prop) → St → Prop) (K : Ex → St → Prop) : Nat → St → Prop
  | 0, _ => False
  | n + 1, st => body (fun e s => match e with | .normal => loopW body K n s | e => K e s) st

mutual
/-- no literals: what a loop may change -/
def gen : LV → LV
  | .lit k n => .int k n
  | .blit b => .bool b
  | .slit s => .str s
  | .agg ps => .agg (gens ps)
  | .tup ps => .tup (gens ps)
  | v => v
def gens : List LV → List LV
  | [] => []
  | p :: ps => gen p :: gens ps
end
def isWordT : List Ty → Bool
  | [.int .u64, .int .u64] => true
  | _ => false
def isWideT : Nat → Ty → Bool
  | 8, .int .u64 => true
  | _, _ => false
mutual
/-- no literals; words and wides in one piece -/
def normT (O : Prim) : Ty → LV → LV
  | .struct fs, .agg ps => match isWordT fs, getWord O (.agg ps) with
    | true, some b => .word b
    | _, _ => .agg (normTs O fs ps)
  | .arr n e, .agg ps => match isWideT n e, getW O (.agg ps) with
    | true, some b => .wide b
    | _, _ => .agg (normEl O e ps)
  | _, .lit k n => .int k n
  | _, .blit b => .bool b
  | _, .slit s => .str s
  | _, v => v
def normTs (O : Prim) : List Ty → List LV → List LV
  | t :: ts, p :: ps => normT O t p :: normTs O ts ps
  | _, ps => ps
def normEl (O : Prim) (e : Ty) : List LV → List LV
  | [] => []
  | p :: ps => normT O e p :: normEl O e ps
end
mutual
/-- every label in it is below -/
def below (n : Nat) : LV → Bool
  | .ptr k _ => natLt k n
  | .sl k _ _ => natLt k n
  | .agg ps | .tup ps | .fn _ ps | .im ps => belows n ps
  | .cell c => below n c
  | _ => true
def belows (n : Nat) : List LV → Bool
  | [] => true
  | p :: ps => below n p && belows n ps
end
/-- what is kept from round to round: slots that live on, blocks that were there when the loop began -/
def ownS (live : List Nat) (i : Nat) : LV → LV
  | .nils => match mem (100000 + i) live with
    | true => .own .u32 []
    | false => match mem (200000 + i) live with
      | true => .own .u64 []
      | false => match mem (300000 + i) live with
        | true => .own .bool []
        | false => .nils
  | v => gen v
def cutT (base : Nat) (live : List Nat) : List LV → Nat → List LV
  | [], _ => []
  | v :: vs, i => (match mem i live && below base v with | true => ownS live i v | false => .undef) :: cutT base live vs (i + 1)
def anyBig : List Nat → Bool
  | [] => false
  | x :: l => natLe 100000 x || anyBig l
def flagL (live : List Nat) (bx : Bx) (b : Bx) : Bx := match anyBig live with
  | true => flagOn b
  | false => match bx RF with
    | none => b
    | some _ => flagOn b
def tabB (O : Prim) (bx : Bx) : Nat → Nat → List (Option (Ty × LV))
  | 0, _ => []
  | n + 1, i => (match bx i with
    | some (ty, c) => some (ty, normT O ty c)
    | none => none) :: tabB O bx n (i + 1)
def ofL : List (Option (Ty × LV)) → Bx
  | [], _ => none
  | x :: _, 0 => x
  | _ :: l, n + 1 => ofL l n
def okB (base : Nat) (bx : Bx) : Nat → Bool
  | 0 => true
  | n + 1 => (match bx n with | some (_, c) => below base c | none => true) && okB base bx n
def cutS (O : Prim) (base : Nat) (live : List Nat) (st : St) : St := ⟨cutT base live st.tmps 0, flagL live st.bx (ofL (tabB O st.bx base 0)), base⟩
def cutK (O : Prim) (base : Nat) (live : List Nat) (st : St) (K : St → Prop) : Prop := match okB base st.bx base with
  | true => K (cutS O base live st)
  | false => False

def codeW (O : Prim) (E : Env) (call : CallW) : Nat → Code → (Ex → St → Prop) → St → Prop
  | _, .skip, K, st => K .normal st
  | _, .ret, K, st => K .ret st
  | _, .exit id, K, st => K (.exit id) st
  | cur, .scope c, K, st => codeW O E call cur c K st
  | _, .label _, K, st => K .normal st
  | cur, .seq a b, K, st => codeW O E call cur a (fun e s => match e with | .normal => codeW O E call cur b K s | e => K e s) st
  | _, .region _ ops false, K, st => opsW O E call none (ops.toList.map (·.dst)) ops.toList 0 st.next ⟨st.tmps, st.bx, st.next + ops.toList.length⟩ [] fun st _ => K .normal st
  | _, .region _ ops true, K, st => match st.bx RF with
    | none => opsW O E noCall (some (drawBx (wsOf ops.toList st.tmps ops.toList) st.next st.bx)) (ops.toList.map (·.dst)) ops.toList 0 st.next ⟨st.tmps, st.bx, st.next + ops.toList.length⟩ [] fun st' log =>
      match logOk log && wrOk (wsOf ops.toList st.tmps ops.toList) st.next log with
      | true => K .normal st'
      | false => False
    | some _ => match drawStat2 ops.toList with
      | false => False
      | true => opsW O E noCall (some flagB) ((ops.toList.take (firstOwn ops.toList)).map (·.dst)) (ops.toList.take (firstOwn ops.toList)) 0 st.next ⟨st.tmps, st.bx, st.next + ops.toList.length⟩ [] fun st' log =>
        match logOk log with
        | true => opsW O E call none (ops.toList.map (·.dst)) (ops.toList.drop (firstOwn ops.toList)) (firstOwn ops.toList) st.next st' [] fun st' _ => K .normal st'
        | false => False
  | cur, .cond c a b, K, st => testW st.tmps c fun v t => match v with
      | true => codeW O E call cur a K ⟨t, st.bx, st.next⟩
      | false => codeW O E call cur b K ⟨t, st.bx, st.next⟩
  | _, .block id c, K, st => codeW O E call id c (fun e s => match e with | .exit j => (match natEq j id with | true => K .normal s | false => K (.exit j) s) | e => K e s) st
  | cur, .loop body, K, st => match E.loops cur with
    | some n => loopW (codeW O E call cur body) K n st
    | none => cutK O st.next (E.live cur) st fun s0 => ∃ n, loopW (fun K s => codeW O E call cur body (fun e s => match e with | .normal => cutK O st.next (E.live cur) s (K .normal) | e => K e s) s) K n s0
  | _, _, _, _ => False

def resR (O : Prim) (E : Env) (t : List LV) (bx : Bx) : ResultVar → Option LV
  | .tmp i => match nth t i with
    | .undef => none
    | v => some v
  | .cell a ty => match look E.ty ty, nth t a with
    | some tgt, .ptr k off => match bx k with
      | some (ty, c) => getAt O 8 ty c off tgt
      | none => none
    | _, _ => none

def resAll (O : Prim) (E : Env) (t : List LV) (bx : Bx) : List ResultVar → Option (List LV)
  | [] => some []
  | r :: rs => match resR O E t bx r, resAll O E t bx rs with
    | some v, some vs => some (v :: vs)
    | _, _ => none

def one : List LV → LV
  | [v] => v
  | vs => .tup vs

def resW (O : Prim) (E : Env) (res : List ResultVar) (K : LV → Bx → Nat → Prop) (e : Ex) (st : St) : Prop :=
  match e with
  | .exit _ => False
  | _ => match resAll O E st.tmps st.bx res with
    | some vs => K (one vs) st.bx st.next
    | none => False

def undefs : Nat → List LV
  | 0 => []
  | n + 1 => .undef :: undefs n

def bodyW (O : Prim) (E : Env) (call : CallW) (c : Code) (ntmps : Nat) (res : List ResultVar) (args : List LV) (bx : Bx) (next : Nat) (K : LV → Bx → Nat → Prop) : Prop :=
  codeW O E call 0 c (resW O E res K) ⟨args ++ undefs (ntmps - args.length), bx, next⟩

/-- calls that are entered: 'n' deep -/
def callW (O : Prim) (E : Env) : Nat → CallW
  | 0 => noCall
  | n + 1 => fun f args bx next K => match look E.fns f with
    | some (.inl c m res) => bodyW O E (callW O E n) c m res args bx next K
    | _ => False

def dem : LV → LV
  | .own k l => .ints k l
  | v => kill v
def leaf (K : LV → Prop) (v : LV) : Prop := K v
/-- a function's body, called with arguments, comes to values of which K is told -/
def fnW (O : Prim) (E : Env) (n : Nat) (c : Code) (ntmps : Nat) (res : List ResultVar) (args : List LV) (K : LV → Prop) : Prop :=
  bodyW O E (callW O E n) c ntmps res args Bx.none 0 fun v _ _ => leaf K (dem v)

end Go.LE
namespace Go.LE
open Go Go.RowKit

/-! ## slots, read in steps -/
theorem nthF_eq : ∀ (t : List LV) (n : Nat), nthF t n = nth t n := by
  intro t n
  induction t, n using nthF.induct with
  | case1 a b c d e f g h l n hn =>
    unfold nthF
    rw [hn]
    have hn : n < 8 := of_decide_eq_true hn
    rcases n with _ | _ | _ | _ | _ | _ | _ | _ | n <;> first | rfl | omega
  | case2 a b c d e f g h l n hn ih =>
    unfold nthF
    rw [hn]
    have hn : ¬ n < 8 := of_decide_eq_false hn
    simp only
    rw [ih]
    obtain ⟨m, rfl⟩ : ∃ m, n = m + 8 := ⟨n - 8, by omega⟩
    rfl
  | case3 l n hl =>
    unfold nthF
    split
    · exact absurd rfl (hl _ _ _ _ _ _ _ _ _)
    · rfl
theorem setF_eq : ∀ (t : List LV) (n : Nat) (v : LV), setF t n v = setN t n v := by
  intro t n v
  induction t, n using nthF.induct with
  | case1 a b c d e f g h l n hn =>
    unfold setF
    rw [hn]
    have hn : n < 8 := of_decide_eq_true hn
    rcases n with _ | _ | _ | _ | _ | _ | _ | _ | n <;> first | rfl | omega
  | case2 a b c d e f g h l n hn ih =>
    unfold setF
    rw [hn]
    have hn : ¬ n < 8 := of_decide_eq_false hn
    simp only
    rw [ih]
    obtain ⟨m, rfl⟩ : ∃ m, n = m + 8 := ⟨n - 8, by omega⟩
    rfl
  | case3 l n hl =>
    unfold setF
    split
    · exact absurd rfl (hl _ _ _ _ _ _ _ _ _)
    · rfl
/-! ## numbers in range -/
def inK (k : IntKind) (n : Int) : Prop := k.wrap n = n
theorem inK_wrap (k : IntKind) (n : Int) : inK k (k.wrap n) := by
  unfold inK IntKind.wrap
  cases k <;> simp only [IntKind.signed, IntKind.bits, Bool.true_and, Bool.false_and] <;> simp <;> (repeat' split) <;> omega
theorem inK_iff (k : IntKind) (n : Int) : inK k n ↔ k.min ≤ n ∧ n ≤ k.max := by
  unfold inK IntKind.wrap
  cases k <;> simp only [IntKind.min, IntKind.max, IntKind.signed, IntKind.bits, Bool.true_and, Bool.false_and] <;> simp <;> (repeat' split) <;> omega

/-! ## values -/
def EK.cell : EK → Int → Value
  | .int k, n => .int k n
  | .bool, n => .bool (n == 1)
def EK.ty : EK → Ty
  | .int k => .int k
  | .bool => .bool
def inE : EK → Int → Prop
  | .int k, n => inK k n
  | .bool, n => n = 0 ∨ n = 1
theorem ekEq_eq {a b : EK} (h : ekEq a b = true) : a = b := by
  cases a <;> cases b <;> simp only [ekEq, Bool.false_eq_true] at h
  · rename_i k j
    cases k <;> cases j <;> first | rfl | cases h
  · rfl
theorem ekOf_ty {t : Ty} {k : EK} (h : ekOf t = some k) : t = k.ty := by
  cases t <;> simp only [ekOf, reduceCtorEq, Option.some.injEq] at h <;> subst h <;> rfl
theorem inE_zero (k : EK) : inE k 0 := by
  cases k with
  | int k => show inK k 0; rw [inK_iff]; cases k <;> decide
  | bool => exact .inl rfl
/-- a slice of so many elements, whose cells lie in no block of the call's own -/
def SlC (ρ : Nat → Option Nat) (w : World) (v : Value) (len : Nat) (cells : List Value) : Prop :=
  ∃ a cap, v = .slice a len cap ∧ ((len : Int) < 4611686018427387904 ∧ len ≤ cap) ∧ (cells = [] ∨ ∃ b off, a = some ⟨b, off, none⟩ ∧ (∀ k, ρ k ≠ some b) ∧ ∀ i, i < cells.length → w.cell? ⟨b, off + i, none⟩ = cells[i]?)

/-- a pointer to cells that lie in no block of the call's own -/
def CellC (ρ : Nat → Option Nat) (w : World) (v : Value) (cells : List Value) : Prop :=
  ∃ b off, v = .pointer (some ⟨b, off, none⟩) ∧ (∀ k, ρ k ≠ some b) ∧ cells ≠ [] ∧ ∀ i, i < cells.length → w.cell? ⟨b, off + i, none⟩ = cells[i]?

def wordCells (b : BitVec 128) : List Value := [.int .u64 (hiR b), .int .u64 (loR b)]
def wideCells (b : BitVec 512) : List Value :=
  [.int .u64 (limbR b 0), .int .u64 (limbR b 1), .int .u64 (limbR b 2), .int .u64 (limbR b 3), .int .u64 (limbR b 4), .int .u64 (limbR b 5), .int .u64 (limbR b 6), .int .u64 (limbR b 7)]

/-- a list that the call alone holds, in block 'ρ 0' -/
def OwnC (ρ : Nat → Option Nat) (w : World) (v : Value) (k : EK) (l : List Int) : Prop :=
  (∀ n ∈ l, inE k n) ∧ (l.length : Int) < 4611686018427387904 ∧ (∃ e, w.ownsRow 0 e 1 v l.length (l.map k.cell)) ∧ ∀ b, v.ownBlock = some b → ρ 0 = some b

mutual
/-- the cells of an abstract value -/
def VC (ρ : Nat → Option Nat) (w : World) : LV → List Value → Prop
  | .int k n, cs => inK k n ∧ cs = [.int k n]
  | .lit k n, cs => inK k n ∧ cs = [.int k n]
  | .bool b, cs => cs = [.bool b]
  | .blit b, cs => cs = [.bool b]
  | .str s, cs => inK .i64 s.size ∧ cs = [.string s]
  | .slit s, cs => inK .i64 s.size ∧ cs = [.string s]
  | .wide b, cs => cs = wideCells b
  | .word b, cs => cs = wordCells b
  | .agg ps, cs => VCs ρ w ps cs
  | .tup _, _ => False
  | .own _ _, _ | .oel _ _ _, _ => False
  | .ptr k off, cs => ∃ b, ρ (k + 1) = some b ∧ cs = [.pointer (some ⟨b, off, none⟩)]
  | .gptr g off, cs => cs = [.pointer (some ⟨g, off, none⟩)]
  | .sl k off len, cs => ∃ b cap, ρ (k + 1) = some b ∧ ((len : Int) < 4611686018427387904 ∧ len ≤ cap) ∧ cs = [.slice (some ⟨b, off, none⟩) len cap]
  | .fn f ps, cs => ∃ vs, tames ps = true ∧ VVs ρ w ps vs ∧ cs = [.func (.func f) #[] vs.toArray]
  | .nils, cs => cs = [.slice none 0 0]
  | .im l, cs => ∃ v cells, cs = [v] ∧ VCs ρ w l cells ∧ SlC ρ w v l.length cells
  | .big n, cs => ∃ v, cs = [v] ∧ SlC ρ w v (dig n).length ((dig n).map (.int .u32 ·))
  | .words l, cs => ∃ v, cs = [v] ∧ SlC ρ w v l.length (l.flatMap wordCells)
  | .ints k l, cs => ∃ v, cs = [v] ∧ (∀ n ∈ l, inE k n) ∧ SlC ρ w v l.length (l.map k.cell)
  | .nilf, cs => cs = [.nilFunc]
  | .cell c, cs => ∃ v cells, cs = [v] ∧ VC ρ w c cells ∧ CellC ρ w v cells
  | .undef, _ => False
def VCs (ρ : Nat → Option Nat) (w : World) : List LV → List Value → Prop
  | [], cs => cs = []
  | p :: ps, cs => ∃ c1 c2, cs = c1 ++ c2 ∧ VC ρ w p c1 ∧ VCs ρ w ps c2
/-- the value of an abstract value -/
def VV (ρ : Nat → Option Nat) (w : World) : LV → Value → Prop
  | .tup ps, v => ∃ vs, v = .tuple vs.toArray ∧ VVs ρ w ps vs
  | .undef, _ => True
  | .agg ps, v => ∃ cs, v = .agg cs.toArray ∧ VCs ρ w ps cs
  | .wide b, v => v = .agg (wideCells b).toArray
  | .word b, v => v = .agg (wordCells b).toArray
  | .int k n, v => inK k n ∧ v = .int k n
  | .lit k n, v => inK k n ∧ v = .int k n
  | .bool b, v => v = .bool b
  | .blit b, v => v = .bool b
  | .str s, v => inK .i64 s.size ∧ v = .string s
  | .slit s, v => inK .i64 s.size ∧ v = .string s
  | .own k l, v => OwnC ρ w v k l
  | .oel k l i, v => ∃ u b, OwnC ρ w u k l ∧ u.ownBlock = some b ∧ (0 ≤ i ∧ i < (l.length : Int)) ∧ v = .pointer (some ⟨b, i.toNat, none⟩)
  | .ptr k off, v => ∃ b, ρ (k + 1) = some b ∧ v = .pointer (some ⟨b, off, none⟩)
  | .gptr g off, v => v = .pointer (some ⟨g, off, none⟩)
  | .sl k off len, v => ∃ b cap, ρ (k + 1) = some b ∧ ((len : Int) < 4611686018427387904 ∧ len ≤ cap) ∧ v = .slice (some ⟨b, off, none⟩) len cap
  | .fn f ps, v => ∃ vs, tames ps = true ∧ VVs ρ w ps vs ∧ v = .func (.func f) #[] vs.toArray
  | .nils, v => v = .slice none 0 0
  | .nilf, v => v = .nilFunc
  | .im l, v => ∃ cells, VCs ρ w l cells ∧ SlC ρ w v l.length cells
  | .cell c, v => ∃ cells, VC ρ w c cells ∧ CellC ρ w v cells
  | .big n, v => SlC ρ w v (dig n).length ((dig n).map (.int .u32 ·))
  | .words l, v => SlC ρ w v l.length (l.flatMap wordCells)
  | .ints k l, v => (∀ n ∈ l, inE k n) ∧ SlC ρ w v l.length (l.map k.cell)
def VVs (ρ : Nat → Option Nat) (w : World) : List LV → List Value → Prop
  | [], vs => vs = []
  | p :: ps, vs => ∃ v vs', vs = v :: vs' ∧ VV ρ w p v ∧ VVs ρ w ps vs'
end

/-- what is no tuple, and not unknown: its cells are its value's -/
def plainLV : LV → Bool
  | .tup _ | .undef | .own _ _ | .oel _ _ _ => false
  | _ => true
theorem VV_cells {ρ : Nat → Option Nat} {w : World} {lv : LV} {v : Value} (hp : plainLV lv = true) : VV ρ w lv v → VC ρ w lv v.cells.toList := by
  cases lv <;> simp only [VV, VC, plainLV] at hp ⊢ <;> intro h
  case int => obtain ⟨h1, rfl⟩ := h; exact ⟨h1, rfl⟩
  case lit => obtain ⟨h1, rfl⟩ := h; exact ⟨h1, rfl⟩
  case bool => subst h; rfl
  case blit => subst h; rfl
  case str => obtain ⟨h1, rfl⟩ := h; exact ⟨h1, rfl⟩
  case slit => obtain ⟨h1, rfl⟩ := h; exact ⟨h1, rfl⟩
  case wide => subst h; rfl
  case word => subst h; rfl
  case agg => obtain ⟨cs, rfl, h⟩ := h; simpa [Value.cells] using h
  case tup => simp at hp
  case undef => simp at hp
  case own => simp at hp
  case oel => simp at hp
  case ptr => obtain ⟨b, h1, rfl⟩ := h; exact ⟨b, h1, rfl⟩
  case gptr => subst h; rfl
  case sl => obtain ⟨b, c, h1, h2, rfl⟩ := h; exact ⟨b, c, h1, h2, rfl⟩
  case fn => obtain ⟨vs, h0, h1, rfl⟩ := h; exact ⟨vs, h0, h1, rfl⟩
  case nils => subst h; rfl
  case nilf => subst h; rfl
  case im => obtain ⟨cells, h1, a, cap, rfl, h2⟩ := h; exact ⟨_, cells, rfl, h1, a, cap, rfl, h2⟩
  case cell => obtain ⟨cells, h1, a, off, rfl, h2⟩ := h; exact ⟨_, cells, rfl, h1, a, off, rfl, h2⟩
  case big => obtain ⟨a, cap, rfl, h2⟩ := h; exact ⟨_, rfl, a, cap, rfl, h2⟩
  case words => obtain ⟨a, cap, rfl, h2⟩ := h; exact ⟨_, rfl, a, cap, rfl, h2⟩
  case ints => obtain ⟨h1, a, cap, rfl, h2⟩ := h; exact ⟨_, rfl, h1, a, cap, rfl, h2⟩

/-- is it read and written as an aggregate? -/
def aggLV : LV → Bool
  | .agg _ | .wide _ | .word _ => true
  | _ => false
theorem VV_of_cells {ρ : Nat → Option Nat} {w : World} {lv : LV} {cs : List Value} (ha : aggLV lv = false) (h : VC ρ w lv cs) : ∃ v, cs = [v] ∧ VV ρ w lv v := by
  cases lv <;> simp only [VV, VC, aggLV] at ha h ⊢
  case int => exact ⟨_, h.2, h.1, rfl⟩
  case lit => exact ⟨_, h.2, h.1, rfl⟩
  case bool => exact ⟨_, h, rfl⟩
  case blit => exact ⟨_, h, rfl⟩
  case str => exact ⟨_, h.2, h.1, rfl⟩
  case slit => exact ⟨_, h.2, h.1, rfl⟩
  case wide => simp at ha
  case word => simp at ha
  case agg => simp at ha
  case ptr => obtain ⟨b, h1, h2⟩ := h; exact ⟨_, h2, b, h1, rfl⟩
  case gptr => exact ⟨_, h, rfl⟩
  case sl => obtain ⟨b, c, h1, h2, h3⟩ := h; exact ⟨_, h3, b, c, h1, h2, rfl⟩
  case fn => obtain ⟨vs, h0, h1, h2⟩ := h; exact ⟨_, h2, vs, h0, h1, rfl⟩
  case nils => exact ⟨_, h, rfl⟩
  case nilf => exact ⟨_, h, rfl⟩
  case im => obtain ⟨v, cells, h1, h2, h3⟩ := h; exact ⟨v, h1, cells, h2, h3⟩
  case cell => obtain ⟨v, cells, h1, h2, h3⟩ := h; exact ⟨v, h1, cells, h2, h3⟩
  case big => obtain ⟨v, h1, h3⟩ := h; exact ⟨v, h1, h3⟩
  case words => obtain ⟨v, h1, h3⟩ := h; exact ⟨v, h1, h3⟩
  case ints => obtain ⟨v, h1, h2, h3⟩ := h; exact ⟨v, h1, h2, h3⟩
theorem VV_of_agg {ρ : Nat → Option Nat} {w : World} {lv : LV} {cs : List Value} (ha : aggLV lv = true) (h : VC ρ w lv cs) : VV ρ w lv (.agg cs.toArray) := by
  cases lv <;> simp [VV, VC, aggLV] at ha h ⊢
  case wide => rw [h]
  case word => rw [h]
  case agg => exact h

mutual
theorem VC_size {ρ : Nat → Option Nat} {w : World} : ∀ (lv : LV) (cs : List Value), VC ρ w lv cs → cs.length = lv.size
  | .int .., cs, h | .lit .., cs, h | .str .., cs, h | .slit .., cs, h => by simp only [VC] at h; rw [h.2]; rfl
  | .bool .., cs, h | .blit .., cs, h | .nils, cs, h | .nilf, cs, h | .gptr .., cs, h => by simp only [VC] at h; rw [h]; rfl
  | .wide _, cs, h => by simp only [VC] at h; rw [h]; rfl
  | .word _, cs, h => by simp only [VC] at h; rw [h]; rfl
  | .agg ps, cs, h => by simp only [VC] at h; simpa [LV.size] using VCs_size ps cs h
  | .tup _, cs, h => by simp [VC] at h
  | .ptr .., cs, h => by simp only [VC] at h; obtain ⟨b, _, rfl⟩ := h; rfl
  | .sl .., cs, h => by simp only [VC] at h; obtain ⟨b, c, _, _, rfl⟩ := h; rfl
  | .fn .., cs, h => by simp only [VC] at h; obtain ⟨b, _, _, rfl⟩ := h; rfl
  | .im _, cs, h => by simp only [VC] at h; obtain ⟨v, c, rfl, _⟩ := h; rfl
  | .cell _, cs, h => by simp only [VC] at h; obtain ⟨v, c, rfl, _⟩ := h; rfl
  | .big _, cs, h => by simp only [VC] at h; obtain ⟨v, rfl, _⟩ := h; rfl
  | .words _, cs, h => by simp only [VC] at h; obtain ⟨v, rfl, _⟩ := h; rfl
  | .ints .., cs, h => by simp only [VC] at h; obtain ⟨v, rfl, _⟩ := h; rfl
  | .undef, cs, h | .own .., cs, h | .oel .., cs, h => by simp [VC] at h
theorem VCs_size {ρ : Nat → Option Nat} {w : World} : ∀ (ps : List LV) (cs : List Value), VCs ρ w ps cs → cs.length = LV.sizes ps
  | [], cs, h => by simp only [VCs] at h; rw [h]; rfl
  | p :: ps, cs, h => by
    simp only [VCs] at h
    obtain ⟨c1, c2, rfl, h1, h2⟩ := h
    rw [List.length_append, VC_size p c1 h1, VCs_size ps c2 h2, LV.sizes]
end

/-! ## the world goes on -/
/-- from one world to a later one: what is not the call's own stays; its blocks keep their numbers, new ones are new -/
structure Adv (ρ : Nat → Option Nat) (w : World) (ρ' : Nat → Option Nat) (w' : World) : Prop where
  os : w'.os = w.os
  tape : w'.tape = w.tape
  output : w'.output = w.output
  size : w.heap.size ≤ w'.heap.size
  old : ∀ b, b < w.heap.size → (∀ k, ρ k ≠ some b) → w'.heap[b]? = w.heap[b]?
  ext : ∀ k b, ρ k = some b → ρ' k = some b
  fresh : ∀ k b, ρ' k = some b → ρ k = some b ∨ w.heap.size ≤ b
  own : ρ' 0 = ρ 0
  row : ∀ b, b < w.heap.size → ρ 0 = some b → w'.heap[b]? = w.heap[b]?
/-- .. its own list may have moved, or been written -/
structure AdvW (ρ : Nat → Option Nat) (w : World) (ρ' : Nat → Option Nat) (w' : World) : Prop where
  os : w'.os = w.os
  tape : w'.tape = w.tape
  output : w'.output = w.output
  size : w.heap.size ≤ w'.heap.size
  old : ∀ b, b < w.heap.size → (∀ k, ρ k ≠ some b) → w'.heap[b]? = w.heap[b]?
  ext : ∀ k b, ρ (k + 1) = some b → ρ' (k + 1) = some b
  fresh : ∀ k b, ρ' k = some b → ρ k = some b ∨ w.heap.size ≤ b
theorem Adv.weak {ρ ρ' : Nat → Option Nat} {w w' : World} (h : Adv ρ w ρ' w') : AdvW ρ w ρ' w' := ⟨h.os, h.tape, h.output, h.size, h.old, fun k b => h.ext (k + 1) b, h.fresh⟩

theorem Adv.refl (ρ : Nat → Option Nat) (w : World) : Adv ρ w ρ w :=
  ⟨rfl, rfl, rfl, Nat.le_refl _, fun _ _ _ => rfl, fun _ _ h => h, fun _ _ h => .inl h, rfl, fun _ _ _ => rfl⟩
theorem AdvW.refl (ρ : Nat → Option Nat) (w : World) : AdvW ρ w ρ w := (Adv.refl ρ w).weak
theorem Adv.trans {ρ ρ1 ρ2 : Nat → Option Nat} {w w1 w2 : World} (h : Adv ρ w ρ1 w1) (k : Adv ρ1 w1 ρ2 w2) : Adv ρ w ρ2 w2 where
  os := k.os.trans h.os
  tape := k.tape.trans h.tape
  output := k.output.trans h.output
  size := Nat.le_trans h.size k.size
  old b hb hn := (k.old b (Nat.lt_of_lt_of_le hb h.size) fun j hj => (h.fresh j b hj).elim (hn j) (fun hh => by omega)).trans (h.old b hb hn)
  ext j b hj := k.ext j b (h.ext j b hj)
  fresh j b hj := (k.fresh j b hj).elim (fun hh => h.fresh j b hh) (fun hh => .inr (Nat.le_trans h.size hh))
  own := k.own.trans h.own
  row b hb hr := (k.row b (Nat.lt_of_lt_of_le hb h.size) (by rw [h.own]; exact hr)).trans (h.row b hb hr)
theorem AdvW.trans {ρ ρ1 ρ2 : Nat → Option Nat} {w w1 w2 : World} (h : AdvW ρ w ρ1 w1) (k : AdvW ρ1 w1 ρ2 w2) : AdvW ρ w ρ2 w2 where
  os := k.os.trans h.os
  tape := k.tape.trans h.tape
  output := k.output.trans h.output
  size := Nat.le_trans h.size k.size
  old b hb hn := (k.old b (Nat.lt_of_lt_of_le hb h.size) fun j hj => (h.fresh j b hj).elim (hn j) (fun hh => by omega)).trans (h.old b hb hn)
  ext j b hj := k.ext j b (h.ext j b hj)
  fresh j b hj := (k.fresh j b hj).elim (fun hh => h.fresh j b hh) (fun hh => .inr (Nat.le_trans h.size hh))
theorem Adv.of_below {ρ : Nat → Option Nat} {w w' : World} (h : Below w.heap.size w w') : Adv ρ w ρ w' :=
  ⟨h.os, h.tape, h.output, h.size, fun b hb _ => h.block b hb, fun _ _ h => h, fun _ _ h => .inl h, rfl, fun b hb _ => h.block b hb⟩
theorem AdvW.below {ρ : Nat → Option Nat} {w w' : World} (h : AdvW (fun _ => none) w ρ w') : Below w.heap.size w w' :=
  ⟨h.os, h.tape, h.output, h.size, fun b hb => h.old b hb (fun _ => by simp)⟩
theorem Adv.drew (ρ : Nat → Option Nat) (w : World) : Adv ρ w ρ w.drew :=
  ⟨rfl, rfl, rfl, Nat.le_refl _, fun _ _ _ => rfl, fun _ _ h => h, fun _ _ h => .inl h, rfl, fun _ _ _ => rfl⟩

theorem SlC_adv {ρ ρ' : Nat → Option Nat} {w w' : World} {v : Value} {n : Nat} {cells : List Value} (h : SlC ρ w v n cells) (ha : AdvW ρ w ρ' w') : SlC ρ' w' v n cells := by
  obtain ⟨a, cap, rfl, hn, h⟩ := h
  refine ⟨a, cap, rfl, hn, ?_⟩
  rcases h with h | ⟨b, off, h1, h2, h3⟩
  · exact .inl h
  · by_cases he : cells = []
    · exact .inl he
    · have hlt : b < w.heap.size := by
        have := h3 0 (List.length_pos_iff.2 he)
        obtain ⟨c, hc⟩ : ∃ c, cells[0]? = some c := ⟨cells[0]'(List.length_pos_iff.2 he), by simp⟩
        rw [hc] at this
        exact World.block_lt_of_cell? w _ this
      refine .inr ⟨b, off, h1, fun k hk => ?_, fun i hi => ?_⟩
      · rcases ha.fresh k b hk with hh | hh
        · exact h2 k hh
        · omega
      · rw [← h3 i hi]
        exact World.cell?_of_block (ha.old b hlt h2)

theorem CellC_adv {ρ ρ' : Nat → Option Nat} {w w' : World} {v : Value} {cells : List Value} (h : CellC ρ w v cells) (ha : AdvW ρ w ρ' w') : CellC ρ' w' v cells := by
  obtain ⟨b, off, rfl, h2, he, h3⟩ := h
  have hlt : b < w.heap.size := by
    have := h3 0 (List.length_pos_iff.2 he)
    obtain ⟨c, hc⟩ : ∃ c, cells[0]? = some c := ⟨cells[0]'(List.length_pos_iff.2 he), by simp⟩
    rw [hc] at this
    exact World.block_lt_of_cell? w _ this
  refine ⟨b, off, rfl, fun k hk => ?_, he, fun i hi => ?_⟩
  · rcases ha.fresh k b hk with hh | hh
    · exact h2 k hh
    · omega
  · rw [← h3 i hi]
    exact World.cell?_of_block (ha.old b hlt h2)

theorem OwnC_adv {ρ ρ' : Nat → Option Nat} {w w' : World} {v : Value} {k : EK} {l : List Int} (h : OwnC ρ w v k l) (ha : Adv ρ w ρ' w') : OwnC ρ' w' v k l := by
  obtain ⟨h1, h2, ⟨e, h3⟩, h4⟩ := h
  refine ⟨h1, h2, ⟨e, h3.1, ?_⟩, fun b hb => by rw [ha.own]; exact h4 b hb⟩
  rcases h3.2 with hn | ⟨g, cap, cur, rfl, hb, hgg, rest⟩
  · exact .inl hn
  · refine .inr ⟨g, cap, cur, rfl, hb, ?_, rest⟩
    rw [ha.row g (Array.getElem?_eq_some_iff.1 hgg).1 (h4 g rfl)]
    exact hgg

mutual
theorem VC_adv {ρ ρ' : Nat → Option Nat} {w w' : World} (ha : AdvW ρ w ρ' w') : ∀ (lv : LV) (cs : List Value), VC ρ w lv cs → VC ρ' w' lv cs
  | .int .., cs, h | .lit .., cs, h | .str .., cs, h | .slit .., cs, h | .bool .., cs, h | .blit .., cs, h | .nils, cs, h | .nilf, cs, h | .gptr .., cs, h | .wide _, cs, h | .word _, cs, h | .undef, cs, h => by
    simp only [VC] at h ⊢ <;> exact h
  | .agg ps, cs, h => by simp only [VC] at h ⊢; exact VCs_adv ha ps cs h
  | .tup _, cs, h | .own .., cs, h | .oel .., cs, h => by simp [VC] at h
  | .ptr .., cs, h => by simp only [VC] at h ⊢; obtain ⟨b, h1, h2⟩ := h; exact ⟨b, ha.ext _ _ h1, h2⟩
  | .sl .., cs, h => by simp only [VC] at h ⊢; obtain ⟨b, c, h1, h2⟩ := h; exact ⟨b, c, ha.ext _ _ h1, h2⟩
  | .fn f ps, cs, h => by simp only [VC] at h ⊢; obtain ⟨vs, h0, h1, h2⟩ := h; exact ⟨vs, h0, VVs_advW ha ps vs h0 h1, h2⟩
  | .im l, cs, h => by simp only [VC] at h ⊢; obtain ⟨v, c, h1, h2, h3⟩ := h; exact ⟨v, c, h1, VCs_adv ha l c h2, SlC_adv h3 ha⟩
  | .cell l, cs, h => by simp only [VC] at h ⊢; obtain ⟨v, c, h1, h2, h3⟩ := h; exact ⟨v, c, h1, VC_adv ha l c h2, CellC_adv h3 ha⟩
  | .big _, cs, h => by simp only [VC] at h ⊢; obtain ⟨v, h1, h3⟩ := h; exact ⟨v, h1, SlC_adv h3 ha⟩
  | .words _, cs, h => by simp only [VC] at h ⊢; obtain ⟨v, h1, h3⟩ := h; exact ⟨v, h1, SlC_adv h3 ha⟩
  | .ints .., cs, h => by simp only [VC] at h ⊢; obtain ⟨v, h1, h2, h3⟩ := h; exact ⟨v, h1, h2, SlC_adv h3 ha⟩
theorem VCs_adv {ρ ρ' : Nat → Option Nat} {w w' : World} (ha : AdvW ρ w ρ' w') : ∀ (ps : List LV) (cs : List Value), VCs ρ w ps cs → VCs ρ' w' ps cs
  | [], cs, h => by simp only [VCs] at h ⊢; exact h
  | p :: ps, cs, h => by
    simp only [VCs] at h ⊢
    obtain ⟨c1, c2, h0, h1, h2⟩ := h
    exact ⟨c1, c2, h0, VC_adv ha p c1 h1, VCs_adv ha ps c2 h2⟩
theorem VV_advW {ρ ρ' : Nat → Option Nat} {w w' : World} (ha : AdvW ρ w ρ' w') : ∀ (lv : LV) (v : Value), tame lv = true → VV ρ w lv v → VV ρ' w' lv v
  | .int .., v, _, h | .lit .., v, _, h | .str .., v, _, h | .slit .., v, _, h | .bool .., v, _, h | .blit .., v, _, h | .nils, v, _, h | .nilf, v, _, h | .gptr .., v, _, h | .wide _, v, _, h | .word _, v, _, h | .undef, v, _, h => by
    simp only [VV] at h ⊢ <;> exact h
  | .own .., v, ht, h | .oel .., v, ht, h => by simp [tame] at ht
  | .agg ps, v, _, h => by simp only [VV] at h ⊢; obtain ⟨cs, h0, h1⟩ := h; exact ⟨cs, h0, VCs_adv ha ps cs h1⟩
  | .tup ps, v, ht, h => by simp only [VV] at h ⊢; obtain ⟨vs, h0, h1⟩ := h; exact ⟨vs, h0, VVs_advW ha ps vs (by simpa only [tame] using ht) h1⟩
  | .ptr .., v, _, h => by simp only [VV] at h ⊢; obtain ⟨b, h1, h2⟩ := h; exact ⟨b, ha.ext _ _ h1, h2⟩
  | .sl .., v, _, h => by simp only [VV] at h ⊢; obtain ⟨b, c, h1, h2⟩ := h; exact ⟨b, c, ha.ext _ _ h1, h2⟩
  | .fn f ps, v, _, h => by simp only [VV] at h ⊢; obtain ⟨vs, h0, h1, h2⟩ := h; exact ⟨vs, h0, VVs_advW ha ps vs h0 h1, h2⟩
  | .im l, v, _, h => by simp only [VV] at h ⊢; obtain ⟨c, h2, h3⟩ := h; exact ⟨c, VCs_adv ha l c h2, SlC_adv h3 ha⟩
  | .cell l, v, _, h => by simp only [VV] at h ⊢; obtain ⟨c, h2, h3⟩ := h; exact ⟨c, VC_adv ha l c h2, CellC_adv h3 ha⟩
  | .big _, v, _, h => by simp only [VV] at h ⊢; exact SlC_adv h ha
  | .words _, v, _, h => by simp only [VV] at h ⊢; exact SlC_adv h ha
  | .ints .., v, _, h => by simp only [VV] at h ⊢; exact ⟨h.1, SlC_adv h.2 ha⟩
theorem VVs_advW {ρ ρ' : Nat → Option Nat} {w w' : World} (ha : AdvW ρ w ρ' w') : ∀ (ps : List LV) (vs : List Value), tames ps = true → VVs ρ w ps vs → VVs ρ' w' ps vs
  | [], vs, _, h => by simp only [VVs] at h ⊢; exact h
  | p :: ps, vs, ht, h => by
    simp only [tames, Bool.and_eq_true] at ht
    simp only [VVs] at h ⊢
    obtain ⟨v, vs', h0, h1, h2⟩ := h
    exact ⟨v, vs', h0, VV_advW ha p v ht.1 h1, VVs_advW ha ps vs' ht.2 h2⟩
end
mutual
theorem VV_adv {ρ ρ' : Nat → Option Nat} {w w' : World} (ha : Adv ρ w ρ' w') : ∀ (lv : LV) (v : Value), VV ρ w lv v → VV ρ' w' lv v
  | .int .., v, h | .lit .., v, h | .str .., v, h | .slit .., v, h | .bool .., v, h | .blit .., v, h | .nils, v, h | .nilf, v, h | .gptr .., v, h | .wide _, v, h | .word _, v, h | .undef, v, h | .agg _, v, h | .ptr .., v, h | .sl .., v, h | .fn .., v, h | .im _, v, h | .cell _, v, h | .big _, v, h | .words _, v, h | .ints .., v, h => VV_advW ha.weak _ v rfl h
  | .own .., v, h => by simp only [VV] at h ⊢; exact OwnC_adv h ha
  | .oel .., v, h => by simp only [VV] at h ⊢; obtain ⟨u, b, h1, h2⟩ := h; exact ⟨u, b, OwnC_adv h1 ha, h2⟩
  | .tup ps, v, h => by simp only [VV] at h ⊢; obtain ⟨vs, h0, h1⟩ := h; exact ⟨vs, h0, VVs_adv ha ps vs h1⟩
theorem VVs_adv {ρ ρ' : Nat → Option Nat} {w w' : World} (ha : Adv ρ w ρ' w') : ∀ (ps : List LV) (vs : List Value), VVs ρ w ps vs → VVs ρ' w' ps vs
  | [], vs, h => by simp only [VVs] at h ⊢; exact h
  | p :: ps, vs, h => by
    simp only [VVs] at h ⊢
    obtain ⟨v, vs', h0, h1, h2⟩ := h
    exact ⟨v, vs', h0, VV_adv ha p v h1, VVs_adv ha ps vs' h2⟩
end

/-! ## the call's own blocks -/
structure BR (ρ : Nat → Option Nat) (w : World) (bx : Bx) : Prop where
  cont : ∀ k b, ρ (k + 1) = some b → ∃ ty lv cs t, bx k = some (ty, lv) ∧ (shape ty lv = true ∧ ty.noU32 = true) ∧ VC ρ w lv cs ∧ w.heap[b]? = some (.cells cs.toArray t (0, 0))
  inj : ∀ k j b, ρ k = some b → ρ j = some b → k = j
  row : ∀ b, ρ 0 = some b → b < w.heap.size
  flag : bx RF = .none → ρ 0 = .none

theorem BR.none (w : World) : BR (fun _ => .none) w Bx.none := ⟨fun k b h => by simp at h, fun k j b h => by simp at h, fun b h => by simp at h, fun _ => rfl⟩
theorem BR.lt {ρ : Nat → Option Nat} {w : World} {bx : Bx} (h : BR ρ w bx) {k b : Nat} (hk : ρ k = some b) : b < w.heap.size := by
  cases k with
  | zero => exact h.row b hk
  | succ k =>
    obtain ⟨ty, lv, cs, t, _, _, _, hh⟩ := h.cont k b hk
    rcases Nat.lt_or_ge b w.heap.size with h' | h'
    · exact h'
    · rw [Array.getElem?_eq_none h'] at hh; cases hh
/-- a step that leaves all that was there -/
theorem BR.below {ρ : Nat → Option Nat} {w w' : World} {bx : Bx} (h : BR ρ w bx) (hb : Below w.heap.size w w') : BR ρ w' bx where
  cont k b hk := by
    obtain ⟨ty, lv, cs, t, h1, h2, h3, h4⟩ := h.cont k b hk
    exact ⟨ty, lv, cs, t, h1, h2, VC_adv (Adv.of_below hb).weak _ _ h3, by rw [hb.block b (h.lt hk)]; exact h4⟩
  inj := h.inj
  row b hr := Nat.lt_of_lt_of_le (h.row b hr) hb.size
  flag := h.flag

def setρ (ρ : Nat → Option Nat) (k b : Nat) : Nat → Option Nat := fun j => match natEq j k with | true => some b | false => ρ j
theorem setρ_same (ρ : Nat → Option Nat) (k b : Nat) : setρ ρ k b k = some b := by simp [setρ]
theorem setρ_other (ρ : Nat → Option Nat) {k j : Nat} (b : Nat) (h : j ≠ k) : setρ ρ k b j = ρ j := by
  unfold setρ; cases hh : natEq j k with
  | true => exact absurd (natEq_true hh) h
  | false => rfl
theorem Bx.set_same (b : Bx) (k : Nat) (c : Ty × LV) : b.set k c k = some c := by simp [Bx.set]
theorem Bx.set_other (b : Bx) {k j : Nat} (c : Ty × LV) (h : j ≠ k) : b.set k c j = b j := by
  unfold Bx.set; cases hh : natEq j k with
  | true => exact absurd (natEq_true hh) h
  | false => rfl
theorem Bx.set_none {b : Bx} {k : Nat} {c : Ty × LV} {j : Nat} (h : b.set k c j = .none) : b j = .none := by
  by_cases e : j = k
  · subst e; rw [Bx.set_same] at h; cases h
  · rwa [Bx.set_other _ _ e] at h

/-- a new block -/
theorem adv_new {ρ : Nat → Option Nat} {w : World} {k : Nat} (hk : ρ (k + 1) = none) (o : Obj) : Adv ρ w (setρ ρ (k + 1) w.heap.size) (w.alloc o) where
  os := rfl
  tape := rfl
  output := rfl
  size := by simp
  old b hb _ := Below.heap_alloc w o b hb
  ext j b hj := by rw [setρ_other _ _ (fun e => by rw [e, hk] at hj; cases hj)]; exact hj
  fresh j b hj := by
    by_cases e : j = k + 1
    · subst e; rw [setρ_same] at hj; cases hj; exact .inr (Nat.le_refl _)
    · rw [setρ_other _ _ e] at hj; exact .inl hj
  own := setρ_other _ _ (by omega)
  row b hb _ := Below.heap_alloc w o b hb
theorem br_new {ρ : Nat → Option Nat} {w : World} {bx : Bx} {k : Nat} (h : BR ρ w bx) (hk : ρ (k + 1) = none) {ty : Ty} {lv : LV} {cs : List Value} (t : TypeId) (hs : shape ty lv = true ∧ ty.noU32 = true) (hc : VC ρ w lv cs) :
    BR (setρ ρ (k + 1) w.heap.size) (w.alloc (.cells cs.toArray t)) (bx.set k (ty, lv)) where
  cont j b hj := by
    by_cases e : j = k
    · subst e
      rw [setρ_same] at hj; cases hj
      refine ⟨ty, lv, cs, t, Bx.set_same _ _ _, hs, VC_adv (adv_new hk _).weak _ _ hc, ?_⟩
      show (w.heap.push _)[w.heap.size]? = _
      simp
    · rw [setρ_other _ _ (by omega)] at hj
      obtain ⟨ty', lv', cs', t', h1, h2, h3, h4⟩ := h.cont j b hj
      exact ⟨ty', lv', cs', t', by rw [Bx.set_other _ _ e]; exact h1, h2, VC_adv (adv_new hk _).weak _ _ h3, by rw [Below.heap_alloc _ _ _ (h.lt hj)]; exact h4⟩
  inj i j b hi hj := by
    by_cases ei : i = k + 1 <;> by_cases ej : j = k + 1
    · rw [ei, ej]
    · subst ei; rw [setρ_same] at hi; rw [setρ_other _ _ ej] at hj; cases hi; have := h.lt hj; omega
    · subst ej; rw [setρ_same] at hj; rw [setρ_other _ _ ei] at hi; cases hj; have := h.lt hi; omega
    · rw [setρ_other _ _ ei] at hi; rw [setρ_other _ _ ej] at hj; exact h.inj i j b hi hj
  row b hb := by
    rw [setρ_other _ _ (by omega)] at hb
    have := h.row b hb
    simp; omega
  flag hb := by rw [setρ_other _ _ (by omega)]; exact h.flag (Bx.set_none hb)

/-- a block of the call's own, written anew -/
theorem adv_put {ρ : Nat → Option Nat} {w w' : World} {k b : Nat} (hk : ρ (k + 1) = some b) (hinj : ρ 0 ≠ some b) (hos : w'.os = w.os) (ht : w'.tape = w.tape) (ho : w'.output = w.output) (hs : w'.heap.size = w.heap.size)
    (hh : ∀ i, i ≠ b → w'.heap[i]? = w.heap[i]?) : Adv ρ w ρ w' :=
  ⟨hos, ht, ho, Nat.le_of_eq hs.symm, fun i _ hn => hh i (fun e => hn (k + 1) (e ▸ hk)), fun _ _ h => h, fun _ _ h => .inl h, rfl, fun i _ hr => hh i (fun e => hinj (e ▸ hr))⟩
theorem BR.apart {ρ : Nat → Option Nat} {w : World} {bx : Bx} (h : BR ρ w bx) {k b : Nat} (hk : ρ (k + 1) = some b) : ρ 0 ≠ some b := fun e => by
  have := h.inj _ _ b hk e; omega
theorem br_put {ρ : Nat → Option Nat} {w w' : World} {bx : Bx} {k b : Nat} (h : BR ρ w bx) (hk : ρ (k + 1) = some b) (ha : Adv ρ w ρ w') (hh : ∀ i, i ≠ b → w'.heap[i]? = w.heap[i]?)
    {ty : Ty} {lv : LV} {cs : List Value} {t : TypeId} (hs : shape ty lv = true ∧ ty.noU32 = true) (hc : VC ρ w lv cs) (hb : w'.heap[b]? = some (.cells cs.toArray t (0, 0))) : BR ρ w' (bx.set k (ty, lv)) where
  cont j c hj := by
    by_cases e : j = k
    · subst e
      rw [hk] at hj; cases hj
      exact ⟨ty, lv, cs, t, Bx.set_same _ _ _, hs, VC_adv ha.weak _ _ hc, hb⟩
    · obtain ⟨ty', lv', cs', t', h1, h2, h3, h4⟩ := h.cont j c hj
      refine ⟨ty', lv', cs', t', by rw [Bx.set_other _ _ e]; exact h1, h2, VC_adv ha.weak _ _ h3, ?_⟩
      rw [hh c (fun ec => e (by have := h.inj (j + 1) (k + 1) c hj (ec ▸ hk); omega))]
      exact h4
  inj := h.inj
  row b hr := Nat.lt_of_lt_of_le (h.row b hr) ha.size
  flag hf := h.flag (Bx.set_none hf)
theorem kindEq_self (k : IntKind) : kindEq k k = true := by cases k <;> rfl
theorem EK.cells (k : EK) (n : Int) : (k.cell n).cells = #[k.cell n] := by cases k <;> rfl
theorem EK.ty_size (k : EK) : k.ty.size = 1 := by cases k <;> rfl
theorem shape_elV (k : EK) (n : Int) : shape k.ty (elV real k n) = true := by
  cases k with
  | int k => exact kindEq_self k
  | bool => rfl
theorem VC_elV {ρ : Nat → Option Nat} {w : World} {k : EK} {n : Int} (h : inE k n) : VC ρ w (elV real k n) [k.cell n] := by
  cases k with
  | int k => simp only [elV, VC]; exact ⟨h, rfl⟩
  | bool => simp only [elV, VC]; rfl
theorem VV_elV {ρ : Nat → Option Nat} {w : World} {k : EK} {n : Int} (h : inE k n) : VV ρ w (elV real k n) (k.cell n) := by
  cases k with
  | int k => simp only [elV, VV]; exact ⟨h, rfl⟩
  | bool => simp only [elV, VV]; rfl
/-- an element, told -/
theorem numE_VV {ρ : Nat → Option Nat} {w : World} {k : EK} {x : LV} {n : Int} {v : Value} (h : numE real k x = some n) (hv : VV ρ w x v) : inE k n ∧ v = k.cell n := by
  cases k with
  | int k =>
    cases x <;> simp only [numE, asInt, reduceCtorEq] at h
    all_goals (
      split at h
      · rename_i hk
        cases h
        have := EK.int.inj (ekEq_eq (a := .int _) (b := .int _) hk)
        subst this
        simp only [VV] at hv
        exact hv
      · cases h)
  | bool =>
    cases x <;> simp only [numE, isArgB, reduceCtorEq] at h
    all_goals (
      cases h
      simp only [VV] at hv
      rename_i b
      subst hv
      cases b
      · exact ⟨.inl rfl, rfl⟩
      · exact ⟨.inr rfl, rfl⟩)
theorem numE_VC {ρ : Nat → Option Nat} {w : World} {k : EK} {x : LV} {n : Int} {cs : List Value} (h : numE real k x = some n) (hv : VC ρ w x cs) : inE k n ∧ cs = [k.cell n] := by
  have ha : aggLV x = false := by
    cases k <;> cases x <;> first | rfl | (simp [numE, asInt, isArgB] at h)
  obtain ⟨v, rfl, hvv⟩ := VV_of_cells ha hv
  obtain ⟨h1, rfl⟩ := numE_VV h hvv
  exact ⟨h1, rfl⟩
end Go.LE
namespace Go.LE
open Go Go.RowKit

theorem kindEq_eq {a b : IntKind} : kindEq a b = true → a = b := by cases a <;> cases b <;> simp [kindEq]
theorem kindEq_refl (a : IntKind) : kindEq a a = true := by cases a <;> rfl
mutual
theorem Ty.eqb_eq : ∀ (a b : Ty), a.eqb b = true → a = b
  | .int k, .int j, h => by simp only [Ty.eqb] at h; rw [kindEq_eq h]
  | .bool, .bool, _ => rfl
  | .str, .str, _ => rfl
  | .slice a, .slice b, h => by rw [Ty.eqb_eq a b (by simpa [Ty.eqb] using h)]
  | .func, .func, _ => rfl
  | .struct fs, .struct gs, h => by rw [Ty.eqbs_eq fs gs (by simpa [Ty.eqb] using h)]
  | .arr n e, .arr m f, h => by
    simp only [Ty.eqb, Bool.and_eq_true, beq_iff_eq] at h
    rw [h.1, Ty.eqb_eq e f h.2]
  | .int _, .bool, h | .int _, .str, h | .int _, .slice _, h | .int _, .func, h | .int _, .struct _, h | .int _, .arr _ _, h
  | .bool, .int _, h | .bool, .str, h | .bool, .slice _, h | .bool, .func, h | .bool, .struct _, h | .bool, .arr _ _, h
  | .str, .int _, h | .str, .bool, h | .str, .slice _, h | .str, .func, h | .str, .struct _, h | .str, .arr _ _, h
  | .slice _, .int _, h | .slice _, .bool, h | .slice _, .str, h | .slice _, .func, h | .slice _, .struct _, h | .slice _, .arr _ _, h
  | .func, .int _, h | .func, .bool, h | .func, .str, h | .func, .slice _, h | .func, .struct _, h | .func, .arr _ _, h
  | .struct _, .int _, h | .struct _, .bool, h | .struct _, .str, h | .struct _, .slice _, h | .struct _, .func, h | .struct _, .arr _ _, h
  | .arr _ _, .int _, h | .arr _ _, .bool, h | .arr _ _, .str, h | .arr _ _, .slice _, h | .arr _ _, .func, h | .arr _ _, .struct _, h => by simp [Ty.eqb] at h
theorem Ty.eqbs_eq : ∀ (a b : List Ty), Ty.eqbs a b = true → a = b
  | [], [], _ => rfl
  | a :: as, b :: bs, h => by
    simp only [Ty.eqbs, Bool.and_eq_true] at h
    rw [Ty.eqb_eq a b h.1, Ty.eqbs_eq as bs h.2]
  | [], _ :: _, h | _ :: _, [], h => by simp [Ty.eqbs] at h
end

theorem sizes_el {e : Ty} (he : ∀ lv, shape e lv = true → lv.size = e.size) : ∀ (ps : List LV), shapeEl e ps = true → LV.sizes ps = ps.length * e.size
  | [], _ => by simp [LV.sizes]
  | p :: ps, h => by
    simp only [shapeEl, Bool.and_eq_true] at h
    rw [LV.sizes, he p h.1, sizes_el he ps h.2, List.length_cons, Nat.add_mul, Nat.one_mul, Nat.add_comm]
mutual
theorem shape_size : ∀ (ty : Ty) (lv : LV), shape ty lv = true → lv.size = ty.size
  | .int k, lv, h => by cases lv <;> first | rfl | simp [shape] at h
  | .bool, lv, h => by cases lv <;> first | rfl | simp [shape] at h
  | .str, lv, h => by cases lv <;> first | rfl | simp [shape] at h
  | .slice e, lv, h => by cases lv <;> first | rfl | simp [shape] at h
  | .func, lv, h => by cases lv <;> first | rfl | simp [shape] at h
  | .struct fs, lv, h => by
    cases lv with
    | agg ps => simp only [shape] at h; simp only [LV.size, Ty.size]; exact shapes_size fs ps h
    | word b =>
      unfold shape at h
      split at h <;> first | (simp_all; done) | skip
      all_goals simp_all [LV.size, Ty.size, Ty.sizes]
    | _ => simp [shape] at h
  | .arr n e, lv, h => by
    cases lv with
    | agg ps =>
      simp only [shape, Bool.and_eq_true] at h
      simp only [LV.size, Ty.size]
      rw [sizes_el (fun lv hl => shape_size e lv hl) ps h.2, natEq_true h.1]
    | wide b =>
      unfold shape at h
      split at h <;> first | (simp_all; done) | skip
      all_goals simp_all [LV.size, Ty.size]
    | _ => simp [shape] at h
theorem shapes_size : ∀ (fs : List Ty) (ps : List LV), shapes fs ps = true → LV.sizes ps = Ty.sizes fs
  | [], [], _ => rfl
  | f :: fs, p :: ps, h => by
    simp only [shapes, Bool.and_eq_true] at h
    rw [LV.sizes, Ty.sizes, shape_size f p h.1, shapes_size fs ps h.2]
  | [], _ :: _, h | _ :: _, [], h => by simp [shapes] at h
end

theorem inK_limb (b : BitVec 512) (i : Nat) : inK .u64 (limbR b i) := by
  unfold inK limbR
  rw [IntKind.wrap_u64]
  omega
theorem inK_hi (b : BitVec 128) : inK .u64 (hiR b) := by
  have := b.isLt
  unfold inK hiR
  rw [IntKind.wrap_u64]
  omega
theorem inK_lo (b : BitVec 128) : inK .u64 (loR b) := by
  unfold inK loR
  rw [IntKind.wrap_u64]
  omega

theorem parts_VCs {ρ : Nat → Option Nat} {w : World} {lv : LV} {ps : List LV} {cs : List Value} (hp : partsOf real lv = some ps) (h : VC ρ w lv cs) : VCs ρ w ps cs := by
  cases lv <;> simp only [partsOf, Option.some.injEq, reduceCtorEq] at hp
  case agg => subst hp; simpa only [VC] using h
  case wide b =>
    subst hp
    simp only [VC] at h; subst h
    simp only [limbs, VCs, VC, wideCells]
    exact ⟨[_], _, rfl, ⟨inK_limb b 0, rfl⟩, [_], _, rfl, ⟨inK_limb b 1, rfl⟩, [_], _, rfl, ⟨inK_limb b 2, rfl⟩, [_], _, rfl, ⟨inK_limb b 3, rfl⟩, [_], _, rfl, ⟨inK_limb b 4, rfl⟩, [_], _, rfl, ⟨inK_limb b 5, rfl⟩, [_], _, rfl, ⟨inK_limb b 6, rfl⟩, [_], [], rfl, ⟨inK_limb b 7, rfl⟩, rfl⟩
  case word b =>
    subst hp
    simp only [VC] at h; subst h
    simp only [VCs, VC, wordCells]
    exact ⟨[_], _, rfl, ⟨inK_hi b, rfl⟩, [_], [], rfl, ⟨inK_lo b, rfl⟩, rfl⟩
theorem parts_struct {fs : List Ty} {lv : LV} {ps : List LV} (hp : partsOf real lv = some ps) (h : shape (.struct fs) lv = true) : shapes fs ps = true := by
  cases lv <;> simp only [partsOf, Option.some.injEq, reduceCtorEq] at hp
  case agg => subst hp; simpa only [shape] using h
  case wide b => simp [shape] at h
  case word b =>
    subst hp
    unfold shape at h
    split at h <;> first | (simp_all; done) | skip
    all_goals simp_all [shapes, shape, kindEq]
theorem parts_arr {n : Nat} {e : Ty} {lv : LV} {ps : List LV} (hp : partsOf real lv = some ps) (h : shape (.arr n e) lv = true) : ps.length = n ∧ shapeEl e ps = true := by
  cases lv <;> simp only [partsOf, Option.some.injEq, reduceCtorEq] at hp
  case agg => subst hp; simp only [shape, Bool.and_eq_true] at h; exact ⟨natEq_true h.1, h.2⟩
  case word b => simp [shape] at h
  case wide b =>
    subst hp
    unfold shape at h
    split at h <;> first | (simp_all; done) | skip
    all_goals simp_all [shapeEl, shape, kindEq, limbs]

theorem blt_iff (a b : Nat) : natLt a b = true ↔ a < b := by simp [natLt]
theorem blt_false (a b : Nat) : natLt a b = false ↔ b ≤ a := by
  rw [← Bool.not_eq_true, blt_iff]; omega

section
variable {ρ : Nat → Option Nat} {w : World}
/-- what is told of a part -/
def PartOk (ρ : Nat → Option Nat) (w : World) (cs : List Value) (off : Nat) (tgt : Ty) (p : LV) : Prop :=
  shape tgt p = true ∧ VC ρ w p ((cs.drop off).take tgt.size) ∧ off + tgt.size ≤ cs.length

theorem partOk_left {c1 c2 : List Value} {off : Nat} {tgt : Ty} {p : LV} (h : PartOk ρ w c1 off tgt p) : PartOk ρ w (c1 ++ c2) off tgt p := by
  obtain ⟨h1, h2, h3⟩ := h
  refine ⟨h1, ?_, by simp; omega⟩
  rw [List.drop_append_of_le_length (by omega), List.take_append_of_le_length (by simp; omega)]
  exact h2
theorem partOk_right {c1 c2 : List Value} {off : Nat} {tgt : Ty} {p : LV} (hl : c1.length ≤ off) (h : PartOk ρ w c2 (off - c1.length) tgt p) : PartOk ρ w (c1 ++ c2) off tgt p := by
  obtain ⟨h1, h2, h3⟩ := h
  refine ⟨h1, ?_, by simp; omega⟩
  rw [List.drop_append, List.drop_eq_nil_of_le hl, List.nil_append]
  exact h2

theorem getAt_sound : ∀ (d : Nat) (ty : Ty) (lv : LV) (off : Nat) (tgt : Ty) (p : LV), getAt real d ty lv off tgt = some p → shape ty lv = true →
    ∀ cs, VC ρ w lv cs → PartOk ρ w cs off tgt p := by
  intro d
  induction d with
  | zero => intro ty lv off tgt p h; simp [getAt] at h
  | succ d ih =>
    have hin : ∀ (fs : List Ty) (ps : List LV) (off : Nat) (tgt : Ty) (p : LV), getAt.getIn real d fs ps off tgt = some p → shapes fs ps = true → ∀ cs, VCs ρ w ps cs → PartOk ρ w cs off tgt p := by
      intro fs
      induction fs with
      | nil => intro ps off tgt p h; simp [getAt.getIn] at h
      | cons f fs ihf =>
        intro ps off tgt p h hs cs hc
        cases ps with
        | nil => simp [getAt.getIn] at h
        | cons q ps =>
          simp only [shapes, Bool.and_eq_true] at hs
          simp only [VCs] at hc
          obtain ⟨c1, c2, rfl, h1, h2⟩ := hc
          have hl : c1.length = f.size := by rw [VC_size _ _ h1, shape_size _ _ hs.1]
          simp only [getAt.getIn] at h
          split at h
          · exact partOk_left (ih f q off tgt p h hs.1 c1 h1)
          · rename_i hb
            have hb := (blt_false _ _).1 hb
            exact partOk_right (by omega) (by rw [hl]; exact ihf ps (off - f.size) tgt p h hs.2 c2 h2)
    have hel : ∀ (e : Ty) (ps : List LV) (off : Nat) (tgt : Ty) (p : LV), getAt.getEl real d e ps off tgt = some p → shapeEl e ps = true → ∀ cs, VCs ρ w ps cs → PartOk ρ w cs off tgt p := by
      intro e ps
      induction ps with
      | nil => intro off tgt p h; simp [getAt.getEl] at h
      | cons q ps ihp =>
        intro off tgt p h hs cs hc
        simp only [shapeEl, Bool.and_eq_true] at hs
        simp only [VCs] at hc
        obtain ⟨c1, c2, rfl, h1, h2⟩ := hc
        have hl : c1.length = e.size := by rw [VC_size _ _ h1, shape_size _ _ hs.1]
        simp only [getAt.getEl] at h
        split at h
        · exact partOk_left (ih e q off tgt p h hs.1 c1 h1)
        · rename_i hb
          have hb := (blt_false _ _).1 hb
          exact partOk_right (by omega) (by rw [hl]; exact ihp (off - e.size) tgt p h hs.2 c2 h2)
    intro ty lv off tgt p h hs cs hc
    unfold getAt at h
    split at h
    · rename_i hb
      simp only [Bool.and_eq_true, beq_iff_eq] at hb
      obtain ⟨h0, h1⟩ := hb
      have := Ty.eqb_eq _ _ h1
      subst h0 this
      cases h
      have hl : cs.length = ty.size := by rw [VC_size _ _ hc, shape_size _ _ hs]
      exact ⟨hs, by simpa [← hl] using hc, by omega⟩
    · split at h
      · rename_i hp _
        exact hin _ _ off tgt p h (parts_struct hp hs) cs (parts_VCs hp hc)
      · rename_i hp _
        exact hel _ _ off tgt p h (parts_arr hp hs).2 cs (parts_VCs hp hc)
      · cases h

theorem put_left {c1 c2 vs : List Value} {off : Nat} (h : off + vs.length ≤ c1.length) :
    (c1 ++ c2).take off ++ vs ++ (c1 ++ c2).drop (off + vs.length) = (c1.take off ++ vs ++ c1.drop (off + vs.length)) ++ c2 := by
  rw [List.take_append_of_le_length (by omega), List.drop_append_of_le_length h]
  simp [List.append_assoc]
theorem put_right {c1 c2 vs : List Value} {off : Nat} (h : c1.length ≤ off) :
    (c1 ++ c2).take off ++ vs ++ (c1 ++ c2).drop (off + vs.length) = c1 ++ (c2.take (off - c1.length) ++ vs ++ c2.drop (off - c1.length + vs.length)) := by
  rw [List.take_append, List.take_of_length_le h, List.drop_append, List.drop_eq_nil_of_le (by omega), show off + vs.length - c1.length = off - c1.length + vs.length by omega]
  simp [List.append_assoc]

theorem setAt_sound : ∀ (d : Nat) (ty : Ty) (lv : LV) (off : Nat) (tgt : Ty) (v lv' : LV), setAt real d ty lv off tgt v = some lv' → shape ty lv = true → shape tgt v = true →
    ∀ cs vs, VC ρ w lv cs → VC ρ w v vs → shape ty lv' = true ∧ VC ρ w lv' (cs.take off ++ vs ++ cs.drop (off + vs.length)) ∧ off + vs.length ≤ cs.length := by
  intro d
  induction d with
  | zero => intro ty lv off tgt v lv' h; simp [setAt] at h
  | succ d ih =>
    have hin : ∀ (fs : List Ty) (ps : List LV) (off : Nat) (tgt : Ty) (v : LV) (ps' : List LV), setAt.setIn real d fs ps off tgt v = some ps' → shapes fs ps = true → shape tgt v = true →
        ∀ cs vs, VCs ρ w ps cs → VC ρ w v vs → shapes fs ps' = true ∧ VCs ρ w ps' (cs.take off ++ vs ++ cs.drop (off + vs.length)) ∧ off + vs.length ≤ cs.length := by
      intro fs
      induction fs with
      | nil => intro ps off tgt v ps' h; simp [setAt.setIn] at h
      | cons f fs ihf =>
        intro ps off tgt v ps' h hs hv cs vs hc hvc
        cases ps with
        | nil => simp [setAt.setIn] at h
        | cons q ps =>
          simp only [shapes, Bool.and_eq_true] at hs
          simp only [VCs] at hc
          obtain ⟨c1, c2, rfl, h1, h2⟩ := hc
          have hl : c1.length = f.size := by rw [VC_size _ _ h1, shape_size _ _ hs.1]
          simp only [setAt.setIn] at h
          split at h
          · obtain ⟨q', hq, rfl⟩ := Option.map_eq_some_iff.1 h
            obtain ⟨e1, e2, e3⟩ := ih f q off tgt v q' hq hs.1 hv c1 vs h1 hvc
            refine ⟨by simp [shapes, e1, hs.2], ?_, by simp; omega⟩
            rw [put_left e3]
            simp only [VCs]
            exact ⟨_, _, rfl, e2, h2⟩
          · rename_i hb
            have hb := (blt_false _ _).1 hb
            obtain ⟨q', hq, rfl⟩ := Option.map_eq_some_iff.1 h
            obtain ⟨e1, e2, e3⟩ := ihf ps (off - f.size) tgt v q' hq hs.2 hv c2 vs h2 hvc
            refine ⟨by simp [shapes, e1, hs.1], ?_, by simp; omega⟩
            rw [put_right (by omega), hl]
            simp only [VCs]
            exact ⟨_, _, rfl, h1, e2⟩
    have hel : ∀ (e : Ty) (ps : List LV) (off : Nat) (tgt : Ty) (v : LV) (ps' : List LV), setAt.setEl real d e ps off tgt v = some ps' → shapeEl e ps = true → shape tgt v = true →
        ∀ cs vs, VCs ρ w ps cs → VC ρ w v vs → (shapeEl e ps' = true ∧ ps'.length = ps.length) ∧ VCs ρ w ps' (cs.take off ++ vs ++ cs.drop (off + vs.length)) ∧ off + vs.length ≤ cs.length := by
      intro e ps
      induction ps with
      | nil => intro off tgt v ps' h; simp [setAt.setEl] at h
      | cons q ps ihp =>
        intro off tgt v ps' h hs hv cs vs hc hvc
        simp only [shapeEl, Bool.and_eq_true] at hs
        simp only [VCs] at hc
        obtain ⟨c1, c2, rfl, h1, h2⟩ := hc
        have hl : c1.length = e.size := by rw [VC_size _ _ h1, shape_size _ _ hs.1]
        simp only [setAt.setEl] at h
        split at h
        · obtain ⟨q', hq, rfl⟩ := Option.map_eq_some_iff.1 h
          obtain ⟨e1, e2, e3⟩ := ih e q off tgt v q' hq hs.1 hv c1 vs h1 hvc
          refine ⟨⟨by simp [shapeEl, e1, hs.2], by simp⟩, ?_, by simp; omega⟩
          rw [put_left e3]
          simp only [VCs]
          exact ⟨_, _, rfl, e2, h2⟩
        · rename_i hb
          have hb := (blt_false _ _).1 hb
          obtain ⟨q', hq, rfl⟩ := Option.map_eq_some_iff.1 h
          obtain ⟨⟨e1, e1'⟩, e2, e3⟩ := ihp (off - e.size) tgt v q' hq hs.2 hv c2 vs h2 hvc
          refine ⟨⟨by simp [shapeEl, e1, hs.1], by simp [e1']⟩, ?_, by simp; omega⟩
          rw [put_right (by omega), hl]
          simp only [VCs]
          exact ⟨_, _, rfl, h1, e2⟩
    intro ty lv off tgt v lv' h hs hv cs vs hc hvc
    unfold setAt at h
    split at h
    · rename_i hb
      simp only [Bool.and_eq_true, beq_iff_eq] at hb
      obtain ⟨h0, h1⟩ := hb
      have := Ty.eqb_eq _ _ h1
      subst h0 this
      cases h
      have hl : cs.length = ty.size := by rw [VC_size _ _ hc, shape_size _ _ hs]
      have hl' : vs.length = ty.size := by rw [VC_size _ _ hvc, shape_size _ _ hv]
      refine ⟨hv, ?_, by omega⟩
      rw [List.take_zero, List.nil_append, Nat.zero_add, List.drop_eq_nil_of_le (by omega), List.append_nil]
      exact hvc
    · split at h
      · rename_i hp _
        obtain ⟨ps', hq, rfl⟩ := Option.map_eq_some_iff.1 h
        obtain ⟨e1, e2, e3⟩ := hin _ _ off tgt v ps' hq (parts_struct hp hs) hv cs vs (parts_VCs hp hc) hvc
        exact ⟨by simpa only [shape] using e1, by simpa only [VC] using e2, e3⟩
      · rename_i hp _
        obtain ⟨ps', hq, rfl⟩ := Option.map_eq_some_iff.1 h
        obtain ⟨⟨e1, e1'⟩, e2, e3⟩ := hel _ _ off tgt v ps' hq (parts_arr hp hs).2 hv cs vs (parts_VCs hp hc) hvc
        refine ⟨?_, by simpa only [VC] using e2, e3⟩
        simp only [shape, Bool.and_eq_true]
        exact ⟨by rw [e1', (parts_arr hp hs).1]; simp, e1⟩
      · cases h
end
end Go.LE
namespace Go.LE
open Go Go.RowKit

/-! ## outcomes -/
def R.Y {α : Type} : R α → α → Prop
  | .ok a, b => a = b
  | .fail, _ => False
  | .req p r, b => p ∧ r.Y b
  | .br b x y, c => match b with | true => x.Y c | false => y.Y c
theorem R.wp_Y {α : Type} {K : α → Prop} : ∀ (r : R α), r.wp K → ∃ a, r.Y a ∧ K a
  | .ok a, h => ⟨a, rfl, h⟩
  | .fail, h => h.elim
  | .req p r, h => let ⟨a, h1, h2⟩ := R.wp_Y r h.2; ⟨a, ⟨h.1, h1⟩, h2⟩
  | .br true x y, h => by
    obtain ⟨a, h1, h2⟩ := R.wp_Y x (h.1.resolve_left (by simp))
    exact ⟨a, h1, h2⟩
  | .br false x y, h => by
    obtain ⟨a, h1, h2⟩ := R.wp_Y y (h.2.resolve_left (by simp))
    exact ⟨a, h1, h2⟩

/-! ## what a program's types are -/
mutual
/-- the cells of a type's zero value -/
def Ty.zc : Ty → List Value
  | .int k => [.int k 0]
  | .bool => [.bool false]
  | .str => [.string ByteArray.empty]
  | .slice _ => [.slice none 0 0]
  | .func => [.nilFunc]
  | .struct fs => Ty.zcs fs
  | .arr n e => (List.replicate n e.zc).flatten
def Ty.zcs : List Ty → List Value
  | [] => []
  | t :: ts => t.zc ++ Ty.zcs ts
end

def Inf (P : Program) (t : TypeId) (ty : Ty) : Prop := ∃ i z, P.info? t = some i ∧ i.size = ty.size ∧ i.zero = some z ∧ z.cells.toList = ty.zc ∧ ∀ k : EK, ty = k.ty → i.bytes ≤ 8

mutual
def TyRep (P : Program) : Ty → TypeId → Prop
  | .int k, t => Inf P t (.int k) ∧ P.underlying t = some (.int k)
  | .bool, t => Inf P t .bool ∧ P.underlying t = some .bool
  | .str, t => Inf P t .str ∧ P.underlying t = some .string
  | .slice e, t => Inf P t (.slice e) ∧ ∃ et, P.underlying t = some (.slice et) ∧ TyRep P e et
  | .func, t => Inf P t .func ∧ ∃ a b c, P.underlying t = some (.func a b c)
  | .struct fs, t => Inf P t (.struct fs) ∧ P.stoodInHeld t = false ∧ P.eqGuardType P.depth t = false ∧ ∃ fields, P.underlying t = some (.struct fields) ∧ TyReps P fs fields.toList 0
  | .arr n e, t => Inf P t (.arr n e) ∧ P.eqGuardType P.depth t = false ∧ ∃ et, P.underlying t = some (.array n et) ∧ TyRep P e et
def TyReps (P : Program) : List Ty → List Field → Nat → Prop
  | [], l, _ => l = []
  | t :: ts, l, off => ∃ f fs, l = f :: fs ∧ f.offset = off ∧ f.name ≠ "_" ∧ t.size ≠ 0 ∧ TyRep P t f.type ∧ TyReps P ts fs (off + t.size)
end

def Ty.isAgg : Ty → Bool
  | .struct _ | .arr _ _ => true
  | _ => false

section types
variable {P : Program}
theorem TyRep.inf {ty : Ty} {t : TypeId} (h : TyRep P ty t) : Inf P t ty := by
  cases ty <;> simp only [TyRep] at h <;> exact h.1
theorem run_size {ty : Ty} {t : TypeId} (h : TyRep P ty t) (w : World) : (sizeOf t).run P w = .ok ty.size w := by
  obtain ⟨i, z, h1, h2, _⟩ := h.inf
  simp [sizeOf, typeInfo, h1, h2]
theorem run_zero {ty : Ty} {t : TypeId} (h : TyRep P ty t) (w : World) : ∃ z, (zeroValue t).run P w = .ok z w ∧ z.cells.toList = ty.zc := by
  obtain ⟨i, z, h1, _, h2, h3, _⟩ := h.inf
  exact ⟨z, by simp [zeroValue, typeInfo, h1, h2], h3⟩
theorem run_isAgg {ty : Ty} {t : TypeId} (h : TyRep P ty t) (w : World) : (isAgg t).run P w = .ok ty.isAgg w := by
  cases ty <;> simp only [TyRep] at h <;> unfold isAgg
  case int => simp [run_underlying h.2, Ty.isAgg]
  case bool => simp [run_underlying h.2, Ty.isAgg]
  case str => simp [run_underlying h.2, Ty.isAgg]
  case slice => obtain ⟨_, et, h, _⟩ := h; simp [run_underlying h, Ty.isAgg]
  case func => obtain ⟨_, a, b, c, h⟩ := h; simp [run_underlying h, Ty.isAgg]
  case struct => obtain ⟨_, _, _, fs, h, _⟩ := h; simp [run_underlying h, Ty.isAgg]
  case arr => obtain ⟨_, _, et, h, _⟩ := h; simp [run_underlying h, Ty.isAgg]
end types

theorem shape_agg {ty : Ty} {lv : LV} (h : shape ty lv = true) : aggLV lv = ty.isAgg := by
  cases ty <;> cases lv <;> first | rfl | (simp [shape] at h)

mutual
theorem zero_ok {ρ : Nat → Option Nat} {w : World} : ∀ (ty : Ty), shape ty ty.zero = true ∧ VC ρ w ty.zero ty.zc
  | .int k => by
    refine ⟨by simp [Ty.zero, shape, kindEq_refl], ?_⟩
    simp only [Ty.zero, VC, Ty.zc, and_true]
    cases k <;> rfl
  | .bool => ⟨rfl, by simp [Ty.zero, VC, Ty.zc]⟩
  | .str => ⟨rfl, by simp only [Ty.zero, VC, Ty.zc, and_true]; rfl⟩
  | .slice _ => ⟨rfl, by simp [Ty.zero, VC, Ty.zc]⟩
  | .func => ⟨rfl, by simp [Ty.zero, VC, Ty.zc]⟩
  | .struct fs => by
    obtain ⟨h1, h2⟩ := zeros_ok fs
    exact ⟨by simpa only [Ty.zero, shape] using h1, by simpa only [Ty.zero, VC, Ty.zc] using h2⟩
  | .arr n e => by
    have he := zero_ok (ρ := ρ) (w := w) e
    have hs : ∀ n, shapeEl e (repsLV n e.zero) = true ∧ (repsLV n e.zero).length = n := fun n => by
      induction n with
      | zero => exact ⟨rfl, rfl⟩
      | succ n ih => exact ⟨by rw [repsLV, shapeEl, he.1, ih.1]; rfl, by rw [repsLV, List.length_cons, ih.2]⟩
    have hc : ∀ n, VCs ρ w (repsLV n e.zero) (List.replicate n e.zc).flatten := fun n => by
      induction n with
      | zero => rfl
      | succ n ih => rw [repsLV, List.replicate_succ, List.flatten_cons]; simp only [VCs]; exact ⟨_, _, rfl, he.2, ih⟩
    exact ⟨by simp [Ty.zero, shape, hs n], by simpa only [Ty.zero, VC, Ty.zc] using hc n⟩
theorem zeros_ok {ρ : Nat → Option Nat} {w : World} : ∀ (fs : List Ty), shapes fs (Ty.zeros fs) = true ∧ VCs ρ w (Ty.zeros fs) (Ty.zcs fs)
  | [] => ⟨rfl, rfl⟩
  | t :: ts => by
    obtain ⟨h1, h2⟩ := zero_ok (ρ := ρ) (w := w) t
    obtain ⟨h3, h4⟩ := zeros_ok (ρ := ρ) (w := w) ts
    exact ⟨by simp [Ty.zeros, shapes, h1, h3], by simp only [Ty.zeros, VCs, Ty.zcs]; exact ⟨_, _, rfl, h2, h4⟩⟩
end

mutual
theorem VC_one {ρ : Nat → Option Nat} {w : World} : ∀ (lv : LV) (cs : List Value), VC ρ w lv cs → ∀ c ∈ cs, c.oneCell' = true
  | .int .., cs, h | .lit .., cs, h | .str .., cs, h | .slit .., cs, h => by simp only [VC] at h; rw [h.2]; simp [Value.oneCell']
  | .bool .., cs, h | .blit .., cs, h | .nils, cs, h | .nilf, cs, h | .gptr .., cs, h => by simp only [VC] at h; rw [h]; simp [Value.oneCell']
  | .wide _, cs, h => by simp only [VC] at h; rw [h]; simp [Value.oneCell', wideCells]
  | .word _, cs, h => by simp only [VC] at h; rw [h]; simp [Value.oneCell', wordCells]
  | .agg ps, cs, h => by simp only [VC] at h; exact VCs_one ps cs h
  | .tup _, cs, h => by simp [VC] at h
  | .ptr .., cs, h => by simp only [VC] at h; obtain ⟨b, _, rfl⟩ := h; simp [Value.oneCell']
  | .sl .., cs, h => by simp only [VC] at h; obtain ⟨b, c, _, _, rfl⟩ := h; simp [Value.oneCell']
  | .fn .., cs, h => by simp only [VC] at h; obtain ⟨b, _, _, rfl⟩ := h; simp [Value.oneCell']
  | .im _, cs, h => by simp only [VC] at h; obtain ⟨v, c, rfl, _, a, cap, rfl, _⟩ := h; simp [Value.oneCell']
  | .big _, cs, h => by simp only [VC] at h; obtain ⟨v, rfl, a, cap, rfl, _⟩ := h; simp [Value.oneCell']
  | .words _, cs, h => by simp only [VC] at h; obtain ⟨v, rfl, a, cap, rfl, _⟩ := h; simp [Value.oneCell']
  | .ints .., cs, h => by simp only [VC] at h; obtain ⟨v, rfl, _, a, cap, rfl, _⟩ := h; simp [Value.oneCell']
  | .cell _, cs, h => by simp only [VC] at h; obtain ⟨v, c, rfl, _, a, cap, rfl, _⟩ := h; simp [Value.oneCell']
  | .undef, cs, h | .own .., cs, h | .oel .., cs, h => by simp [VC] at h
theorem VCs_one {ρ : Nat → Option Nat} {w : World} : ∀ (ps : List LV) (cs : List Value), VCs ρ w ps cs → ∀ c ∈ cs, c.oneCell' = true
  | [], cs, h => by simp only [VCs] at h; rw [h]; simp
  | p :: ps, cs, h => by
    simp only [VCs] at h
    obtain ⟨c1, c2, rfl, h1, h2⟩ := h
    intro c hc
    rcases List.mem_append.1 hc with hc | hc
    · exact VC_one p c1 h1 c hc
    · exact VCs_one ps c2 h2 c hc
end

/-- the value that a variable of a type holds -/
theorem VV_typed {ρ : Nat → Option Nat} {w : World} {ty : Ty} {lv : LV} {v : Value} (hs : shape ty lv = true) (h : VV ρ w lv v) : VC ρ w lv v.cells.toList := by
  refine VV_cells ?_ h
  cases lv <;> first | rfl | (cases ty <;> simp [shape] at hs)

/-! ## loads, stores -/
section mem
variable {P : Program} {ρ : Nat → Option Nat} {w : World}

theorem addr_add (b off j : Nat) : (⟨b, off, none⟩ : Addr).add j = ⟨b, off + j, none⟩ := by unfold Addr.add; split <;> simp_all

theorem run_loadVar_cells {ty : Ty} {t : TypeId} (ht : TyRep P ty t) {b off : Nat} {cs : List Value} (hcell : ∀ j v, cs[j]? = some v → w.cell? ((⟨b, off, none⟩ : Addr).add j) = some v) {p : LV} (h1 : shape ty p = true) (h2 : VC ρ w p cs) (hlen : cs.length = ty.size) :
    ∃ v, (loadVar t ⟨b, off, none⟩).run P w = .ok v w ∧ VV ρ w p v := by
  have hag := shape_agg h1
  unfold loadVar
  simp only [Sem.run_bind, run_isAgg ht, Result.andThen]
  cases ha : ty.isAgg with
  | true =>
    rw [ha] at hag
    refine ⟨.agg cs.toArray, ?_, VV_of_agg hag h2⟩
    have := run_loadCells_list (P := P) w ⟨b, off, none⟩ _ hcell
    rw [hlen] at this
    simp [run_size ht, this]
  | false =>
    rw [ha] at hag
    obtain ⟨v, hv, hvv⟩ := VV_of_cells hag h2
    have h0 := hcell 0 v (by rw [hv]; rfl)
    rw [addr_add, Nat.add_zero] at h0
    exact ⟨v, by simp [h0], hvv⟩
theorem run_loadVar_at {ty : Ty} {t : TypeId} (ht : TyRep P ty t) {b off : Nat} {cs : List Value} {et : TypeId} {fr : Nat × Nat} (hb : w.heap[b]? = some (.cells cs.toArray et fr)) {p : LV} (hp : PartOk ρ w cs off ty p) :
    ∃ v, (loadVar t ⟨b, off, none⟩).run P w = .ok v w ∧ VV ρ w p v := by
  obtain ⟨h1, h2, h3⟩ := hp
  refine run_loadVar_cells (cs := (cs.drop off).take ty.size) ht (fun j v hj => ?_) h1 h2 (by simp; omega)
  rw [List.getElem?_take, List.getElem?_drop] at hj
  split at hj
  · rw [addr_add]
    simp [World.cell?, hb, hj]
  · cases hj

theorem run_storeVar_at {ty : Ty} {t : TypeId} (ht : TyRep P ty t) {b off : Nat} {cs : List Value} {et : TypeId} (hb : w.heap[b]? = some (.cells cs.toArray et (0, 0))) {v : Value} (hn : v.cells.size = ty.size)
    (hfit : off + v.cells.size ≤ cs.length) (hone : ∀ c ∈ v.cells.toList, c.oneCell' = true) :
    (storeVar t ⟨b, off, none⟩ v).run P w = .ok () (w.setRow b (cs.take off ++ v.cells.toList ++ cs.drop (off + v.cells.toList.length)).toArray) := by
  unfold storeVar
  have := run_storeCells_at (P := P) b off et v.cells.toList 0 cs.toArray w hb (by simpa using hfit) hone
  simp only [Nat.add_zero] at this
  simp [run_size ht, hn, this]
end mem

end Go.LE
namespace Go.LE
open Go Go.RowKit

structure EnvOk (P : Program) (E : Env) : Prop where
  ty : ∀ t ty, look E.ty t = some ty → TyRep P ty t

mutual
theorem VC_flat {ρ ρ' : Nat → Option Nat} {w w' : World} : ∀ (lv : LV) (cs : List Value), flat lv = true → VC ρ w lv cs → VC ρ' w' lv cs
  | .int .., cs, _, h | .lit .., cs, _, h | .str .., cs, _, h | .slit .., cs, _, h | .bool .., cs, _, h | .blit .., cs, _, h | .nils, cs, _, h | .nilf, cs, _, h | .gptr .., cs, _, h | .wide _, cs, _, h | .word _, cs, _, h => by
    simp only [VC] at h ⊢ <;> exact h
  | .agg ps, cs, hf, h => by simp only [VC] at h ⊢; exact VCs_flat ps cs (by simpa only [flat] using hf) h
  | .own .., cs, hf, h | .oel .., cs, hf, h | .tup _, cs, hf, h | .ptr .., cs, hf, h | .sl .., cs, hf, h | .fn .., cs, hf, h | .im _, cs, hf, h | .big _, cs, hf, h | .words _, cs, hf, h | .ints .., cs, hf, h | .undef, cs, hf, h => by simp [flat] at hf
theorem VCs_flat {ρ ρ' : Nat → Option Nat} {w w' : World} : ∀ (ps : List LV) (cs : List Value), flats ps = true → VCs ρ w ps cs → VCs ρ' w' ps cs
  | [], cs, _, h => by simp only [VCs] at h ⊢; exact h
  | p :: ps, cs, hf, h => by
    simp only [flats, Bool.and_eq_true] at hf
    simp only [VCs] at h ⊢
    obtain ⟨c1, c2, h0, h1, h2⟩ := h
    exact ⟨c1, c2, h0, VC_flat p c1 hf.1 h1, VCs_flat ps c2 hf.2 h2⟩
end

/-- the package's variables hold what is told of them -/
structure GR (G : List (Nat × Ty × LV)) (ρ : Nat → Option Nat) (w : World) : Prop where
  cont : ∀ g ty c, look G g = some (ty, c) → ∃ cs t fr, w.heap[g]? = some (.cells cs.toArray t fr) ∧ VC ρ w c cs ∧ shape ty c = true ∧ flat c = true
  apart : ∀ g ty c k, look G g = some (ty, c) → ρ k ≠ some g

theorem GR.lt {G : List (Nat × Ty × LV)} {ρ : Nat → Option Nat} {w : World} (h : GR G ρ w) {g : Nat} {c : Ty × LV} (hk : look G g = some c) : g < w.heap.size := by
  obtain ⟨cs, t, fr, hh, _⟩ := h.cont g c.1 c.2 hk
  rcases Nat.lt_or_ge g w.heap.size with h' | h'
  · exact h'
  · rw [Array.getElem?_eq_none h'] at hh; cases hh
theorem GR.adv {G : List (Nat × Ty × LV)} {ρ ρ' : Nat → Option Nat} {w w' : World} (h : GR G ρ w) (ha : AdvW ρ w ρ' w') : GR G ρ' w' where
  cont g ty c hl := by
    obtain ⟨cs, t, fr, h1, h2, h3, h4⟩ := h.cont g ty c hl
    exact ⟨cs, t, fr, by rw [ha.old g (h.lt hl) (fun k => h.apart g ty c k hl)]; exact h1, VC_flat _ _ h4 h2, h3, h4⟩
  apart g ty c k hl hk := by
    rcases ha.fresh k g hk with hh | hh
    · exact h.apart g ty c k hl hh
    · have := h.lt hl; omega
theorem GR.none {G : List (Nat × Ty × LV)} {ρ : Nat → Option Nat} {w : World} (h : GR G ρ w) : GR G (fun _ => .none) w where
  cont g ty c hl := by
    obtain ⟨cs, t, fr, h1, h2, h3, h4⟩ := h.cont g ty c hl
    exact ⟨cs, t, fr, h1, VC_flat _ _ h4 h2, h3, h4⟩
  apart g ty c k hl := by simp

/-! ## an operation's outcome -/
def OpOut (P : Program) (o : Oper) (a : Act) (ρ : Nat → Option Nat) (w : World) (bx : Bx) (lab : Nat) (r : OR) : Prop :=
  ∃ n w' ρ' v', (execOp a.eval o).run P w = .ok n w' ∧ (n = .value v' ∨ (n = .skip ∧ v' = undef)) ∧ VV ρ' w' r.v v' ∧ Adv ρ w ρ' w' ∧ BR ρ' w' (updB bx lab r.u) ∧ ∀ k, k ≠ lab → ρ' (k + 1) = ρ (k + 1)

section
variable {P : Program} {E : Env} {o : Oper} {a : Act} {ρ : Nat → Option Nat} {w : World} {bx : Bx} {lab : Nat} {r : OR}

theorem out_pure {v' : Value} (h : (execOp a.eval o).run P w = .ok (.value v') w) (hv : VV ρ w r.v v') (hb : BR ρ w bx) (hu : r.u = .no) : OpOut P o a ρ w bx lab r :=
  ⟨.value v', w, ρ, v', h, .inl rfl, hv, Adv.refl _ _, by rw [hu]; exact hb, fun _ _ => rfl⟩

theorem val_Y {v : LV} {r : OR} (h : (val v).Y r) : r = ⟨v, .no, none⟩ := h.symm

theorem Y_bool {b : Bool} {x y : R OR} {r : OR} (h : (R.br b x y).Y r) : (b = true ∧ x.Y r) ∨ (b = false ∧ y.Y r) := by
  cases b
  · exact .inr ⟨rfl, h⟩
  · exact .inl ⟨rfl, h⟩

theorem VV_int {k : IntKind} {n : Int} {l : Bool} {lv : LV} {v : Value} (h : asInt lv = some (k, n, l)) (hv : VV ρ w lv v) : inK k n ∧ v = .int k n := by
  cases lv <;> simp only [asInt, Option.some.injEq, Prod.mk.injEq, reduceCtorEq] at h
  · obtain ⟨rfl, rfl, _⟩ := h; simpa only [VV] using hv
  · obtain ⟨rfl, rfl, _⟩ := h; simpa only [VV] using hv
theorem VV_bool {b : Bool} {lv : LV} {v : Value} (h : isArgB lv = some b) (hv : VV ρ w lv v) : v = .bool b := by
  cases lv <;> simp only [isArgB, Option.some.injEq, reduceCtorEq] at h
  · subst h; simpa only [VV] using hv
  · subst h; simpa only [VV] using hv
theorem VV_str {s : ByteArray} {lv : LV} {v : Value} (h : strOf lv = some s) (hv : VV ρ w lv v) : inK .i64 s.size ∧ v = .string s := by
  cases lv <;> simp only [strOf, Option.some.injEq, reduceCtorEq] at h
  · subst h; simpa only [VV] using hv
  · subst h; simpa only [VV] using hv

/-! ### moves, tests -/
theorem op_move {x : Operand} (ho : o.op = .move x) (hv : VV ρ w r.v (a.eval x)) (hu : r.u = .no) (hb : BR ρ w bx) : OpOut P o a ρ w bx lab r :=
  out_pure (by simp [execOp, ho]) hv hb hu
theorem op_assign {x : Operand} (ho : o.op = .assign x) (hv : VV ρ w r.v (a.eval x)) (hu : r.u = .no) (hb : BR ρ w bx) : OpOut P o a ρ w bx lab r :=
  out_pure (by simp [execOp, ho]) hv hb hu

theorem op_nilCheck {x : Operand} {lv : LV} (ho : o.op = .nilCheck x) (hv : VV ρ w lv (a.eval x)) (hb : BR ρ w bx)
    (h : (match lv with | .ptr k off => val (.ptr k off) | .gptr k off => val (.gptr k off) | .fn f cs => val (.fn f cs) | _ => .fail).Y r) : OpOut P o a ρ w bx lab r := by
  cases lv
  case ptr k off =>
    have := val_Y h; subst this
    simp only [VV] at hv
    obtain ⟨b, hk, hv⟩ := hv
    exact out_pure (v' := .pointer (some ⟨b, off, none⟩)) (by simp [execOp, ho, hv]) (by simp only [VV]; exact ⟨b, hk, rfl⟩) hb rfl
  case gptr k off =>
    have := val_Y h; subst this
    simp only [VV] at hv
    exact out_pure (v' := .pointer (some ⟨k, off, none⟩)) (by simp [execOp, ho, hv]) (by simp only [VV]) hb rfl
  case fn f cs =>
    have := val_Y h; subst this
    simp only [VV] at hv
    obtain ⟨vs, hk, hk2, hv⟩ := hv
    exact out_pure (v' := .func (.func f) #[] vs.toArray) (by simp [execOp, ho, hv]) (by simp only [VV]; exact ⟨vs, hk, hk2, rfl⟩) hb rfl
  all_goals exact h.elim

theorem op_pick {c x y : Operand} {lc lx ly : LV} (ho : o.op = .pick c x y) (hc : VV ρ w lc (a.eval c)) (hx : VV ρ w lx (a.eval x)) (hy : VV ρ w ly (a.eval y)) (hb : BR ρ w bx)
    (h : (match lc with
      | .blit true => val lx
      | .blit false => val ly
      | .bool c => match isArgB lx, isArgB ly with
        | some a, some b => val (.bool (real.sel c a b))
        | _, _ => .br c (val lx) (val ly)
      | _ => .fail).Y r) : OpOut P o a ρ w bx lab r := by
  cases lc
  case bool b =>
    simp only [VV] at hc
    dsimp only at h
    cases hp : isArgB lx with
    | some p => cases hq : isArgB ly with
      | some q =>
        simp only [hp, hq] at h
        have := val_Y h; subst this
        have e1 := VV_bool hp hx
        have e2 := VV_bool hq hy
        refine out_pure (v' := .bool (real.sel b p q)) ?_ (by simp only [VV]) hb rfl
        cases b <;> simp [execOp, ho, hc, e1, e2, asBool, real]
      | none =>
        simp only [hp, hq] at h
        rcases Y_bool h with ⟨rfl, h⟩ | ⟨rfl, h⟩ <;> have := val_Y h <;> subst this
        · exact out_pure (v' := a.eval x) (by simp [execOp, ho, hc, asBool]) hx hb rfl
        · exact out_pure (v' := a.eval y) (by simp [execOp, ho, hc, asBool]) hy hb rfl
    | none =>
      simp only [hp] at h
      rcases Y_bool h with ⟨rfl, h⟩ | ⟨rfl, h⟩ <;> have := val_Y h <;> subst this
      · exact out_pure (v' := a.eval x) (by simp [execOp, ho, hc, asBool]) hx hb rfl
      · exact out_pure (v' := a.eval y) (by simp [execOp, ho, hc, asBool]) hy hb rfl
  case blit b =>
    simp only [VV] at hc
    cases b <;> have := val_Y h <;> subst this
    · exact out_pure (v' := a.eval y) (by simp [execOp, ho, hc, asBool]) hy hb rfl
    · exact out_pure (v' := a.eval x) (by simp [execOp, ho, hc, asBool]) hx hb rfl
  all_goals exact h.elim

/-! ### new blocks -/
theorem op_new {t : TypeId} {ty : Ty} {lv : LV} {cs : Array Value} (hlab : ρ (lab + 1) = none) (hb : BR ρ w bx) (hs : shape ty lv = true ∧ ty.noU32 = true) (hc : VC ρ w lv cs.toList)
    (h : (execOp a.eval o).run P w = .ok (.value (.pointer (some ⟨w.heap.size, 0, none⟩))) (w.alloc (.cells cs t))) : OpOut P o a ρ w bx lab ⟨.ptr lab 0, .new ty lv, none⟩ :=
  ⟨_, _, setρ ρ (lab + 1) w.heap.size, _, h, .inl rfl, by simp only [VV]; exact ⟨_, setρ_same _ _ _, rfl⟩, adv_new hlab _, by simpa [updB] using br_new hb hlab t hs hc, fun k hk => setρ_other _ _ (by omega)⟩

theorem op_alloc {t : TypeId} {ty : Ty} (ho : o.op = .alloc t) (ht : TyRep P ty t) (hu : ty.noU32 = true) (hlab : ρ (lab + 1) = none) (hb : BR ρ w bx) : OpOut P o a ρ w bx lab ⟨.ptr lab 0, .new ty ty.zero, none⟩ := by
  obtain ⟨z, hz, hc⟩ := run_zero ht w
  refine op_new (cs := z.cells) (t := t) hlab hb ⟨(zero_ok (ρ := ρ) (w := w) ty).1, hu⟩ (by rw [hc]; exact (zero_ok ty).2) ?_
  simp [execOp, ho, Instr.alloc, hz, newVar, newRow, Result.andThen]
theorem op_box {t : TypeId} {ty : Ty} {x : Operand} {lv : LV} (ho : o.op = .box t x) (hv : VV ρ w lv (a.eval x)) (hs : shape ty lv = true) (hu : ty.noU32 = true) (hlab : ρ (lab + 1) = none) (hb : BR ρ w bx) : OpOut P o a ρ w bx lab ⟨.ptr lab 0, .new ty lv, none⟩ := by
  refine op_new (cs := (a.eval x).cells) (t := t) hlab hb ⟨hs, hu⟩ (VV_typed hs hv) ?_
  simp [execOp, ho, Instr.box, newVar, newRow]

/-! ### loads, stores -/
theorem op_load {t : TypeId} {x : Operand} {lv : LV} (ho : o.op = .load t x) (hE : EnvOk P E) (hG : GR E.globs ρ w) (hv : VV ρ w lv (a.eval x)) (hb : BR ρ w bx) {bx0 : Bx}
    (hrd : ∀ k, r.rd = some k → bx k = bx0 k) (h : (readR real E bx0 t lv).Y r) : OpOut P o a ρ w bx lab r := by
  unfold readR at h
  split at h
  · exact h.elim
  · rename_i tgt ht
    have ht := hE.ty _ _ ht
    split at h
    · rename_i k off
      simp only [VV] at hv
      obtain ⟨b, hk, hv⟩ := hv
      split at h
      · rename_i ty' c hbx
        split at h
        · rename_i v hg
          cases h
          obtain ⟨ty2, lv2, cs, et, e1, e2, e3, e4⟩ := hb.cont k b hk
          rw [hrd k rfl, hbx] at e1
          cases e1
          obtain ⟨v', hr, hvv⟩ := run_loadVar_at (P := P) ht e4 (getAt_sound 8 _ _ off _ _ hg e2.1 cs e3)
          exact out_pure (v' := v') (by simp [execOp, ho, Instr.loadAt, Instr.sureAddr, hv, hr]) hvv hb rfl
        · exact h.elim
      · exact h.elim
    · rename_i g off
      simp only [VV] at hv
      split at h
      · rename_i ty' c hgl
        obtain ⟨cs, et, fr, e4, e3, e2, _⟩ := hG.cont g ty' c hgl
        unfold ofOpt at h
        split at h
        · rename_i v hg
          have := val_Y h; subst this
          obtain ⟨v', hr, hvv⟩ := run_loadVar_at (P := P) ht e4 (getAt_sound 8 _ _ off _ _ hg e2 cs e3)
          exact out_pure (v' := v') (by simp [execOp, ho, Instr.loadAt, Instr.sureAddr, hv, hr]) hvv hb rfl
        · exact h.elim
      · exact h.elim
    · rename_i c
      simp only [VV] at hv
      obtain ⟨cs, h1, b, off, hv, _, hne, hcell⟩ := hv
      split at h
      · rename_i hs
        have := val_Y h; subst this
        obtain ⟨v', hr, hvv⟩ := run_loadVar_cells (P := P) (w := w) ht (fun j v hj => by
          rw [addr_add, hcell j (List.getElem?_eq_some_iff.1 hj).1]; exact hj) hs h1 (by rw [VC_size _ _ h1, shape_size _ _ hs])
        exact out_pure (v' := v') (by simp [execOp, ho, Instr.loadAt, Instr.sureAddr, hv, hr]) hvv hb rfl
      · exact h.elim
    · rename_i k l i
      simp only [VV] at hv
      obtain ⟨u, b, ⟨o1, _, ⟨e, o2⟩, _⟩, hu, ⟨hi0, hi1⟩, hv⟩ := hv
      split at h
      · rename_i j hj0
        split at h
        · rename_i hk
          have := ekEq_eq hk; subst this
          have := ekOf_ty hj0; subst this
          have := val_Y h; subst this
          have hil : i.toNat < l.length := by omega
          have hn : real.nthI l i = l[i.toNat] := by simp [real, List.getD_eq_getElem?_getD, hil]
          have hc : w.cell? ⟨b, i.toNat, none⟩ = some (k.cell l[i.toNat]) := by
            have := o2.cells hu i.toNat (k.cell l[i.toNat]) (by simp [hil])
            rwa [addr_add, Nat.zero_add] at this
          obtain ⟨v', hr, hvv⟩ := run_loadVar_cells (P := P) (w := w) (ρ := ρ) (p := elV real k (real.nthI l i)) (cs := [k.cell (real.nthI l i)]) (b := b) (off := i.toNat) ht (fun j v hj => by
            rw [addr_add]
            cases j with
            | zero => rw [hn] at hj; simp only [List.getElem?_cons_zero, Option.some.injEq] at hj; subst hj; exact hc
            | succ j => simp at hj) (shape_elV k _) (VC_elV (by rw [hn]; exact o1 _ (List.getElem_mem hil))) (by rw [EK.ty_size]; rfl)
          exact out_pure (v' := v') (by simp [execOp, ho, Instr.loadAt, Instr.sureAddr, hv, hr]) hvv hb rfl
        · exact h.elim
      · exact h.elim
    · exact h.elim

theorem op_store {t : TypeId} {x y : Operand} {lv lx : LV} (ho : o.op = .store t x y) (hE : EnvOk P E) (hv : VV ρ w lv (a.eval x)) (hx : VV ρ w lx (a.eval y)) (hb : BR ρ w bx) {bx0 : Bx}
    (hrd : ∀ k, r.rd = some k → bx k = bx0 k) (h : (writeR real E bx0 t lv lx).Y r) : OpOut P o a ρ w bx lab r := by
  unfold writeR at h
  split at h
  · exact h.elim
  · rename_i tgt ht
    have ht := hE.ty _ _ ht
    split at h
    · rename_i k off
      simp only [VV] at hv
      obtain ⟨b, hk, hv⟩ := hv
      split at h
      · rename_i ty' c hs hbx
        split at h
        · rename_i c' hg
          cases h
          obtain ⟨ty2, lv2, cs, et, e1, e2, e3, e4⟩ := hb.cont k b hk
          rw [hrd k rfl, hbx] at e1
          cases e1
          have hvc := VV_typed hs hx
          obtain ⟨f1, f2, f3⟩ := setAt_sound 8 _ _ off _ _ _ hg e2.1 hs cs _ e3 hvc
          have hn : (a.eval y).cells.size = tgt.size := by
            have := VC_size _ _ hvc
            rw [shape_size _ _ hs] at this
            simpa using this
          have hst := run_storeVar_at (P := P) ht e4 hn (by simpa using f3) (VC_one _ _ hvc)
          have ha := adv_put (w := w) (w' := w.setRow b (cs.take off ++ (a.eval y).cells.toList ++ cs.drop (off + (a.eval y).cells.toList.length)).toArray) hk (hb.apart hk) rfl rfl rfl (by simp) (fun i hi => setRow_other w b i _ hi)
          refine ⟨.skip, _, ρ, undef, ?_, .inr ⟨rfl, rfl⟩, by simp only [VV], ha, ?_, fun _ _ => rfl⟩
          · simp [execOp, ho, Instr.storeAt, Instr.sureAddr, hv, hst]
          · exact br_put (w := w) hb hk ha (fun i hi => setRow_other w b i _ hi) ⟨f1, e2.2⟩ f2 (setRow_heap w b _ _ et _ e4)
        · exact h.elim
      · exact h.elim
    · exact h.elim
end
end Go.LE
namespace Go.LE
open Go Go.RowKit

/-! ## numbers -/
theorem inK_toward {k : IntKind} {x y : Int} (h : inK k x) (hy : (0 ≤ y ∧ y ≤ x) ∨ (x ≤ y ∧ y ≤ 0)) : inK k y := by
  rw [inK_iff] at h ⊢
  have h0 : k.min ≤ 0 ∧ 0 ≤ k.max := by cases k <;> simp [IntKind.min, IntKind.max, IntKind.signed, IntKind.bits]
  omega
theorem inK_tmod {k : IntKind} {x y : Int} (h : inK k x) : inK k (x.tmod y) := by
  refine inK_toward h ?_
  rcases Int.le_total 0 x with hx | hx
  · exact .inl ⟨Int.tmod_nonneg y hx, by
      have := Int.tmod_nonneg y hx
      by_cases hy : y = 0
      · subst hy; simp
      · rcases Int.lt_or_le x y.natAbs with h1 | h1
        · have : x.tmod y = x := by
            have := Int.tmod_eq_of_lt hx (b := (y.natAbs : Int)) h1
            rcases Int.natAbs_eq y with e | e
            · rw [← e] at this; exact this
            · rw [e, Int.tmod_neg]; exact this
          omega
        · have := Int.tmod_lt_of_pos x (b := (y.natAbs : Int)) (by omega)
          rcases Int.natAbs_eq y with e | e
          · rw [← e] at this; omega
          · rw [e, Int.tmod_neg]; omega⟩
  · refine .inr ?_
    have h1 : x.tmod y = -((-x).tmod y) := by rw [Int.neg_tmod, Int.neg_neg]
    have hx' : 0 ≤ -x := by omega
    have := Int.tmod_nonneg y hx'
    have : (-x).tmod y ≤ -x := by
      by_cases hy : y = 0
      · subst hy; simp
      · rcases Int.lt_or_le (-x) y.natAbs with h1 | h1
        · have : (-x).tmod y = -x := by
            have := Int.tmod_eq_of_lt hx' (b := (y.natAbs : Int)) h1
            rcases Int.natAbs_eq y with e | e
            · rw [← e] at this; exact this
            · rw [e, Int.tmod_neg]; exact this
          omega
        · have := Int.tmod_lt_of_pos (-x) (b := (y.natAbs : Int)) (by omega)
          rcases Int.natAbs_eq y with e | e
          · rw [← e] at this; omega
          · rw [e, Int.tmod_neg]; omega
    omega
theorem inK_fdiv {k : IntKind} {x : Int} {n : Nat} (h : inK k x) : inK k (x.fdiv (2 ^ n)) := by
  refine inK_toward h ?_
  have hp : (0 : Int) < 2 ^ n := Int.pow_pos (by omega)
  rw [Int.fdiv_eq_ediv_of_nonneg _ (by omega)]
  rcases Int.le_total 0 x with hx | hx
  · exact .inl ⟨Int.ediv_nonneg hx (by omega), Int.ediv_le_self _ hx⟩
  · refine .inr ⟨?_, by
      have := Int.ediv_le_ediv hp hx
      simpa using this⟩
    rw [Int.le_ediv_iff_mul_le hp]
    have : (1 : Int) ≤ 2 ^ n := by omega
    have h2 : 0 ≤ (-x) * (2 ^ n - 1) := Int.mul_nonneg (by omega) (by omega)
    rw [Int.mul_sub, Int.neg_mul] at h2
    omega
theorem inK_arith {op : BinOp} {k : IntKind} {x y : Int} (h : inK k x) : inK k (arithR op k x y) := by
  cases op <;> simp only [arithR]
  case rem => exact inK_tmod h
  case shr => exact inK_fdiv h
  case eql => exact inK_toward h (by omega)
  case neq => exact inK_toward h (by omega)
  case lss => exact inK_toward h (by omega)
  case leq => exact inK_toward h (by omega)
  case gtr => exact inK_toward h (by omega)
  case geq => exact inK_toward h (by omega)
  all_goals exact inK_wrap _ _

section
variable {P : Program} {E : Env} {o : Oper} {a : Act} {ρ : Nat → Option Nat} {w : World} {bx : Bx} {lab : Nat} {r : OR}

theorem run_eqGuard_int (op : BinOp) (t : TypeId) (x y : Operand) (k j : IntKind) (m n : Int) : (eqGuard op t x y (.int k m) (.int j n)).run P w = .ok () w := by
  cases op <;> simp [eqGuard]
theorem run_eqGuard_str (op : BinOp) (t : TypeId) (x y : Operand) (m n : ByteArray) : (eqGuard op t x y (.string m) (.string n)).run P w = .ok () w := by
  cases op <;> simp [eqGuard]
theorem run_eqGuard_bool (op : BinOp) (t : TypeId) (x y : Operand) (m n : Bool) : (eqGuard op t x y (.bool m) (.bool n)).run P w = .ok () w := by
  cases op <;> simp [eqGuard]

theorem run_shift {op : BinOp} {t : TypeId} {k j : IntKind} {x y : Int} (hs : isShift op = true) (hy : 0 ≤ y) : (binOp op t (.int k x) (.int j y)).run P w = .ok (.int k (arithR op k x y)) w := by
  cases op <;> simp [isShift] at hs
  · simp [binOp, Op.shift, arithR, show ¬ y < 0 by omega]
  · simp [binOp, Op.shift, arithR, show ¬ y < 0 by omega]
theorem run_cmp {op : BinOp} {t : TypeId} {k : IntKind} {x y : Int} (hs : isCmp op = true) : (binOp op t (.int k x) (.int k y)).run P w = .ok (.bool (cmpR op x y)) w := by
  cases op <;> simp [isCmp] at hs <;> simp [binOp, Op.intCmp, cmpR]
theorem run_div {op : BinOp} {t : TypeId} {k : IntKind} {x y : Int} (hs : isDiv op = true) (hy : y ≠ 0) : (binOp op t (.int k x) (.int k y)).run P w = .ok (.int k (arithR op k x y)) w := by
  cases op <;> simp [isDiv] at hs <;> simp [binOp, Op.intDiv, arithR, hy]
theorem run_arith {op : BinOp} {t : TypeId} {k : IntKind} {x y : Int} (h1 : isShift op = false) (h2 : isCmp op = false) (h3 : isDiv op = false) : (binOp op t (.int k x) (.int k y)).run P w = .ok (.int k (arithR op k x y)) w := by
  cases op <;> simp [isShift, isCmp, isDiv] at h1 h2 h3 <;> simp [binOp, Op.intArith, Op.intBits, arithR]

def BinOut (P : Program) (op : BinOp) (t : TypeId) (x y : Value) (ρ : Nat → Option Nat) (w : World) (r : OR) : Prop :=
  r.u = .no ∧ ∃ v, (binOp op t x y).run P w = .ok v w ∧ VV ρ w r.v v

theorem binInt_sound {op : BinOp} {t : TypeId} {k j : IntKind} {x y : Int} {lx ly : Bool} (hx : inK k x) (h : (binInt real op k x lx j y ly).Y r) : BinOut P op t (.int k x) (.int j y) ρ w r := by
  unfold binInt at h
  split at h
  · rename_i hs
    split at h
    · split at h
      · rename_i hy
        have hy : 0 ≤ y := of_decide_eq_true hy
        split at h <;> have := val_Y h <;> subst this
        · exact ⟨rfl, _, run_shift hs hy, by simp only [VV]; exact ⟨inK_arith hx, by first | rfl | trivial⟩⟩
        · exact ⟨rfl, _, run_shift hs hy, by simp only [VV]; exact ⟨inK_arith hx, by first | rfl | trivial⟩⟩
      · exact h.elim
    · obtain ⟨hy, h⟩ := h
      have := val_Y h; subst this
      exact ⟨rfl, _, run_shift hs hy, by simp only [VV]; exact ⟨inK_arith hx, by first | rfl | trivial⟩⟩
  · rename_i hs
    split at h
    · exact h.elim
    · rename_i hk
      have := kindEq_eq hk; subst this
      split at h
      · rename_i hc
        split at h <;> have := val_Y h <;> subst this
        · exact ⟨rfl, _, run_cmp hc, by simp only [VV]⟩
        · exact ⟨rfl, _, run_cmp hc, by simp only [VV]; rfl⟩
      · rename_i hc
        split at h
        · rename_i hd
          split at h
          · split at h
            · exact h.elim
            · rename_i hy
              have hy : y ≠ 0 := of_decide_eq_false hy
              split at h <;> have := val_Y h <;> subst this
              · exact ⟨rfl, _, run_div hd hy, by simp only [VV]; exact ⟨inK_arith hx, by first | rfl | trivial⟩⟩
              · exact ⟨rfl, _, run_div hd hy, by simp only [VV]; exact ⟨inK_arith hx, by first | rfl | trivial⟩⟩
          · obtain ⟨hy, h⟩ := h
            have := val_Y h; subst this
            exact ⟨rfl, _, run_div hd hy, by simp only [VV]; exact ⟨inK_arith hx, by first | rfl | trivial⟩⟩
        · rename_i hd
          split at h <;> have := val_Y h <;> subst this
          · exact ⟨rfl, _, run_arith hs hc hd, by simp only [VV]; exact ⟨inK_arith hx, by first | rfl | trivial⟩⟩
          · exact ⟨rfl, _, run_arith hs hc hd, by simp only [VV]; exact ⟨inK_arith hx, by first | rfl | trivial⟩⟩
end

/-! ## '==' on aggregates -/
def veq : Value → Value → Bool
  | .int _ a, .int _ b => a == b
  | .bool a, .bool b => a == b
  | .string a, .string b => a.toList == b.toList
  | _, _ => false
def ceq : List Value → List Value → Bool
  | [], [] => true
  | x :: xs, y :: ys => veq x y && ceq xs ys
  | _, _ => false
theorem ceq_append : ∀ (a c b d : List Value), a.length = c.length → ceq (a ++ b) (c ++ d) = (ceq a c && ceq b d)
  | [], [], b, d, _ => by simp [ceq]
  | x :: a, y :: c, b, d, h => by simp only [List.cons_append, ceq, ceq_append a c b d (by simpa using h), Bool.and_assoc]
  | [], _ :: _, _, _, h | _ :: _, [], _, _, h => by simp at h

mutual
/-- cells of a type that can be compared -/
def CT : Ty → List Value → Prop
  | .int k, cs => ∃ n, cs = [.int k n]
  | .bool, cs => ∃ b, cs = [.bool b]
  | .str, cs => ∃ s, cs = [.string s]
  | .struct fs, cs => CTs fs cs
  | .arr n e, cs => CTn n e cs
  | _, _ => False
def CTs : List Ty → List Value → Prop
  | [], cs => cs = []
  | f :: fs, cs => ∃ c1 c2, cs = c1 ++ c2 ∧ CT f c1 ∧ CTs fs c2
def CTn : Nat → Ty → List Value → Prop
  | 0, _, cs => cs = []
  | n + 1, e, cs => ∃ c1 c2, cs = c1 ++ c2 ∧ CT e c1 ∧ CTn n e c2
end
theorem CTn_size {e : Ty} (he : ∀ cs, CT e cs → cs.length = e.size) : ∀ (n : Nat) (cs : List Value), CTn n e cs → cs.length = n * e.size
  | 0, cs, h => by simp only [CTn] at h; simp [h]
  | n + 1, cs, h => by
    simp only [CTn] at h
    obtain ⟨c1, c2, rfl, h1, h2⟩ := h
    rw [List.length_append, he c1 h1, CTn_size he n c2 h2, Nat.add_mul]; omega
mutual
theorem CT_size : ∀ (ty : Ty) (cs : List Value), CT ty cs → cs.length = ty.size
  | .int k, cs, h => by simp only [CT] at h; obtain ⟨_, rfl⟩ := h; rfl
  | .bool, cs, h => by simp only [CT] at h; obtain ⟨_, rfl⟩ := h; rfl
  | .str, cs, h => by simp only [CT] at h; obtain ⟨_, rfl⟩ := h; rfl
  | .struct fs, cs, h => by simp only [CT] at h; simpa only [Ty.size] using CTs_size fs cs h
  | .arr n e, cs, h => by simp only [CT] at h; simpa only [Ty.size] using CTn_size (fun cs h => CT_size e cs h) n cs h
  | .slice _, cs, h => by simp [CT] at h
  | .func, cs, h => by simp [CT] at h
theorem CTs_size : ∀ (fs : List Ty) (cs : List Value), CTs fs cs → cs.length = Ty.sizes fs
  | [], cs, h => by simp only [CTs] at h; simp [h, Ty.sizes]
  | f :: fs, cs, h => by
    simp only [CTs] at h
    obtain ⟨c1, c2, rfl, h1, h2⟩ := h
    rw [List.length_append, CT_size f c1 h1, CTs_size fs c2 h2, Ty.sizes]
end

mutual
def Ty.deep : Ty → Nat
  | .struct fs => Ty.deeps fs + 1
  | .arr _ e => e.deep + 1
  | _ => 1
def Ty.deeps : List Ty → Nat
  | [] => 0
  | t :: ts => t.deep + Ty.deeps ts
end
def valOf (ty : Ty) (cs : List Value) : Value := match ty.isAgg with | true => .agg cs.toArray | false => cs.headD undef

section
variable {P : Program}
theorem run_part {ty : Ty} {t : TypeId} (ht : TyRep P ty t) (w : World) {pre c post : List Value} (hl : c.length = ty.size) (hne : ty.isAgg = false → c ≠ []) :
    (part t (pre ++ c ++ post).toArray pre.length).run P w = .ok (valOf ty c) w := by
  unfold part valOf
  simp only [Sem.run_bind, run_isAgg ht, Result.andThen]
  cases ha : ty.isAgg with
  | true =>
    simp only [if_true, Sem.run_bind, run_size ht, Result.andThen, Sem.run_pure, ← hl]
    congr 2
    apply Array.ext'
    simp only [Array.toList_extract, List.extract_eq_take_drop]
    simp
  | false =>
    obtain ⟨x, xs, hx⟩ := List.exists_cons_of_ne_nil (hne ha)
    subst hx
    simp

mutual
theorem equalIn_ty : ∀ (ty : Ty) (t : TypeId) (d : Nat) (w : World) (cx cy : List Value), TyRep P ty t → CT ty cx → CT ty cy → ty.deep ≤ d → (Op.equalIn d t (valOf ty cx) (valOf ty cy)).run P w = .ok (ceq cx cy) w
  | .int k, t, d, w, cx, cy, ht, hx, hy, hd => by
    simp only [CT] at hx hy
    obtain ⟨m, rfl⟩ := hx
    obtain ⟨n, rfl⟩ := hy
    obtain ⟨d, rfl⟩ : ∃ e, d = e + 1 := ⟨d - 1, by simp [Ty.deep] at hd; omega⟩
    simp only [TyRep] at ht
    show (Op.equalIn (d + 1) t (.int k m) (.int k n)).run P w = _
    rw [run_equalIn_int w d t k k m n ht.2]
    simp [ceq, veq]
  | .bool, t, d, w, cx, cy, ht, hx, hy, hd => by
    simp only [CT] at hx hy
    obtain ⟨m, rfl⟩ := hx
    obtain ⟨n, rfl⟩ := hy
    obtain ⟨d, rfl⟩ : ∃ e, d = e + 1 := ⟨d - 1, by simp [Ty.deep] at hd; omega⟩
    simp only [TyRep] at ht
    show (Op.equalIn (d + 1) t (.bool m) (.bool n)).run P w = _
    rw [run_equalIn_bool' w d t m n ht.2]
    simp [ceq, veq]
  | .str, t, d, w, cx, cy, ht, hx, hy, hd => by
    simp only [CT] at hx hy
    obtain ⟨m, rfl⟩ := hx
    obtain ⟨n, rfl⟩ := hy
    obtain ⟨d, rfl⟩ : ∃ e, d = e + 1 := ⟨d - 1, by simp [Ty.deep] at hd; omega⟩
    simp only [TyRep] at ht
    show (Op.equalIn (d + 1) t (.string m) (.string n)).run P w = _
    rw [run_equalIn_string w d t m n ht.2]
    simp [ceq, veq]
  | .struct fs, t, d, w, cx, cy, ht, hx, hy, hd => by
    obtain ⟨d, rfl⟩ : ∃ e, d = e + 1 := ⟨d - 1, by simp [Ty.deep] at hd; omega⟩
    simp only [TyRep] at ht
    simp only [CT] at hx hy
    obtain ⟨_, h1, _, fields, h2, h3⟩ := ht
    have hf : P.fieldsOf t = fields := by simp [Program.fieldsOf, h2]
    show (Op.equalIn (d + 1) t (.agg cx.toArray) (.agg cy.toArray)).run P w = _
    rw [run_equalIn_struct w d t _ _ (by rw [hf]; exact h2) h1, hf]
    have := eqFields_ty fs fields.toList 0 d w [] [] cx cy h3 rfl rfl hx hy (by simp [Ty.deep] at hd; omega)
    simpa using this
  | .arr n e, t, d, w, cx, cy, ht, hx, hy, hd => by
    obtain ⟨d, rfl⟩ : ∃ e, d = e + 1 := ⟨d - 1, by simp [Ty.deep] at hd; omega⟩
    simp only [TyRep] at ht
    simp only [CT] at hx hy
    obtain ⟨_, _, et, h2, h3⟩ := ht
    obtain ⟨i, z, hi1, hi2, _⟩ := h3.inf
    have hc : P.cellsOf et = e.size := by simp [Program.cellsOf, hi1, hi2]
    show (Op.equalIn (d + 1) t (.agg cx.toArray) (.agg cy.toArray)).run P w = _
    rw [run_equalIn_array w d _ _ h2 hi1, hc]
    have key : ∀ (n k : Nat) (w : World) (px py cx cy : List Value), px.length = k * e.size → py.length = k * e.size → CTn n e cx → CTn n e cy →
        (Op.eqItems d et e.size (px ++ cx).toArray (py ++ cy).toArray (List.range' k n)).run P w = .ok (ceq cx cy) w := by
      intro n
      induction n with
      | zero =>
        intro k w px py cx cy _ _ hx hy
        simp only [CTn] at hx hy
        subst hx; subst hy
        simp [Op.eqItems, ceq]
      | succ n ih =>
        intro k w px py cx cy hpx hpy hx hy
        simp only [CTn] at hx hy
        obtain ⟨c1, c2, rfl, hx1, hx2⟩ := hx
        obtain ⟨e1, e2, rfl, hy1, hy2⟩ := hy
        have l1 := CT_size e c1 hx1
        have l2 := CT_size e e1 hy1
        have ne1 : ∀ c, CT e c → e.isAgg = false → c ≠ [] := fun c hc hag hn => by subst hn; cases e <;> simp [CT, Ty.isAgg] at hc hag
        have p1 := run_part (P := P) h3 w (pre := px) (c := c1) (post := c2) l1 (ne1 c1 hx1)
        have p2 := run_part (P := P) h3 w (pre := py) (c := e1) (post := e2) l2 (ne1 e1 hy1)
        rw [hpx] at p1
        rw [hpy] at p2
        rw [List.append_assoc] at p1 p2
        have q := equalIn_ty e et d w c1 e1 h3 hx1 hy1 (by simp [Ty.deep] at hd; omega)
        have rr := ih (k + 1) w (px ++ c1) (py ++ e1) c2 e2 (by rw [List.length_append, hpx, l1, Nat.add_mul]; omega) (by rw [List.length_append, hpy, l2, Nat.add_mul]; omega) hx2 hy2
        rw [List.append_assoc, List.append_assoc] at rr
        rw [List.range'_succ]
        simp only [Op.eqItems, Sem.run_bind, p1, p2, q, Result.andThen]
        rw [ceq_append c1 e1 c2 e2 (by omega)]
        cases ceq c1 e1 with
        | false => simp
        | true => simpa using rr
    have := key n 0 w [] [] cx cy (by simp) (by simp) hx hy
    simpa [List.range_eq_range'] using this
  | .slice _, t, d, w, cx, cy, ht, hx, hy, hd => by simp [CT] at hx
  | .func, t, d, w, cx, cy, ht, hx, hy, hd => by simp [CT] at hx
theorem eqFields_ty : ∀ (fs : List Ty) (fields : List Field) (off : Nat) (d : Nat) (w : World) (px py cx cy : List Value), TyReps P fs fields off → px.length = off → py.length = off → CTs fs cx → CTs fs cy → Ty.deeps fs ≤ d →
    (Op.eqFields d (px ++ cx).toArray (py ++ cy).toArray fields).run P w = .ok (ceq cx cy) w
  | [], fields, off, d, w, px, py, cx, cy, ht, hpx, hpy, hx, hy, hd => by
    simp only [TyReps] at ht
    simp only [CTs] at hx hy
    subst ht; subst hx; subst hy
    simp [Op.eqFields, ceq]
  | f :: fs, fields, off, d, w, px, py, cx, cy, ht, hpx, hpy, hx, hy, hd => by
    simp only [TyReps] at ht
    obtain ⟨g, gs, rfl, ho, hn, hz, htf, hts⟩ := ht
    simp only [CTs] at hx hy
    obtain ⟨c1, c2, rfl, hx1, hx2⟩ := hx
    obtain ⟨e1, e2, rfl, hy1, hy2⟩ := hy
    have l1 := CT_size f c1 hx1
    have l2 := CT_size f e1 hy1
    have p1 := run_part (P := P) htf w (pre := px) (c := c1) (post := c2) l1 (fun _ hc => by subst hc; simp at l1; omega)
    have p2 := run_part (P := P) htf w (pre := py) (c := e1) (post := e2) l2 (fun _ hc => by subst hc; simp at l2; omega)
    rw [hpx] at p1
    rw [hpy] at p2
    rw [List.append_assoc] at p1 p2
    simp only [Ty.deeps] at hd
    have q := equalIn_ty f g.type d w c1 e1 htf hx1 hy1 (by omega)
    have rr := eqFields_ty fs gs (off + f.size) d w (px ++ c1) (py ++ e1) c2 e2 hts (by simp; omega) (by simp; omega) hx2 hy2 (by omega)
    rw [List.append_assoc, List.append_assoc] at rr
    unfold Op.eqFields
    simp only [hn, ne_eq, not_false_eq_true, if_true, ho, Sem.run_bind, p1, p2, q, Result.andThen]
    rw [ceq_append c1 e1 c2 e2 (by omega)]
    cases ceq c1 e1 with
    | false => simp
    | true => simpa using rr
end
end
end Go.LE
namespace Go.LE
open Go Go.RowKit

theorem hi_mk {h l : Int} (hh : inK .u64 h) (hl : inK .u64 l) : hiR (mkWordR h l) = h ∧ loR (mkWordR h l) = l := by
  unfold inK at hh hl
  rw [IntKind.wrap_u64] at hh hl
  unfold hiR loR mkWordR
  rw [BitVec.toNat_ofNat]
  have h1 : l.toNat < 2 ^ 64 := by omega
  have h2 : h.toNat < 2 ^ 64 := by omega
  rw [Nat.mod_eq_of_lt (by omega)]
  omega
theorem word_ext {a b : BitVec 128} (h : hiR a = hiR b) (l : loR a = loR b) : a = b := by
  apply BitVec.eq_of_toNat_eq
  unfold hiR at h
  unfold loR at l
  omega
theorem hstep (q k j : Nat) (h : j = k + 1) : q / 2 ^ (64 * j) = q / 2 ^ (64 * k) / 2 ^ 64 := by subst h; rw [Nat.mul_succ, Nat.pow_add, Nat.div_div_eq_div_mul]
theorem p512 {n : Nat} (h : n = 64 * 8) : (2 : Nat) ^ n = 13407807929942597099574024998205846127479365820592393377723561443721764030073546976801874298166903427690031858186486050853753882811946569946433649006084096 := by
  subst h; exact Nat.pow_mul 2 64 8
theorem horner_lt {n0 n1 n2 n3 n4 n5 n6 n7 : Nat} (b0 : n0 < 18446744073709551616) (b1 : n1 < 18446744073709551616) (b2 : n2 < 18446744073709551616) (b3 : n3 < 18446744073709551616) (b4 : n4 < 18446744073709551616) (b5 : n5 < 18446744073709551616) (b6 : n6 < 18446744073709551616) (b7 : n7 < 18446744073709551616) : n0 + 18446744073709551616 * (n1 + 18446744073709551616 * (n2 + 18446744073709551616 * (n3 + 18446744073709551616 * (n4 + 18446744073709551616 * (n5 + 18446744073709551616 * (n6 + 18446744073709551616 * (n7))))))) < 13407807929942597099574024998205846127479365820592393377723561443721764030073546976801874298166903427690031858186486050853753882811946569946433649006084096 := by
  obtain ⟨q7, h7⟩ : ∃ q, q = n7 := ⟨_, rfl⟩
  obtain ⟨q6, h6⟩ : ∃ q, q = n6 + 18446744073709551616 * q7 := ⟨_, rfl⟩
  obtain ⟨q5, h5⟩ : ∃ q, q = n5 + 18446744073709551616 * q6 := ⟨_, rfl⟩
  obtain ⟨q4, h4⟩ : ∃ q, q = n4 + 18446744073709551616 * q5 := ⟨_, rfl⟩
  obtain ⟨q3, h3⟩ : ∃ q, q = n3 + 18446744073709551616 * q4 := ⟨_, rfl⟩
  obtain ⟨q2, h2⟩ : ∃ q, q = n2 + 18446744073709551616 * q3 := ⟨_, rfl⟩
  obtain ⟨q1, h1⟩ : ∃ q, q = n1 + 18446744073709551616 * q2 := ⟨_, rfl⟩
  obtain ⟨q0, h0⟩ : ∃ q, q = n0 + 18446744073709551616 * q1 := ⟨_, rfl⟩
  have g7 : q7 < 18446744073709551616 := by omega
  have g6 : q6 < 340282366920938463463374607431768211456 := by clear h0 h1 h2 h3 h4 h5 h7 b0 b1 b2 b3 b4 b5 b7; omega
  have g5 : q5 < 6277101735386680763835789423207666416102355444464034512896 := by clear h0 h1 h2 h3 h4 h6 h7 b0 b1 b2 b3 b4 b6 b7 g7; omega
  have g4 : q4 < 115792089237316195423570985008687907853269984665640564039457584007913129639936 := by clear h0 h1 h2 h3 h5 h6 h7 b0 b1 b2 b3 b5 b6 b7 g6 g7; omega
  have g3 : q3 < 2135987035920910082395021706169552114602704522356652769947041607822219725780640550022962086936576 := by clear h0 h1 h2 h4 h5 h6 h7 b0 b1 b2 b4 b5 b6 b7 g5 g6 g7; omega
  have g2 : q2 < 39402006196394479212279040100143613805079739270465446667948293404245721771497210611414266254884915640806627990306816 := by clear h0 h1 h3 h4 h5 h6 h7 b0 b1 b3 b4 b5 b6 b7 g4 g5 g6 g7; omega
  have g1 : q1 < 726838724295606890549323807888004534353641360687318060281490199180639288113397923326191050713763565560762521606266177933534601628614656 := by clear h0 h2 h3 h4 h5 h6 h7 b0 b2 b3 b4 b5 b6 b7 g3 g4 g5 g6 g7; omega
  have g0 : q0 < 13407807929942597099574024998205846127479365820592393377723561443721764030073546976801874298166903427690031858186486050853753882811946569946433649006084096 := by clear h1 h2 h3 h4 h5 h6 h7 b1 b2 b3 b4 b5 b6 b7 g2 g3 g4 g5 g6 g7; omega
  rw [← h7, ← h6, ← h5, ← h4, ← h3, ← h2, ← h1, ← h0]; exact g0
theorem limb_of {x0 x1 x2 x3 x4 x5 x6 x7 : Int} (h0 : inK .u64 x0) (h1 : inK .u64 x1) (h2 : inK .u64 x2) (h3 : inK .u64 x3) (h4 : inK .u64 x4) (h5 : inK .u64 x5) (h6 : inK .u64 x6) (h7 : inK .u64 x7) :
    wideCells (ofLimbsR x0 x1 x2 x3 x4 x5 x6 x7) = [.int .u64 x0, .int .u64 x1, .int .u64 x2, .int .u64 x3, .int .u64 x4, .int .u64 x5, .int .u64 x6, .int .u64 x7] := by
  unfold inK at h0 h1 h2 h3 h4 h5 h6 h7
  rw [IntKind.wrap_u64] at h0 h1 h2 h3 h4 h5 h6 h7
  unfold wideCells ofLimbsR limbR
  rw [BitVec.toNat_ofNat]
  obtain ⟨n0, rfl⟩ : ∃ n : Nat, x0 = n := ⟨x0.toNat, by omega⟩
  obtain ⟨n1, rfl⟩ : ∃ n : Nat, x1 = n := ⟨x1.toNat, by omega⟩
  obtain ⟨n2, rfl⟩ : ∃ n : Nat, x2 = n := ⟨x2.toNat, by omega⟩
  obtain ⟨n3, rfl⟩ : ∃ n : Nat, x3 = n := ⟨x3.toNat, by omega⟩
  obtain ⟨n4, rfl⟩ : ∃ n : Nat, x4 = n := ⟨x4.toNat, by omega⟩
  obtain ⟨n5, rfl⟩ : ∃ n : Nat, x5 = n := ⟨x5.toNat, by omega⟩
  obtain ⟨n6, rfl⟩ : ∃ n : Nat, x6 = n := ⟨x6.toNat, by omega⟩
  obtain ⟨n7, rfl⟩ : ∃ n : Nat, x7 = n := ⟨x7.toNat, by omega⟩
  simp only [Int.toNat_natCast]
  have b0 : n0 < 2 ^ 64 := by omega
  have b1 : n1 < 2 ^ 64 := by omega
  have b2 : n2 < 2 ^ 64 := by omega
  have b3 : n3 < 2 ^ 64 := by omega
  have b4 : n4 < 2 ^ 64 := by omega
  have b5 : n5 < 2 ^ 64 := by omega
  have b6 : n6 < 2 ^ 64 := by omega
  have b7 : n7 < 2 ^ 64 := by omega
  clear h0 h1 h2 h3 h4 h5 h6 h7
  have hN := horner_lt b0 b1 b2 b3 b4 b5 b6 b7
  rw [p512 (n := 512) rfl, Nat.mod_eq_of_lt hN]
  obtain ⟨q6, h6⟩ : ∃ q, q = n6 + 18446744073709551616 * n7 := ⟨_, rfl⟩
  obtain ⟨q5, h5⟩ : ∃ q, q = n5 + 18446744073709551616 * q6 := ⟨_, rfl⟩
  obtain ⟨q4, h4⟩ : ∃ q, q = n4 + 18446744073709551616 * q5 := ⟨_, rfl⟩
  obtain ⟨q3, h3⟩ : ∃ q, q = n3 + 18446744073709551616 * q4 := ⟨_, rfl⟩
  obtain ⟨q2, h2⟩ : ∃ q, q = n2 + 18446744073709551616 * q3 := ⟨_, rfl⟩
  obtain ⟨q1, h1⟩ : ∃ q, q = n1 + 18446744073709551616 * q2 := ⟨_, rfl⟩
  obtain ⟨q0, h0⟩ : ∃ q, q = n0 + 18446744073709551616 * q1 := ⟨_, rfl⟩
  have hq : n0 + 18446744073709551616 * (n1 + 18446744073709551616 * (n2 + 18446744073709551616 * (n3 + 18446744073709551616 * (n4 + 18446744073709551616 * (n5 + 18446744073709551616 * (n6 + 18446744073709551616 * (n7))))))) = q0 := by rw [h0, h1, h2, h3, h4, h5, h6]
  rw [hq]
  clear hq hN
  have d0 : q0 / 2 ^ (64 * 0) = q0 := by simp
  have d1 : q0 / 2 ^ (64 * 1) = q1 := by rw [h0, show 2 ^ (64 * 1) = 2 ^ 64 by rfl, Nat.add_mul_div_left _ _ (by omega), Nat.div_eq_of_lt b0, Nat.zero_add]
  have d2 : q0 / 2 ^ (64 * 2) = q2 := (hstep q0 1 2 rfl).trans (by rw [d1, h1, Nat.add_mul_div_left _ _ (by omega), Nat.div_eq_of_lt b1, Nat.zero_add])
  have d3 : q0 / 2 ^ (64 * 3) = q3 := (hstep q0 2 3 rfl).trans (by rw [d2, h2, Nat.add_mul_div_left _ _ (by omega), Nat.div_eq_of_lt b2, Nat.zero_add])
  have d4 : q0 / 2 ^ (64 * 4) = q4 := (hstep q0 3 4 rfl).trans (by rw [d3, h3, Nat.add_mul_div_left _ _ (by omega), Nat.div_eq_of_lt b3, Nat.zero_add])
  have d5 : q0 / 2 ^ (64 * 5) = q5 := (hstep q0 4 5 rfl).trans (by rw [d4, h4, Nat.add_mul_div_left _ _ (by omega), Nat.div_eq_of_lt b4, Nat.zero_add])
  have d6 : q0 / 2 ^ (64 * 6) = q6 := (hstep q0 5 6 rfl).trans (by rw [d5, h5, Nat.add_mul_div_left _ _ (by omega), Nat.div_eq_of_lt b5, Nat.zero_add])
  have d7 : q0 / 2 ^ (64 * 7) = n7 := (hstep q0 6 7 rfl).trans (by rw [d6, h6, Nat.add_mul_div_left _ _ (by omega), Nat.div_eq_of_lt b6, Nat.zero_add])
  rw [d0, d1, d2, d3, d4, d5, d6, d7]
  have m0 : q0 % 2 ^ 64 = n0 := by rw [h0, Nat.add_mul_mod_self_left, Nat.mod_eq_of_lt b0]
  have m1 : q1 % 2 ^ 64 = n1 := by rw [h1, Nat.add_mul_mod_self_left, Nat.mod_eq_of_lt b1]
  have m2 : q2 % 2 ^ 64 = n2 := by rw [h2, Nat.add_mul_mod_self_left, Nat.mod_eq_of_lt b2]
  have m3 : q3 % 2 ^ 64 = n3 := by rw [h3, Nat.add_mul_mod_self_left, Nat.mod_eq_of_lt b3]
  have m4 : q4 % 2 ^ 64 = n4 := by rw [h4, Nat.add_mul_mod_self_left, Nat.mod_eq_of_lt b4]
  have m5 : q5 % 2 ^ 64 = n5 := by rw [h5, Nat.add_mul_mod_self_left, Nat.mod_eq_of_lt b5]
  have m6 : q6 % 2 ^ 64 = n6 := by rw [h6, Nat.add_mul_mod_self_left, Nat.mod_eq_of_lt b6]
  rw [m0, m1, m2, m3, m4, m5, m6, Nat.mod_eq_of_lt b7]
theorem wide_ext {a b : BitVec 512} (h : wideCells a = wideCells b) : a = b := by
  apply BitVec.eq_of_toNat_eq
  have ha := a.isLt
  have hb := b.isLt
  unfold wideCells limbR at h
  simp only [List.cons.injEq, Value.int.injEq, true_and, and_true] at h
  obtain ⟨h0, h1, h2, h3, h4, h5, h6, h7⟩ := h
  omega
theorem ceq_word (a b : BitVec 128) : ceq (wordCells a) (wordCells b) = decide (a = b) := by
  unfold wordCells
  simp only [ceq, veq, Bool.and_true]
  rw [Bool.eq_iff_iff]
  simp only [Bool.and_eq_true, beq_iff_eq, decide_eq_true_eq]
  exact ⟨fun ⟨h1, h2⟩ => word_ext h1 h2, fun h => by rw [h]; exact ⟨rfl, rfl⟩⟩
theorem ceq_wide (a b : BitVec 512) : ceq (wideCells a) (wideCells b) = decide (a = b) := by
  rw [Bool.eq_iff_iff]
  simp only [decide_eq_true_eq]
  refine ⟨fun h => wide_ext ?_, fun h => by rw [h]; simp [wideCells, ceq, veq]⟩
  unfold wideCells at h ⊢
  simp only [ceq, veq, Bool.and_true, Bool.and_eq_true, beq_iff_eq] at h
  obtain ⟨h0, h1, h2, h3, h4, h5, h6, h7⟩ := h
  rw [h0, h1, h2, h3, h4, h5, h6, h7]

section
variable {ρ : Nat → Option Nat} {w : World}
theorem VC_int {k : IntKind} {n : Int} {l : Bool} {lv : LV} {cs : List Value} (h : asInt lv = some (k, n, l)) (hv : VC ρ w lv cs) : inK k n ∧ cs = [.int k n] := by
  cases lv <;> simp only [asInt, Option.some.injEq, Prod.mk.injEq, reduceCtorEq] at h
  · obtain ⟨rfl, rfl, _⟩ := h; simpa only [VC] using hv
  · obtain ⟨rfl, rfl, _⟩ := h; simpa only [VC] using hv
theorem shape_int {k : IntKind} {n : Int} {l : Bool} {lv : LV} {ty : Ty} (h : asInt lv = some (k, n, l)) (hs : shape ty lv = true) : ty = .int k := by
  cases lv <;> simp only [asInt, Option.some.injEq, Prod.mk.injEq, reduceCtorEq] at h
  · obtain ⟨rfl, rfl, _⟩ := h
    cases ty <;> simp only [shape, Bool.false_eq_true] at hs
    rw [kindEq_eq hs]
  · obtain ⟨rfl, rfl, _⟩ := h
    cases ty <;> simp only [shape, Bool.false_eq_true] at hs
    rw [kindEq_eq hs]

/-- what is a word -/
theorem getWord_VC {lv : LV} {b : BitVec 128} {cs : List Value} (h : getWord real lv = some b) (hv : VC ρ w lv cs) : cs = wordCells b := by
  unfold getWord at h
  split at h
  · cases h; simpa only [VC] using hv
  · rename_i p q
    split at h
    · rename_i h' l' _ _ e1 e2
      cases h
      simp only [VC, VCs] at hv
      obtain ⟨c1, c2, rfl, v1, c3, c4, rfl, v2, rfl⟩ := hv
      obtain ⟨i1, rfl⟩ := VC_int e1 v1
      obtain ⟨i2, rfl⟩ := VC_int e2 v2
      have := hi_mk i1 i2
      simp [wordCells, real, this.1, this.2]
    · cases h
  · cases h
theorem getWord_shape {lv : LV} {b : BitVec 128} {fs : List Ty} (h : getWord real lv = some b) (hs : shape (.struct fs) lv = true) : fs = [.int .u64, .int .u64] := by
  unfold getWord at h
  split at h
  · unfold shape at hs
    split at hs <;> first | (simp_all; done) | skip
    all_goals simp_all
  · rename_i p q
    split at h
    · rename_i h' l' _ _ e1 e2
      simp only [shape] at hs
      match fs, hs with
      | [f, g], hs =>
        simp only [shapes, Bool.and_true, Bool.and_eq_true] at hs
        rw [shape_int e1 hs.1, shape_int e2 hs.2]
      | [], hs => simp [shapes] at hs
      | [_], hs => simp [shapes] at hs
      | _ :: _ :: _ :: _, hs => simp [shapes] at hs
    · cases h
  · cases h
theorem allInts8_VC {ps : List LV} {b : BitVec 512} {cs : List Value} (h : allInts8 real ps = some b) (hv : VCs ρ w ps cs) : cs = wideCells b := by
  unfold allInts8 at h
  split at h
  · split at h
    · rename_i e0 e1 e2 e3 e4 e5 e6 e7
      cases h
      simp only [VCs] at hv
      obtain ⟨c0, _, rfl, v0, c1, _, rfl, v1, c2, _, rfl, v2, c3, _, rfl, v3, c4, _, rfl, v4, c5, _, rfl, v5, c6, _, rfl, v6, c7, _, rfl, v7, rfl⟩ := hv
      obtain ⟨i0, rfl⟩ := VC_int e0 v0
      obtain ⟨i1, rfl⟩ := VC_int e1 v1
      obtain ⟨i2, rfl⟩ := VC_int e2 v2
      obtain ⟨i3, rfl⟩ := VC_int e3 v3
      obtain ⟨i4, rfl⟩ := VC_int e4 v4
      obtain ⟨i5, rfl⟩ := VC_int e5 v5
      obtain ⟨i6, rfl⟩ := VC_int e6 v6
      obtain ⟨i7, rfl⟩ := VC_int e7 v7
      exact (limb_of i0 i1 i2 i3 i4 i5 i6 i7).symm
    · cases h
  · cases h
theorem getW_VC {lv : LV} {b : BitVec 512} {cs : List Value} (h : getW real lv = some b) (hv : VC ρ w lv cs) : cs = wideCells b := by
  unfold getW at h
  split at h
  · cases h; simpa only [VC] using hv
  · exact allInts8_VC h (by simpa only [VC] using hv)
  · cases h
theorem getW_shape {lv : LV} {b : BitVec 512} {n : Nat} {e : Ty} (h : getW real lv = some b) (hs : shape (.arr n e) lv = true) : n = 8 ∧ e = .int .u64 := by
  unfold getW at h
  split at h
  · unfold shape at hs
    split at hs <;> first | (simp_all; done) | skip
    all_goals simp_all
  · unfold allInts8 at h
    split at h
    · split at h
      · rename_i e0 e1 e2 e3 e4 e5 e6 e7
        simp only [shape, Bool.and_eq_true, shapeEl] at hs
        refine ⟨?_, shape_int e0 hs.2.1⟩
        have := natEq_true hs.1
        simpa using this.symm
      · cases h
    · cases h
  · cases h
theorem CT_word (b : BitVec 128) : CT (.struct [.int .u64, .int .u64]) (wordCells b) := by
  simp only [CT, CTs, wordCells]
  exact ⟨[_], _, rfl, ⟨_, rfl⟩, [_], [], rfl, ⟨_, rfl⟩, rfl⟩
theorem CT_wide (b : BitVec 512) : CT (.arr 8 (.int .u64)) (wideCells b) := by
  simp only [CT, CTn, wideCells]
  exact ⟨[_], _, rfl, ⟨_, rfl⟩, [_], _, rfl, ⟨_, rfl⟩, [_], _, rfl, ⟨_, rfl⟩, [_], _, rfl, ⟨_, rfl⟩, [_], _, rfl, ⟨_, rfl⟩, [_], _, rfl, ⟨_, rfl⟩, [_], _, rfl, ⟨_, rfl⟩, [_], [], rfl, ⟨_, rfl⟩, rfl⟩

mutual
theorem eqTy_sound : ∀ (ty : Ty) (x y : LV) (b : Bool) (cx cy : List Value), eqTy real ty x y = some b → shape ty x = true → shape ty y = true → VC ρ w x cx → VC ρ w y cy → CT ty cx ∧ CT ty cy ∧ b = ceq cx cy
  | .int k, x, y, b, cx, cy, h, hx, hy, vx, vy => by
    unfold eqTy at h
    split at h
    · rename_i e1 e2
      cases h
      have k1 := shape_int e1 hx
      have k2 := shape_int e2 hy
      cases k1
      cases k2
      obtain ⟨_, rfl⟩ := VC_int e1 vx
      obtain ⟨_, rfl⟩ := VC_int e2 vy
      exact ⟨by simp only [CT]; exact ⟨_, rfl⟩, by simp only [CT]; exact ⟨_, rfl⟩, by simp [ceq, veq, real, cmpR]⟩
    · cases h
  | .bool, x, y, b, cx, cy, h, hx, hy, vx, vy => by
    cases x <;> first | (simp [shape] at hx; done) | skip
    all_goals cases y <;> first | (simp [shape] at hy; done) | skip
    all_goals
      simp only [eqTy, Option.some.injEq] at h
      subst h
      simp only [VC] at vx vy
      subst vx; subst vy
      exact ⟨by simp only [CT]; exact ⟨_, rfl⟩, by simp only [CT]; exact ⟨_, rfl⟩, by simp [ceq, veq, real]⟩
  | .str, x, y, b, cx, cy, h, hx, hy, vx, vy => by
    cases x <;> first | (simp [shape] at hx; done) | skip
    all_goals cases y <;> first | (simp [shape] at hy; done) | skip
    all_goals
      simp only [eqTy, Option.some.injEq] at h
      subst h
      simp only [VC] at vx vy
      obtain ⟨_, rfl⟩ := vx
      obtain ⟨_, rfl⟩ := vy
      exact ⟨by simp only [CT]; exact ⟨_, rfl⟩, by simp only [CT]; exact ⟨_, rfl⟩, by simp [ceq, veq, real]⟩
  | .struct fs, x, y, b, cx, cy, h, hx, hy, vx, vy => by
    unfold eqTy at h
    split at h
    · rename_i p q e1 e2
      cases h
      have := getWord_shape e1 hx; subst this
      rw [getWord_VC e1 vx, getWord_VC e2 vy]
      exact ⟨CT_word _, CT_word _, by rw [ceq_word]; rfl⟩
    · split at h
      · rename_i xs ys e1 e2
        have := eqTys_sound fs xs ys b cx cy h (parts_struct e1 hx) (parts_struct e2 hy) (parts_VCs e1 vx) (parts_VCs e2 vy)
        exact ⟨by simpa only [CT] using this.1, by simpa only [CT] using this.2.1, this.2.2⟩
      · cases h
  | .arr n e, x, y, b, cx, cy, h, hx, hy, vx, vy => by
    unfold eqTy at h
    split at h
    · rename_i p q e1 e2
      cases h
      obtain ⟨rfl, rfl⟩ := getW_shape e1 hx
      rw [getW_VC e1 vx, getW_VC e2 vy]
      exact ⟨CT_wide _, CT_wide _, by rw [ceq_wide]; rfl⟩
    · split at h
      · rename_i xs ys e1 e2
        obtain ⟨l1, s1⟩ := parts_arr e1 hx
        obtain ⟨l2, s2⟩ := parts_arr e2 hy
        have := eqEls_sound e xs ys b cx cy h s1 s2 (parts_VCs e1 vx) (parts_VCs e2 vy)
        exact ⟨by simp only [CT]; rw [← l1]; exact this.1, by simp only [CT]; rw [← l2]; exact this.2.1, this.2.2⟩
      · cases h
  | .slice _, x, y, b, cx, cy, h, hx, hy, vx, vy => by unfold eqTy at h; simp at h
  | .func, x, y, b, cx, cy, h, hx, hy, vx, vy => by unfold eqTy at h; simp at h
theorem eqTys_sound : ∀ (fs : List Ty) (xs ys : List LV) (b : Bool) (cx cy : List Value), eqTys real fs xs ys = some b → shapes fs xs = true → shapes fs ys = true → VCs ρ w xs cx → VCs ρ w ys cy → CTs fs cx ∧ CTs fs cy ∧ b = ceq cx cy
  | [], [], [], b, cx, cy, h, _, _, vx, vy => by
    unfold eqTys at h
    cases h
    simp only [VCs] at vx vy
    subst vx; subst vy
    exact ⟨by simp only [CTs], by simp only [CTs], rfl⟩
  | f :: fs, x :: xs, y :: ys, b, cx, cy, h, hx, hy, vx, vy => by
    unfold eqTys at h
    simp only [shapes, Bool.and_eq_true] at hx hy
    simp only [VCs] at vx vy
    obtain ⟨c1, c2, rfl, v1, v2⟩ := vx
    obtain ⟨d1, d2, rfl, u1, u2⟩ := vy
    split at h
    · rename_i p q e1 e2
      cases h
      obtain ⟨a1, a2, a3⟩ := eqTy_sound f x y p c1 d1 e1 hx.1 hy.1 v1 u1
      obtain ⟨b1, b2, b3⟩ := eqTys_sound fs xs ys q c2 d2 e2 hx.2 hy.2 v2 u2
      refine ⟨by simp only [CTs]; exact ⟨_, _, rfl, a1, b1⟩, by simp only [CTs]; exact ⟨_, _, rfl, a2, b2⟩, ?_⟩
      rw [ceq_append c1 d1 c2 d2 (by rw [CT_size f c1 a1, CT_size f d1 a2]), ← a3, ← b3]
      rfl
    · cases h
  | [], _ :: _, _, _, _, _, _, hx, _, _, _ | _ :: _, [], _, _, _, _, _, hx, _, _, _ => by simp [shapes] at hx
  | [], _, _ :: _, _, _, _, _, _, hy, _, _ | _ :: _, _, [], _, _, _, _, _, hy, _, _ => by simp [shapes] at hy
theorem eqEls_sound : ∀ (e : Ty) (xs ys : List LV) (b : Bool) (cx cy : List Value), eqEls real e xs ys = some b → shapeEl e xs = true → shapeEl e ys = true → VCs ρ w xs cx → VCs ρ w ys cy → CTn xs.length e cx ∧ CTn ys.length e cy ∧ b = ceq cx cy
  | e, [], [], b, cx, cy, h, _, _, vx, vy => by
    unfold eqEls at h
    cases h
    simp only [VCs] at vx vy
    subst vx; subst vy
    exact ⟨by simp only [List.length_nil, CTn], by simp only [List.length_nil, CTn], rfl⟩
  | e, x :: xs, y :: ys, b, cx, cy, h, hx, hy, vx, vy => by
    unfold eqEls at h
    simp only [shapeEl, Bool.and_eq_true] at hx hy
    simp only [VCs] at vx vy
    obtain ⟨c1, c2, rfl, v1, v2⟩ := vx
    obtain ⟨d1, d2, rfl, u1, u2⟩ := vy
    split at h
    · rename_i p q e1 e2
      cases h
      obtain ⟨a1, a2, a3⟩ := eqTy_sound e x y p c1 d1 e1 hx.1 hy.1 v1 u1
      obtain ⟨b1, b2, b3⟩ := eqEls_sound e xs ys q c2 d2 e2 hx.2 hy.2 v2 u2
      refine ⟨by simp only [List.length_cons, CTn]; exact ⟨_, _, rfl, a1, b1⟩, by simp only [List.length_cons, CTn]; exact ⟨_, _, rfl, a2, b2⟩, ?_⟩
      rw [ceq_append c1 d1 c2 d2 (by rw [CT_size e c1 a1, CT_size e d1 a2]), ← a3, ← b3]
      rfl
    · cases h
  | e, [], _ :: _, _, _, _, h, _, _, _, _ | e, _ :: _, [], _, _, _, h, _, _, _, _ => by unfold eqEls at h; simp at h
end
end
end Go.LE
namespace Go.LE
open Go Go.RowKit

section
variable {P : Program} {E : Env} {o : Oper} {a : Act} {ρ : Nat → Option Nat} {w : World} {bx : Bx} {lab : Nat} {r : OR}

theorem val_of {ty : Ty} {lv : LV} {v : Value} (hs : shape ty lv = true) (h : VV ρ w lv v) : v = valOf ty v.cells.toList := by
  have a1 := shape_agg hs
  unfold valOf
  rw [← a1]
  cases lv <;> simp only [VV] at h <;> simp only [aggLV]
  case int => obtain ⟨_, rfl⟩ := h; rfl
  case lit => obtain ⟨_, rfl⟩ := h; rfl
  case bool => subst h; rfl
  case blit => subst h; rfl
  case str => obtain ⟨_, rfl⟩ := h; rfl
  case slit => obtain ⟨_, rfl⟩ := h; rfl
  case wide => subst h; rfl
  case word => subst h; rfl
  case agg => obtain ⟨cs, rfl, _⟩ := h; rfl
  case tup => cases ty <;> simp [shape] at hs
  case ptr => cases ty <;> simp [shape] at hs
  case gptr => cases ty <;> simp [shape] at hs
  case sl => obtain ⟨b, c, _, _, rfl⟩ := h; rfl
  case fn => obtain ⟨vs, _, _, rfl⟩ := h; rfl
  case own => cases ty <;> simp [shape] at hs
  case oel => cases ty <;> simp [shape] at hs
  case nils => subst h; rfl
  case nilf => subst h; rfl
  case im => obtain ⟨c, _, b, d, rfl, _⟩ := h; rfl
  case big => obtain ⟨b, d, rfl, _⟩ := h; rfl
  case words => obtain ⟨b, d, rfl, _⟩ := h; rfl
  case ints => obtain ⟨_, b, d, rfl, _⟩ := h; rfl
  case undef => cases ty <;> simp [shape] at hs
  case cell => cases ty <;> simp [shape] at hs

theorem deep_le : 10000 = 9999 + 1 := rfl

def eqRes : BinOp → Bool → Bool
  | .eql, b => b
  | _, b => !b
/-- '==' and '!=' by a type -/
theorem eq_ty {op : BinOp} {t : TypeId} {x y : Operand} {ty : Ty} {lx ly : LV} {vx vy : Value} (ht : TyRep P ty t) (hd : ty.deep ≤ 10000) (hx : shape ty lx = true) (hy : shape ty ly = true) (h1 : VV ρ w lx vx) (h2 : VV ρ w ly vy)
    {b : Bool} (he : eqTy real ty lx ly = some b) (hop : op = .eql ∨ op = .neq) :
    (eqGuard op t x y vx vy).run P w = .ok () w ∧ (binOp op t vx vy).run P w = .ok (.bool (eqRes op b)) w := by
  have c1 := VV_typed hx h1
  have c2 := VV_typed hy h2
  obtain ⟨t1, t2, hb⟩ := eqTy_sound ty lx ly b _ _ he hx hy c1 c2
  have v1 := val_of hx h1
  have v2 := val_of hy h2
  have heq := equalIn_ty ty t 10000 w _ _ ht t1 t2 hd
  rw [← v1, ← v2, ← hb] at heq
  cases ty with
  | int k =>
    simp only [CT] at t1 t2
    obtain ⟨m, hm⟩ := t1
    obtain ⟨n, hn⟩ := t2
    rw [hm] at v1 hb
    rw [hn] at v2 hb
    have v1 : vx = .int k m := v1
    have v2 : vy = .int k n := v2
    subst v1 v2
    simp only [ceq, veq, Bool.and_true] at hb
    subst hb
    refine ⟨run_eqGuard_int _ _ _ _ _ _ _ _, ?_⟩
    rcases hop with rfl | rfl
    · rw [run_cmp rfl]; rfl
    · rw [run_cmp rfl]; rfl
  | bool =>
    simp only [CT] at t1 t2
    obtain ⟨m, hm⟩ := t1
    obtain ⟨n, hn⟩ := t2
    rw [hm] at v1
    rw [hn] at v2
    have v1 : vx = .bool m := v1
    have v2 : vy = .bool n := v2
    subst v1 v2
    refine ⟨run_eqGuard_bool _ _ _ _ _ _, ?_⟩
    rcases hop with rfl | rfl
    · simp only [binOp]; simp [Op.equal, Op.maxDepth, heq, eqRes]
    · simp only [binOp]; simp [Op.equal, Op.maxDepth, heq, eqRes]
  | str =>
    simp only [CT] at t1 t2
    obtain ⟨m, hm⟩ := t1
    obtain ⟨n, hn⟩ := t2
    rw [hm] at v1 hb
    rw [hn] at v2 hb
    have v1 : vx = .string m := v1
    have v2 : vy = .string n := v2
    subst v1 v2
    simp only [ceq, veq, Bool.and_true] at hb
    subst hb
    refine ⟨run_eqGuard_str _ _ _ _ _ _, ?_⟩
    rcases hop with rfl | rfl
    · simp [binOp, Op.stringOp, eqRes]
    · simp [binOp, Op.stringOp, eqRes]
  | struct fs =>
    simp only [TyRep] at ht
    obtain ⟨_, _, hg, _⟩ := ht
    have v1 : vx = .agg vx.cells.toList.toArray := v1
    have v2 : vy = .agg vy.cells.toList.toArray := v2
    generalize vx.cells.toList = cx at v1
    generalize vy.cells.toList = cy at v2
    subst v1 v2
    refine ⟨run_eqGuard_agg w _ _ _ _ _ _ hg, ?_⟩
    rcases hop with rfl | rfl
    · rw [run_eql_struct, heq]; rfl
    · rw [run_neq_struct, heq]; rfl
  | arr n e =>
    simp only [TyRep] at ht
    obtain ⟨_, hg, _⟩ := ht
    have v1 : vx = .agg vx.cells.toList.toArray := v1
    have v2 : vy = .agg vy.cells.toList.toArray := v2
    generalize vx.cells.toList = cx at v1
    generalize vy.cells.toList = cy at v2
    subst v1 v2
    refine ⟨run_eqGuard_agg w _ _ _ _ _ _ hg, ?_⟩
    rcases hop with rfl | rfl
    · rw [run_eql_struct, heq]; rfl
    · rw [run_neq_struct, heq]; rfl
  | slice _ => simp [CT] at t1
  | func => simp [CT] at t1

theorem strCat_inK {s t : ByteArray} (h : real.strFits s t) : inK .i64 (s ++ t).size := by
  have h : ((s.size + t.size : Nat) : Int) ≤ IntKind.i64.max := h
  rw [inK_iff, ByteArray.size_append]
  refine ⟨?_, h⟩
  simp [IntKind.min, IntKind.signed, IntKind.bits]
  omega

theorem op_bin {op : BinOp} {t t' : TypeId} {x y : Operand} {lx ly : LV} (ho : o.op = .binOp op t x y t') (hE : EnvOk P E) (hD : ∀ t ty, look E.ty t = some ty → ty.deep ≤ 10000)
    (h1 : VV ρ w lx (a.eval x)) (h2 : VV ρ w ly (a.eval y)) (hb : BR ρ w bx) (h : (binR real E op t lx ly).Y r) : OpOut P o a ρ w bx lab r := by
  unfold binR at h
  split at h
  · rename_i k m lm j n ln e1 e2
    obtain ⟨i1, v1⟩ := VV_int e1 h1
    obtain ⟨i2, v2⟩ := VV_int e2 h2
    obtain ⟨hu, v, hv, hvv⟩ := binInt_sound (P := P) (t := t) (ρ := ρ) (w := w) i1 h
    refine out_pure (v' := v) ?_ hvv hb hu
    simp [execOp, ho, v1, v2, run_eqGuard_int, hv]
  · split at h
    · rename_i s u e1 e2
      obtain ⟨i1, v1⟩ := VV_str e1 h1
      obtain ⟨i2, v2⟩ := VV_str e2 h2
      have key : real.strFits s u → (execOp a.eval o).run P w = .ok (.value (.string (s ++ u))) w := by
        intro hp
        have hp' : ¬ ((s.size + u.size : Nat) : Int) > IntKind.i64.max := by
          have : ((s.size + u.size : Nat) : Int) ≤ IntKind.i64.max := hp
          omega
        simp only [execOp, ho, v1, v2, Sem.run_bind, run_eqGuard_str, Result.andThen_ok, binOp, Op.stringOp, if_neg hp', Sem.run_pure]
      split at h
      · rename_i hsl
        have hsl : s.size + u.size < 10000 := by
          unfold shortS at hsl
          split at hsl
          · exact (blt_iff _ _).1 hsl
          · cases hsl
        have := val_Y h; subst this
        have hp : real.strFits s u := by
          show ((s.size + u.size : Nat) : Int) ≤ IntKind.i64.max
          have := hsl
          simp [IntKind.max, IntKind.signed, IntKind.bits]
          omega
        exact out_pure (v' := .string (s ++ u)) (key hp) (by simp only [VV]; exact ⟨strCat_inK hp, trivial⟩) hb rfl
      · obtain ⟨hp, h⟩ := h
        have := val_Y h; subst this
        exact out_pure (v' := .string (s ++ u)) (key hp) (by simp only [VV]; exact ⟨strCat_inK hp, rfl⟩) hb rfl
    · rename_i s u e1 e2
      obtain ⟨i1, v1⟩ := VV_str e1 h1
      obtain ⟨i2, v2⟩ := VV_str e2 h2
      have key : (execOp a.eval o).run P w = .ok (.value (.bool (s.toList == u.toList))) w := by
        simp [execOp, ho, v1, v2, run_eqGuard_str, binOp, Op.stringOp]
      split at h
      · have := val_Y h; subst this
        exact out_pure key (by simp only [VV]) hb rfl
      · have := val_Y h; subst this
        exact out_pure key (by simp only [VV]; rfl) hb rfl
    · rename_i s u e1 e2
      obtain ⟨i1, v1⟩ := VV_str e1 h1
      obtain ⟨i2, v2⟩ := VV_str e2 h2
      have := val_Y h; subst this
      refine out_pure (v' := .bool (!(s.toList == u.toList))) ?_ (by simp only [VV]; rfl) hb rfl
      simp [execOp, ho, v1, v2, run_eqGuard_str, binOp, Op.stringOp]
    · rename_i s u e1 e2
      obtain ⟨i1, v1⟩ := VV_str e1 h1
      obtain ⟨i2, v2⟩ := VV_str e2 h2
      have := val_Y h; subst this
      refine out_pure (v' := .bool (Op.bytesLess s.toList u.toList || s.toList == u.toList)) ?_ (by simp only [VV]; rfl) hb rfl
      simp [execOp, ho, v1, v2, run_eqGuard_str, binOp, Op.stringOp]
    · split at h
      · rename_i ty ht
        have hd := hD _ _ ht
        have ht := hE.ty _ _ ht
        split at h
        · rename_i hs
          simp only [Bool.and_eq_true] at hs
          split at h
          · rename_i b he _ _ _ _
            have := val_Y h; subst this
            obtain ⟨g1, g2⟩ := eq_ty (x := x) (y := y) ht hd hs.1 hs.2 h1 h2 he (.inl rfl)
            refine out_pure (v' := .bool b) ?_ (by simp only [VV]) hb rfl
            simp [execOp, ho, g1, g2, eqRes]
          · rename_i b he _ _ _ _
            have := val_Y h; subst this
            obtain ⟨g1, g2⟩ := eq_ty (x := x) (y := y) ht hd hs.1 hs.2 h1 h2 he (.inr rfl)
            refine out_pure (v' := .bool (!b)) ?_ (by simp only [VV]; rfl) hb rfl
            simp [execOp, ho, g1, g2, eqRes]
          · exact h.elim
        · exact h.elim
      · exact h.elim

theorem op_un {op : UnOp} {t : TypeId} {x : Operand} {lx : LV} (ho : o.op = .unOp op t x) (h1 : VV ρ w lx (a.eval x)) (hb : BR ρ w bx)
    (h : (match op, lx with
    | .not, .bool b => val (.bool (real.bnot b))
    | .not, .blit b => val (.blit (!b))
    | .neg, .int k n => val (.int k (real.un .neg k n))
    | .neg, .lit k n => val (.lit k (unR .neg k n))
    | _, _ => .fail).Y r) : OpOut P o a ρ w bx lab r := by
  split at h
  · rename_i b
    have := val_Y h; subst this
    simp only [VV] at h1
    exact out_pure (v' := .bool (!b)) (by simp [execOp, ho, Op.unary, h1]) (by simp only [VV]; rfl) hb rfl
  · rename_i b
    have := val_Y h; subst this
    simp only [VV] at h1
    exact out_pure (v' := .bool (!b)) (by simp [execOp, ho, Op.unary, h1]) (by simp only [VV]) hb rfl
  · rename_i k n
    have := val_Y h; subst this
    simp only [VV] at h1
    refine out_pure (v' := .int k (k.wrap (-n))) (by simp [execOp, ho, Op.unary, h1.2, Op.intArith]) (by simp only [VV]; exact ⟨inK_wrap _ _, by first | rfl | trivial⟩) hb rfl
  · rename_i k n
    have := val_Y h; subst this
    simp only [VV] at h1
    refine out_pure (v' := .int k (k.wrap (-n))) (by simp [execOp, ho, Op.unary, h1.2, Op.intArith]) (by simp only [VV]; exact ⟨inK_wrap _ _, by first | rfl | trivial⟩) hb rfl
  · exact h.elim

theorem TyRep.under {ty : Ty} {t : TypeId} (h : TyRep P ty t) : (P.underlying t).isSome = true := by
  cases ty <;> simp only [TyRep] at h
  case int => simp [h.2]
  case bool => simp [h.2]
  case str => simp [h.2]
  case slice => obtain ⟨_, et, h, _⟩ := h; simp [h]
  case func => obtain ⟨_, a, b, c, h⟩ := h; simp [h]
  case struct => obtain ⟨_, _, _, fs, h, _⟩ := h; simp [h]
  case arr => obtain ⟨_, _, et, h, _⟩ := h; simp [h]

theorem op_convert {s d : TypeId} {x : Operand} {lx : LV} (ho : o.op = .convert s d x) (hE : EnvOk P E) (h1 : VV ρ w lx (a.eval x)) (hb : BR ρ w bx)
    (h : (match look E.ty s, look E.ty d, lx with
    | some _, some (.int k), .int _ n => val (.int k (real.conv k n))
    | some _, some (.int k), .lit _ n => val (.lit k (k.wrap n))
    | _, _, _ => .fail).Y r) : OpOut P o a ρ w bx lab r := by
  split at h
  · rename_i k j n hs hd
    have := val_Y h; subst this
    simp only [VV] at h1
    have hs := (hE.ty _ _ hs).under
    have hd := (hE.ty _ _ hd)
    simp only [TyRep] at hd
    refine out_pure (v' := .int k (k.wrap n)) ?_ (by simp only [VV]; exact ⟨inK_wrap _ _, by first | rfl | trivial⟩) hb rfl
    obtain ⟨ds, hds⟩ := Option.isSome_iff_exists.1 hs
    simp [execOp, ho, h1.2, convert, run_underlying hds, run_underlying hd.2, Conv.intToInt]
  · rename_i k j n hs hd
    have := val_Y h; subst this
    simp only [VV] at h1
    have hs := (hE.ty _ _ hs).under
    have hd := (hE.ty _ _ hd)
    simp only [TyRep] at hd
    refine out_pure (v' := .int k (k.wrap n)) ?_ (by simp only [VV]; exact ⟨inK_wrap _ _, by first | rfl | trivial⟩) hb rfl
    obtain ⟨ds, hds⟩ := Option.isSome_iff_exists.1 hs
    simp [execOp, ho, h1.2, convert, run_underlying hds, run_underlying hd.2, Conv.intToInt]
  · exact h.elim

theorem VVs_map {ev : Operand → LV} : ∀ (xs : List Operand), (∀ x ∈ xs, VV ρ w (ev x) (a.eval x)) → VVs ρ w (xs.map ev) (xs.map a.eval)
  | [], _ => rfl
  | x :: xs, h => by
    simp only [List.map_cons, VVs]
    exact ⟨_, _, rfl, h x (by simp), VVs_map xs fun y hy => h y (by simp [hy])⟩

theorem op_makeFunc {f : FuncId} {fi cs : Array Operand} {ev : Operand → LV} (ho : o.op = .makeFunc (.func f) fi cs) (hf : fi = #[]) (h1 : ∀ x ∈ cs.toList, VV ρ w (ev x) (a.eval x)) (ht : tames (cs.toList.map ev) = true) (hb : BR ρ w bx) : OpOut P o a ρ w bx lab ⟨.fn f (cs.toList.map ev), .no, none⟩ := by
  subst hf
  refine out_pure (v' := .func (.func f) #[] (cs.toList.map a.eval).toArray) ?_ (by simp only [VV]; exact ⟨_, ht, VVs_map _ h1, rfl⟩) hb rfl
  have : Array.map a.eval cs = (cs.toList.map a.eval).toArray := by apply Array.ext'; simp
  simp only [execOp, ho, Instr.makeFunc, Array.map_empty, this, Sem.run_bind, Sem.run_pure, Result.andThen_ok]
end
end Go.LE