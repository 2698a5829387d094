import Derived.Test.YtcmicmbpcgminaaGreatDoorLeM
import Derived.Test.YtcmicmbpcgminaaGreatDoorLeC
import Derived.Laws.Externs
import Derived.Test.YtcmicmbpcgminaaGreatDoorProg
set_option linter.unusedVariables false
set_option linter.unusedSimpArgs false
namespace Go.LE
open Go Go.Proofs
structure Ops where
  power : Int → W
  at_ : W → Int → Int → Int
  ls : Int → Int → Int → Int
  lc : Int → Int → Int → Int
  ld : Int → Int → Int → Int
  lb : Int → Int → Int → Int
  add : W → W → W
  car : W → W → Bool
  sub : W → W → W
  bor : W → W → Bool
  shl : W → Int → W
  shr : W → Int → W
  lost : W → Int → Bool
  ext1 : Int → Int → Int → Int
  ext2 : Int → Int → Int → Int
  ext3 : Int → Int → Int → Int
  ext4 : Int → Int → Int → Int
  cOk : Int → Prop
  of1 : Int → W
  of2 : Int → Int → W
  mask : Int → W
  len64 : Int → Int
  wlen : W → Int
  wbit : W → Int → Bool
  wcmp : W → W → Int
  less : W → W → Bool
  from_ : BitVec 128 → W
  low : W → BitVec 128
  isF : Int → Prop
  prec : Int → Int
  bits : Int → Int
  field : Int → Int
  emax : Int → Int
  emin : Int → Int
  fOk : Int → Bool
  strOk : ByteArray → Int → Prop
  times : ByteArray → Int → ByteArray
  bword : ByteArray → BitVec 128
  inf : Int → Bool → BitVec 128
  nanw : Int → BitVec 128
  maxw : Int → Bool → BitVec 128
  least : Int → BitVec 128
  onew : Int → BitVec 128
  nought : Int → Bool → BitVec 128
  ones : Int → Int
  sign05 : Bool → ByteArray
noncomputable def rops : Ops where
  power := wPower
  at_ := wAt
  ls := lSum
  lc := lCar
  ld := lDif
  lb := lBor
  add := fun a b => a + b
  car := wCarry
  sub := fun a b => a - b
  bor := wBorrow
  shl := wShl
  shr := wShr
  lost := fun a n => decide (wShl (wShr a n) n ≠ a)
  ext1 := fun x y c => (x + y + c) % 18446744073709551616
  ext2 := fun x y c => (x + y + c) / 18446744073709551616
  ext3 := fun x y c => (x - y - c) % 18446744073709551616
  ext4 := fun x y c => if x < y + c then 1 else 0
  cOk := fun c => c = 0 ∨ c = 1
  of1 := fun a => ofLimbsR a 0 0 0 0 0 0 0
  of2 := fun a b => ofLimbsR a b 0 0 0 0 0 0
  mask := fun n => wPower (max 0 n) - ofLimbsR 1 0 0 0 0 0 0 0
  len64 := nLen
  wlen := wLen
  wbit := wBit
  wcmp := wCmp
  less := fun a b => decide (a.toNat < b.toNat)
  from_ := fun w => ofLimbsR (loR w) (hiR w) 0 0 0 0 0 0
  low := fun a => mkWordR (limbR a 1) (limbR a 0)
  isF := fun f => 1 ≤ f ∧ f ≤ 4
  prec := fPrec
  bits := fBits
  field := fField
  emax := fEMax
  emin := fun f => 1 - fEMax f
  fOk := fOk
  strOk := fun s n => (s.size : Int) * n < 100000 ∧ n < 100000
  times := bTimes
  bword := bWord
  inf := fInf
  nanw := fNaN
  maxw := fMax
  least := fLeast
  onew := fOne
  nought := fNought
  ones := fun e => arithR .add .i64 (arithR .mul .i64 2 e) 1
  sign05 := fun b => bif b then bytesOf [49] else bytesOf [48]
def tys : List (TypeId × Ty) := [(1, .func), (2, .int .i64), (3, .int .i64), (4, .bool), (5, .int .u8), (9, .str), (21, .int .i32), (22, .int .u64), (23, .struct [.int .u64, .int .u64]), (24, .struct [.int .u64, .int .u64]), (25, .func), (26, .func), (27, .func), (28, .arr 8 (.int .u64)), (29, .arr 8 (.int .u64)), (30, .struct [.bool, .int .i64, .arr 8 (.int .u64)]), (31, .struct [.bool, .int .i64, .arr 8 (.int .u64)]), (32, .func), (33, .func), (34, .func), (35, .arr 2 (.int .i64)), (36, .int .i64), (38, .func), (40, .func), (41, .func), (42, .func), (43, .slice (.int .u32)), (44, .slice (.int .u32)), (45, .func), (47, .func), (48, .func), (49, .func), (50, .func), (52, .func), (53, .func), (55, .func), (56, .struct [.slice (.int .u32), .slice (.int .u32), .int .i64, .bool]), (57, .struct [.slice (.int .u32), .slice (.int .u32), .int .i64, .bool]), (58, .func), (60, .func), (61, .struct [.bool, .slice (.int .u32), .int .i64]), (62, .struct [.bool, .slice (.int .u32), .int .i64]), (63, .func), (64, .func), (65, .func), (66, .func), (67, .func), (68, .func), (69, .func), (71, .func), (72, .func), (73, .func), (74, .func), (75, .func), (76, .func), (77, .func), (78, .func), (79, .int .u32), (80, .func), (81, .func), (82, .func), (83, .func), (85, .func), (86, .slice (.struct [.int .u64, .int .u64])), (87, .struct [.bool, .int .i64, .slice (.int .u32), .slice (.int .u32), .int .i64]), (88, .struct [.bool, .int .i64, .slice (.int .u32), .slice (.int .u32), .int .i64]), (89, .func), (90, .func), (91, .func), (92, .func), (93, .func), (94, .func), (95, .func), (96, .func), (97, .struct [.arr 8 (.int .u64), .int .i64, .bool]), (98, .struct [.arr 8 (.int .u64), .int .i64, .bool]), (99, .func), (100, .func), (102, .func), (103, .func), (104, .func), (105, .struct [.int .i64, .int .i64, .int .i64, .int .i64, .int .i64]), (106, .struct [.int .i64, .int .i64, .int .i64, .int .i64, .int .i64]), (107, .func), (109, .func), (110, .func), (111, .func), (112, .func), (113, .func), (114, .func), (116, .func), (117, .func), (118, .func), (119, .func), (120, .arr 7 (.func)), (121, .func), (122, .func), (124, .func), (125, .func), (126, .func), (127, .func), (128, .func), (129, .func), (130, .func), (131, .func), (132, .int .u64), (133, .func), (134, .slice (.int .u64)), (135, .func), (136, .func), (137, .func), (138, .func), (139, .func), (141, .func), (142, .func), (143, .func), (144, .func), (146, .func), (147, .func), (148, .struct [.str, .int .i64, .int .i64, .int .i64]), (149, .arr 5 (.struct [.str, .int .i64, .int .i64, .int .i64])), (150, .func), (151, .func), (152, .func), (153, .func), (154, .func), (155, .func), (156, .func), (157, .func), (158, .func), (159, .func), (160, .func), (161, .func), (162, .func), (163, .func), (164, .func), (165, .struct [.struct [.int .i64, .int .i64, .int .i64, .int .i64, .int .i64], .bool, .int .i64, .arr 8 (.int .u64)]), (166, .struct [.struct [.int .i64, .int .i64, .int .i64, .int .i64, .int .i64], .bool, .int .i64, .arr 8 (.int .u64)]), (167, .func), (168, .func), (169, .func), (170, .func), (171, .func), (172, .func), (173, .func), (174, .func), (175, .func), (176, .func), (177, .func), (178, .func), (180, .func), (181, .func), (183, .func), (184, .func), (185, .struct [.int .i64, .arr 8 (.int .u64)]), (186, .struct [.int .i64, .arr 8 (.int .u64)]), (187, .func), (188, .func), (189, .func), (190, .func), (192, .func), (194, .func), (195, .func), (196, .func), (197, .arr 6 (.func)), (198, .func), (199, .func), (200, .func), (201, .slice (.arr 8 (.int .u64))), (202, .func), (208, .func), (211, .func)]
theorem tysT : tysOk Tryz.prog tys = true := by kernel_rfl
theorem mixT : Tryz.prog.follows .mixedOrders = true := by kernel_rfl
def knownT : Ty := .arr 5 (.struct [.str, .int .i64, .int .i64, .int .i64])
noncomputable def knownC : LV := .agg [.agg [.slit (bytesOf []), .lit .i64 0, .lit .i64 0, .lit .i64 0], .agg [.slit (bytesOf [98, 105, 110, 97, 114, 121, 49, 54]), .lit .i64 16, .lit .i64 11, .lit .i64 5],
  .agg [.slit (bytesOf [98, 105, 110, 97, 114, 121, 51, 50]), .lit .i64 32, .lit .i64 24, .lit .i64 8], .agg [.slit (bytesOf [98, 105, 110, 97, 114, 121, 54, 52]), .lit .i64 64, .lit .i64 53, .lit .i64 11],
  .agg [.slit (bytesOf [98, 105, 110, 97, 114, 121, 49, 50, 56]), .lit .i64 128, .lit .i64 113, .lit .i64 15]]
noncomputable def globs : List (Nat × Ty × LV) := [(0, knownT, knownC)]
noncomputable def env0 (fns : List (FuncId × FnE)) : Env := { ty := tys, fns := fns, globs := globs, loops := fun _ => some 700 }

noncomputable def envL (live : Nat → List Nat) (fns : List (FuncId × FnE)) : Env := { ty := tys, fns := fns, globs := globs, loops := fun _ => none, live := live }
theorem specL {fns : List (FuncId × FnE)} (live : Nat → List Nat) (hfns : FnsOk Tryz.prog globs fns) (hd : fnsOk fns = true) {f : FuncId} {fn : Func} (hf : Tryz.prog.funcs[f]? = some fn) (hb : fn.body.isSome = true) (hdc : drawsOk (bodyOf fn) = true) (hn : (fn.name == "runtime.NumGoroutine") = false)
    (n : Nat) (ts : List AT) (g : List LV → R LV) (rt : AT)
    (h : ∀ l r, Forms ts l → (g l).Y r → fnW real (envL live fns) n (bodyOf fn) fn.ntmps fn.results.toList l (kR rt r)) : SpecOk Tryz.prog globs f (mkSpec real ts g) :=
  spec_of_body (E := envL live fns) (envFull tysT hfns mixT) hd hf hb hdc hn n ts g rt h
theorem spec0' {fns : List (FuncId × FnE)} (hfns : FnsOk Tryz.prog globs fns) (hd : fnsOk fns = true) {f : FuncId} {fn : Func} (hf : Tryz.prog.funcs[f]? = some fn) (hb : fn.body.isSome = true) (hdc : drawsOk (bodyOf fn) = true) (hn : (fn.name == "runtime.NumGoroutine") = false)
    (n : Nat) (ts : List AT) (g : List LV → R LV) (rt : AT)
    (h : ∀ l r, Forms ts l → (g l).Y r → ∃ l', SameL l l' ∧ fnW real (env0 fns) n (bodyOf fn) fn.ntmps fn.results.toList l' (kR rt r)) : SpecOk Tryz.prog globs f (mkSpec real ts g) :=
  spec_of_body' (E := env0 fns) (envFull tysT hfns mixT) hd hf hb hdc hn n ts g rt h
theorem spec0 {fns : List (FuncId × FnE)} (hfns : FnsOk Tryz.prog globs fns) (hd : fnsOk fns = true) {f : FuncId} {fn : Func} (hf : Tryz.prog.funcs[f]? = some fn) (hb : fn.body.isSome = true) (hdc : drawsOk (bodyOf fn) = true) (hn : (fn.name == "runtime.NumGoroutine") = false)
    (n : Nat) (ts : List AT) (g : List LV → R LV) (rt : AT)
    (h : ∀ l r, Forms ts l → (g l).Y r → fnW real (env0 fns) n (bodyOf fn) fn.ntmps fn.results.toList l (kR rt r)) : SpecOk Tryz.prog globs f (mkSpec real ts g) :=
  spec_of_body (E := env0 fns) (envFull tysT hfns mixT) hd hf hb hdc hn n ts g rt h
def s_Add64 (S : Ops) : List LV → R LV
  | [.int _ x, .int _ y, .int _ c] => .req (S.cOk c) (.ok (.tup [.int .u64 (S.ext1 x y c), .int .u64 (S.ext2 x y c)]))
  | _ => .fail
def s_Sub64 (S : Ops) : List LV → R LV
  | [.int _ x, .int _ y, .int _ c] => .req (S.cOk c) (.ok (.tup [.int .u64 (S.ext3 x y c), .int .u64 (S.ext4 x y c)]))
  | _ => .fail
def s_limbAdd (S : Ops) : List LV → R LV
  | [.int _ x, .int _ y, .int _ c] => .ok (.tup [.int .u64 (S.ls x y c), .int .u64 (S.lc x y c)])
  | _ => .fail
def s_limbSub (S : Ops) : List LV → R LV
  | [.int _ x, .int _ y, .int _ c] => .ok (.tup [.int .u64 (S.ld x y c), .int .u64 (S.lb x y c)])
  | _ => .fail
def s_wAdd (S : Ops) : List LV → R LV
  | [.wide a, .wide b] => .ok (.tup [.wide (S.add a b), .bool (S.car a b)])
  | _ => .fail
def s_wSub (S : Ops) : List LV → R LV
  | [.wide a, .wide b] => .ok (.tup [.wide (S.sub a b), .bool (S.bor a b)])
  | _ => .fail
def s_power (S : Ops) : List LV → R LV
  | [.int _ n] => .ok (.wide (S.power n))
  | _ => .fail
def s_at (S : Ops) : List LV → R LV
  | [.wide a, .int _ i, .int _ b] => .ok (.int .u64 (S.at_ a i b))
  | _ => .fail
def s_of (S : Ops) : List LV → R LV
  | [.ints _ [a]] => .ok (.wide (S.of1 a))
  | [.ints _ [a, b]] => .ok (.wide (S.of2 a b))
  | _ => .fail
def s_mask (S : Ops) : List LV → R LV
  | [.int _ n] => .ok (.wide (S.mask n))
  | _ => .fail
def s_shl (S : Ops) : List LV → R LV
  | [.wide a, .int _ n] => .ok (.wide (S.shl a n))
  | _ => .fail
def s_shr (S : Ops) : List LV → R LV
  | [.wide a, .int _ n] => .ok (.tup [.wide (S.shr a n), .bool (S.lost a n)])
  | _ => .fail
def s_len64 (S : Ops) : List LV → R LV
  | [.int _ n] => .ok (.int .i64 (S.len64 n))
  | _ => .fail
def s_wLen (S : Ops) : List LV → R LV
  | [.wide a] => .ok (.int .i64 (S.wlen a))
  | _ => .fail
def s_wBit (S : Ops) : List LV → R LV
  | [.wide a, .int _ n] => .ok (.bool (S.wbit a n))
  | _ => .fail
def s_wCmp (S : Ops) : List LV → R LV
  | [.wide a, .wide b] => .ok (.int .i64 (S.wcmp a b))
  | _ => .fail
def s_from (S : Ops) : List LV → R LV
  | [.word a] => .ok (.wide (S.from_ a))
  | _ => .fail
def s_low (S : Ops) : List LV → R LV
  | [.wide a] => .ok (.word (S.low a))
  | _ => .fail

def add64E : Array Value → Sem Value := fun args => do
    let (x, y, c) ← Extern.MathBitsCarry.three "Add64" args
    pure (Extern.MathBitsCarry.pair ((x + y + c) % Extern.MathBitsCarry.m64) ((x + y + c) / Extern.MathBitsCarry.m64))
def sub64E : Array Value → Sem Value := fun args => do
    let (x, y, b) ← Extern.MathBitsCarry.three "Sub64" args
    pure (Extern.MathBitsCarry.pair ((x + Extern.MathBitsCarry.m64 - y - b) % Extern.MathBitsCarry.m64) (if x < y + b then 1 else 0))
theorem inK_u64 {n : Int} (h : inK .u64 n) : 0 ≤ n ∧ n < 18446744073709551616 := by
  have := (inK_iff _ _).1 h
  rw [u64_min, u64_max] at this; omega
theorem u64_inK {n : Int} (h : 0 ≤ n ∧ n < 18446744073709551616) : inK .u64 n := by
  rw [inK_iff, u64_min, u64_max]; omega
theorem ext_of {P : Program} {f : FuncId} (ts : List AT) (g : List LV → R LV)
    (h : ∀ l r, Forms ts l → (g l).Y r → ∀ (w : World) (vals : List Value), (∃ ρ, VVs ρ w l vals) → ∃ v, (callFunc f vals.toArray).run P w = .ok (.value v) w ∧ ∀ ρ, VV ρ w r v) : ExtOk P f (mkSpec real ts g) := by
  intro args r hY ρ w vals hv
  unfold mkSpec at hY
  split at hY
  · rename_i l hl
    obtain ⟨hv', hfm⟩ := canons_VV ts args l vals hl hv
    obtain ⟨v, h1, h2⟩ := h l r hfm hY w vals ⟨ρ, hv'⟩
    exact ⟨v, h1, h2 ρ⟩
  · exact hY.elim
theorem x_Add64 : ExtOk Tryz.prog 191 (mkSpec real [.int .u64, .int .u64, .int .u64] (s_Add64 rops)) := by
  refine ext_of _ _ ?_
  intro l r hl hr w vals hv
  simp only [Forms, Form] at hl
  obtain ⟨_, _, rfl, ⟨x, rfl, hx1, hx2⟩, _, _, rfl, ⟨y, rfl, hy1, hy2⟩, _, _, rfl, ⟨c, rfl, hc1, hc2⟩, rfl⟩ := hl
  obtain ⟨ρ, hv⟩ := hv
  simp only [VVs, VV] at hv
  obtain ⟨_, _, rfl, ⟨_, rfl⟩, _, _, rfl, ⟨_, rfl⟩, _, _, rfl, ⟨_, rfl⟩, rfl⟩ := hv
  obtain ⟨hc, hr⟩ := hr
  have hr : r = _ := hr.symm
  subst hr
  have hc : c = 0 ∨ c = 1 := hc
  rw [u64_min] at hx1 hy1
  rw [u64_max] at hx2 hy2
  obtain ⟨x, rfl⟩ := Int.eq_ofNat_of_zero_le hx1
  obtain ⟨y, rfl⟩ := Int.eq_ofNat_of_zero_le hy1
  have h1 : (add64E #[.int .u64 (x : Int), .int .u64 (y : Int), .int .u64 c]).run Tryz.prog w = .ok (.tuple #[.int .u64 (rops.ext1 x y c), .int .u64 (rops.ext2 x y c)]) w := by
    rcases hc with rfl | rfl <;> rfl
  refine ⟨.tuple #[.int .u64 (rops.ext1 x y c), .int .u64 (rops.ext2 x y c)], ?_, fun ρ => ?_⟩
  · rw [run_callFunc_extern Tryz.func191 (by kernel_rfl) (by kernel_rfl) (by kernel_rfl) (e := add64E) (by kernel_rfl), h1]
    rfl
  · simp only [VV, VVs]
    refine ⟨[_, _], rfl, _, _, rfl, ⟨?_, rfl⟩, _, _, rfl, ⟨?_, rfl⟩, rfl⟩
    · show inK .u64 (((x : Int) + y + c) % 18446744073709551616)
      exact u64_inK (by omega)
    · show inK .u64 (((x : Int) + y + c) / 18446744073709551616)
      exact u64_inK (by omega)
theorem x_Sub64 : ExtOk Tryz.prog 173 (mkSpec real [.int .u64, .int .u64, .int .u64] (s_Sub64 rops)) := by
  refine ext_of _ _ ?_
  intro l r hl hr w vals hv
  simp only [Forms, Form] at hl
  obtain ⟨_, _, rfl, ⟨x, rfl, hx1, hx2⟩, _, _, rfl, ⟨y, rfl, hy1, hy2⟩, _, _, rfl, ⟨c, rfl, hc1, hc2⟩, rfl⟩ := hl
  obtain ⟨ρ, hv⟩ := hv
  simp only [VVs, VV] at hv
  obtain ⟨_, _, rfl, ⟨_, rfl⟩, _, _, rfl, ⟨_, rfl⟩, _, _, rfl, ⟨_, rfl⟩, rfl⟩ := hv
  obtain ⟨hc, hr⟩ := hr
  have hr : r = _ := hr.symm
  subst hr
  have hc : c = 0 ∨ c = 1 := hc
  rw [u64_min] at hx1 hy1
  rw [u64_max] at hx2 hy2
  obtain ⟨x, rfl⟩ := Int.eq_ofNat_of_zero_le hx1
  obtain ⟨y, rfl⟩ := Int.eq_ofNat_of_zero_le hy1
  obtain ⟨c, rfl⟩ : ∃ k : Nat, c = (k : Int) := ⟨c.toNat, by omega⟩
  have h1 : (sub64E #[.int .u64 (x : Int), .int .u64 (y : Int), .int .u64 (c : Int)]).run Tryz.prog w = .ok (.tuple #[.int .u64 (((x + 18446744073709551616 - y - c) % 18446744073709551616 : Nat) : Int), .int .u64 ((if x < y + c then 1 else 0 : Nat) : Int)]) w := by
    rcases hc with h | h
    · have : c = 0 := by omega
      subst this; rfl
    · have : c = 1 := by omega
      subst this; rfl
  refine ⟨.tuple #[.int .u64 (((x + 18446744073709551616 - y - c) % 18446744073709551616 : Nat) : Int), .int .u64 ((if x < y + c then 1 else 0 : Nat) : Int)], ?_, fun ρ => ?_⟩
  · rw [run_callFunc_extern Tryz.func173 (by kernel_rfl) (by kernel_rfl) (by kernel_rfl) (e := sub64E) (by kernel_rfl), h1]
    rfl
  · have e1 : rops.ext3 x y c = (((x + 18446744073709551616 - y - c) % 18446744073709551616 : Nat) : Int) := by
      show ((x : Int) - y - c) % 18446744073709551616 = _
      omega
    have e2 : rops.ext4 x y c = ((if x < y + c then 1 else 0 : Nat) : Int) := by
      show (if (x : Int) < y + c then (1 : Int) else 0) = _
      split <;> split <;> omega
    rw [e1, e2]
    simp only [VV, VVs]
    refine ⟨[_, _], rfl, _, _, rfl, ⟨?_, rfl⟩, _, _, rfl, ⟨?_, rfl⟩, rfl⟩
    · exact u64_inK (by omega)
    · exact u64_inK (by split <;> omega)


theorem p_power : SpecOk Tryz.prog globs 86 (mkSpec real [.int .i64] (s_power rops)) := by
  have hfns : FnsOk Tryz.prog globs [] := fnsNil
  refine spec0 hfns (by kernel_rfl) Tryz.func86 (by kernel_rfl) (by kernel_rfl) (by kernel_rfl) 4 _ _ (.wide) ?_
  clear hfns
  generalize hEE : env0 [] = EE
  intro l r hl hr
  simp only [Forms, Form] at hl
  obtain ⟨_, _, rfl, ⟨x1, rfl, x1lo, x1hi⟩, rfl⟩ := hl
  subst hEE
  generalize hK : kR (.wide) r = K
  generalize hO : real = O
  set_option maxRecDepth 100000 in cbv
  subst hO hK 
  simp only [s_power, R.Y] at hr
  subst hr
  try dsimp only [real, rops]
  rw [i64_min] at x1lo
  rw [i64_max] at x1hi
  repeat' (first | apply And.intro | (refine imp_f fun _ => ?_) | (refine imp_t fun _ => ?_))
  all_goals simp only [c_eql_t, c_eql_f, c_neq_t, c_neq_f, c_lss_t, c_lss_f, c_leq_t, c_leq_f, c_gtr_t, c_gtr_f, c_geq_t, c_geq_f] at *
  all_goals (try simp only [kR, canon, canons, ekEq, numE, getW, getWord, allInts8, asInt, isK, kindEq, isArgB, strOf, cBig, cInts, cWords, allInts, allWords, r_ofLimbs, r_mkWord, Option.some.injEq, LV.wide.injEq, LV.word.injEq, LV.int.injEq, LV.bool.injEq, LV.str.injEq, LV.big.injEq, LV.tup.injEq, LV.agg.injEq, List.cons.injEq, and_true, true_and])
  all_goals first
    | (rw [rem64 (by assumption)]; omega)
    | (rw [quo64 (by assumption) x1hi]; omega)
    | (rw [ofLimbs_0]; unfold wPower; rw [if_neg (by omega)])
    | (have hn0 : 0 ≤ x1 := by assumption
       have hn5 : x1 < 512 := by assumption
       simp only [quo64 hn0 x1hi, rem64 hn0, Int.ofNat_eq_natCast] at *
       rw [shl_one (by omega)]
       refine ofLimbs_eq ?_ ?_ ?_ ?_ ?_ ?_ ?_ ?_ <;> rw [power_limb ⟨hn0, hn5⟩] <;> first | (rw [if_pos (by omega)]) | (rw [if_neg (by omega)]))
theorem p_at : SpecOk Tryz.prog globs 131 (mkSpec real [.wide, .int .i64, .int .u64] (s_at rops)) := by
  have hfns : FnsOk Tryz.prog globs [] := fnsNil
  refine spec0 hfns (by kernel_rfl) Tryz.func131 (by kernel_rfl) (by kernel_rfl) (by kernel_rfl) 4 _ _ (.int .u64) ?_
  clear hfns
  generalize hEE : env0 [] = EE
  intro l r hl hr
  simp only [Forms, Form] at hl
  obtain ⟨_, _, rfl, ⟨x1, rfl⟩, _, _, rfl, ⟨x2, rfl, x2lo, x2hi⟩, _, _, rfl, ⟨x3, rfl, x3lo, x3hi⟩, rfl⟩ := hl
  subst hEE
  generalize hK : kR (.int .u64) r = K
  generalize hO : real = O
  set_option maxRecDepth 100000 in cbv
  subst hO hK 
  simp only [s_at, R.Y] at hr
  subst hr
  try dsimp only [real, rops]
  repeat' (first | apply And.intro | (refine imp_f fun _ => ?_) | (refine imp_t fun _ => ?_))
  all_goals simp only [c_eql_t, c_eql_f, c_neq_t, c_neq_f, c_lss_t, c_lss_f, c_leq_t, c_leq_f, c_gtr_t, c_gtr_f, c_geq_t, c_geq_f] at *
  all_goals (try simp only [kR, canon, canons, ekEq, numE, getW, getWord, allInts8, asInt, isK, kindEq, isArgB, strOf, cBig, cInts, cWords, allInts, allWords, r_ofLimbs, r_mkWord, Option.some.injEq, LV.wide.injEq, LV.word.injEq, LV.int.injEq, LV.bool.injEq, LV.str.injEq, LV.big.injEq, LV.tup.injEq, LV.agg.injEq, List.cons.injEq, and_true, true_and])
  all_goals (try (unfold wAt))
  all_goals first
    | omega
    | (rw [if_pos (by omega)])
    | (rw [if_neg (by omega), if_pos (by omega)])
    | (rw [if_neg (by omega), if_neg (by omega)]; congr 1; simp only [Int.ofNat_eq_natCast] at *; omega)
theorem p_limbAdd : SpecOk Tryz.prog globs 171 (mkSpec real [.int .u64, .int .u64, .int .u64] (s_limbAdd rops)) := by
  have hfns : FnsOk Tryz.prog globs [(174, inlF Tryz.f174), (191, .ext (mkSpec real [.int .u64, .int .u64, .int .u64] (s_Add64 rops)))] := (fnsCons (inl_ok Tryz.func174 (by kernel_rfl) (by kernel_rfl)) (fnsCons (fnExt x_Add64) fnsNil))
  refine spec0 hfns (by kernel_rfl) Tryz.func171 (by kernel_rfl) (by kernel_rfl) (by kernel_rfl) 4 _ _ (.tup [.int .u64, .int .u64]) ?_
  clear hfns
  generalize hEE : env0 [(174, inlF Tryz.f174), (191, .ext (mkSpec real [.int .u64, .int .u64, .int .u64] (s_Add64 rops)))] = EE
  intro l r hl hr
  simp only [Forms, Form] at hl
  obtain ⟨_, _, rfl, ⟨x1, rfl, x1lo, x1hi⟩, _, _, rfl, ⟨x2, rfl, x2lo, x2hi⟩, _, _, rfl, ⟨x3, rfl, x3lo, x3hi⟩, rfl⟩ := hl
  subst hEE
  generalize hK : kR (.tup [.int .u64, .int .u64]) r = K
  generalize hO : real = O
  generalize hS0 : rops = S0
  set_option maxRecDepth 100000 in cbv
  subst hO hK hS0
  simp only [s_limbAdd, R.Y] at hr
  subst hr
  try dsimp only [real, rops]
  repeat' (first | apply And.intro | (refine imp_f fun _ => ?_) | (refine imp_t fun _ => ?_))
  all_goals simp only [c_eql_t, c_eql_f, c_neq_t, c_neq_f, c_lss_t, c_lss_f, c_leq_t, c_leq_f, c_gtr_t, c_gtr_f, c_geq_t, c_geq_f] at *
  all_goals (try simp only [kR, canon, canons, ekEq, numE, getW, getWord, allInts8, asInt, isK, kindEq, isArgB, strOf, cBig, cInts, cWords, allInts, allWords, r_ofLimbs, r_mkWord, Option.some.injEq, LV.wide.injEq, LV.word.injEq, LV.int.injEq, LV.bool.injEq, LV.str.injEq, LV.big.injEq, LV.tup.injEq, LV.agg.injEq, List.cons.injEq, and_true, true_and])
  all_goals first | exact .inr trivial | exact .inl trivial | (unfold lSum lCar one1; simp [*])
theorem p_limbSub : SpecOk Tryz.prog globs 135 (mkSpec real [.int .u64, .int .u64, .int .u64] (s_limbSub rops)) := by
  have hfns : FnsOk Tryz.prog globs [(174, inlF Tryz.f174), (173, .ext (mkSpec real [.int .u64, .int .u64, .int .u64] (s_Sub64 rops)))] := (fnsCons (inl_ok Tryz.func174 (by kernel_rfl) (by kernel_rfl)) (fnsCons (fnExt x_Sub64) fnsNil))
  refine spec0 hfns (by kernel_rfl) Tryz.func135 (by kernel_rfl) (by kernel_rfl) (by kernel_rfl) 4 _ _ (.tup [.int .u64, .int .u64]) ?_
  clear hfns
  generalize hEE : env0 [(174, inlF Tryz.f174), (173, .ext (mkSpec real [.int .u64, .int .u64, .int .u64] (s_Sub64 rops)))] = EE
  intro l r hl hr
  simp only [Forms, Form] at hl
  obtain ⟨_, _, rfl, ⟨x1, rfl, x1lo, x1hi⟩, _, _, rfl, ⟨x2, rfl, x2lo, x2hi⟩, _, _, rfl, ⟨x3, rfl, x3lo, x3hi⟩, rfl⟩ := hl
  subst hEE
  generalize hK : kR (.tup [.int .u64, .int .u64]) r = K
  generalize hO : real = O
  generalize hS0 : rops = S0
  set_option maxRecDepth 100000 in cbv
  subst hO hK hS0
  simp only [s_limbSub, R.Y] at hr
  subst hr
  try dsimp only [real, rops]
  repeat' (first | apply And.intro | (refine imp_f fun _ => ?_) | (refine imp_t fun _ => ?_))
  all_goals simp only [c_eql_t, c_eql_f, c_neq_t, c_neq_f, c_lss_t, c_lss_f, c_leq_t, c_leq_f, c_gtr_t, c_gtr_f, c_geq_t, c_geq_f] at *
  all_goals (try simp only [kR, canon, canons, ekEq, numE, getW, getWord, allInts8, asInt, isK, kindEq, isArgB, strOf, cBig, cInts, cWords, allInts, allWords, r_ofLimbs, r_mkWord, Option.some.injEq, LV.wide.injEq, LV.word.injEq, LV.int.injEq, LV.bool.injEq, LV.str.injEq, LV.big.injEq, LV.tup.injEq, LV.agg.injEq, List.cons.injEq, and_true, true_and])
  all_goals first | exact .inr trivial | exact .inl trivial | (unfold lDif lBor one1; simp [*])
theorem p_wAdd : SpecOk Tryz.prog globs 124 (mkSpec real [.wide, .wide] (s_wAdd rops)) := by
  have hfns : FnsOk Tryz.prog globs [(134, inlF Tryz.f134), (171, .spec (mkSpec real [.int .u64, .int .u64, .int .u64] (s_limbAdd rops)))] := (fnsCons (inl_ok Tryz.func134 (by kernel_rfl) (by kernel_rfl)) (fnsCons (fnSpec (p_limbAdd)) fnsNil))
  refine spec0 hfns (by kernel_rfl) Tryz.func124 (by kernel_rfl) (by kernel_rfl) (by kernel_rfl) 4 _ _ (.tup [.wide, .bool]) ?_
  clear hfns
  generalize hEE : env0 [(134, inlF Tryz.f134), (171, .spec (mkSpec real [.int .u64, .int .u64, .int .u64] (s_limbAdd rops)))] = EE
  intro l r hl hr
  simp only [Forms, Form] at hl
  obtain ⟨_, _, rfl, ⟨x1, rfl⟩, _, _, rfl, ⟨x2, rfl⟩, rfl⟩ := hl
  subst hEE
  generalize hK : kR (.tup [.wide, .bool]) r = K
  generalize hO : real = O
  generalize hS0 : rops = S0
  set_option maxRecDepth 100000 in cbv
  subst hO hK hS0
  simp only [s_wAdd, R.Y] at hr
  subst hr
  try dsimp only [real, rops]
  simp only [kR, canon, canons, ekEq, numE, getW, getWord, allInts8, asInt, isK, kindEq, isArgB, strOf, cBig, cInts, cWords, allInts, allWords, r_ofLimbs, r_mkWord, Option.some.injEq, LV.wide.injEq, LV.word.injEq, LV.int.injEq, LV.bool.injEq, LV.str.injEq, LV.big.injEq, LV.tup.injEq, LV.agg.injEq, List.cons.injEq, and_true, true_and]
  exact add_all x1 x2
theorem p_wSub : SpecOk Tryz.prog globs 85 (mkSpec real [.wide, .wide] (s_wSub rops)) := by
  have hfns : FnsOk Tryz.prog globs [(134, inlF Tryz.f134), (135, .spec (mkSpec real [.int .u64, .int .u64, .int .u64] (s_limbSub rops)))] := (fnsCons (inl_ok Tryz.func134 (by kernel_rfl) (by kernel_rfl)) (fnsCons (fnSpec (p_limbSub)) fnsNil))
  refine spec0 hfns (by kernel_rfl) Tryz.func85 (by kernel_rfl) (by kernel_rfl) (by kernel_rfl) 4 _ _ (.tup [.wide, .bool]) ?_
  clear hfns
  generalize hEE : env0 [(134, inlF Tryz.f134), (135, .spec (mkSpec real [.int .u64, .int .u64, .int .u64] (s_limbSub rops)))] = EE
  intro l r hl hr
  simp only [Forms, Form] at hl
  obtain ⟨_, _, rfl, ⟨x1, rfl⟩, _, _, rfl, ⟨x2, rfl⟩, rfl⟩ := hl
  subst hEE
  generalize hK : kR (.tup [.wide, .bool]) r = K
  generalize hO : real = O
  generalize hS0 : rops = S0
  set_option maxRecDepth 100000 in cbv
  subst hO hK hS0
  simp only [s_wSub, R.Y] at hr
  subst hr
  try dsimp only [real, rops]
  simp only [kR, canon, canons, ekEq, numE, getW, getWord, allInts8, asInt, isK, kindEq, isArgB, strOf, cBig, cInts, cWords, allInts, allWords, r_ofLimbs, r_mkWord, Option.some.injEq, LV.wide.injEq, LV.word.injEq, LV.int.injEq, LV.bool.injEq, LV.str.injEq, LV.big.injEq, LV.tup.injEq, LV.agg.injEq, List.cons.injEq, and_true, true_and]
  exact sub_all x1 x2
theorem p_low : SpecOk Tryz.prog globs 133 (mkSpec real [.wide] (s_low rops)) := by
  have hfns : FnsOk Tryz.prog globs [] := fnsNil
  refine spec0 hfns (by kernel_rfl) Tryz.func133 (by kernel_rfl) (by kernel_rfl) (by kernel_rfl) 4 _ _ (.word) ?_
  clear hfns
  generalize hEE : env0 [] = EE
  intro l r hl hr
  simp only [Forms, Form] at hl
  obtain ⟨_, _, rfl, ⟨x1, rfl⟩, rfl⟩ := hl
  subst hEE
  generalize hK : kR (.word) r = K
  generalize hO : real = O
  set_option maxRecDepth 100000 in cbv
  subst hO hK 
  simp only [s_low, R.Y] at hr
  subst hr
  try dsimp only [real, rops]
  simp only [kR, canon, canons, ekEq, numE, getW, getWord, allInts8, asInt, isK, kindEq, isArgB, strOf, cBig, cInts, cWords, allInts, allWords, r_ofLimbs, r_mkWord, Option.some.injEq, LV.wide.injEq, LV.word.injEq, LV.int.injEq, LV.bool.injEq, LV.str.injEq, LV.big.injEq, LV.tup.injEq, LV.agg.injEq, List.cons.injEq, and_true, true_and]
end Go.LE