/- The law TopSelf returns true for every input, and leaves its arguments as they were. Condition: the package's tables of formats and of the engines' names hold what their initialisers lay (tied to the program's text by the card). -/
import Derived.Test.YtnanihpaifaceaaGreatDoorL0u
import Derived.Test.YtnanihpaifaceaaGreatDoorW70
set_option linter.unusedVariables false
set_option linter.unusedSimpArgs false
namespace Go.Proofs.YtnanihpaifaceaaGreatDoor.fnTopSelf
open Go Go.LE Go.ChangeShapes Go.WideShapes Go.ChangeAt Go.RowKit
set_option maxRecDepth 100000 in
theorem contract (H : Type) (enc : TypeId × Value → H) (W : World) (base : Nat) (args : Array Value) (ds gs : List (DataW H)) (before : List MemPlace)
    (hval : ∀ (j : Nat) t v, Tryz.f5.params[j]? = some t → args[j]? = some v → Value.okWide Tryz.prog W .any base t v)
    (hW : DataW.Whole enc Tryz.prog Tryz.f5.params.toList Rows.topSelfSpec.vars false W args.toList ds gs before) (hL : laidMetH Tryz.prog Rows.topSelfRow.laid W) (hw : (DataW.weightsEach Tryz.prog (Tryz.f5.params.toList ++ ((OpenSpec.ofChange Rows.topSelfSpec).bare.plain).varTypes Tryz.prog) (ds ++ gs)).all (· ≤ reachBytes) = true) :
    Calls Tryz.prog 5 args W fun e W' => ∃ v, e = .returned v ∧ Rows.topSelfSpec.post enc Tryz.prog Tryz.f5 false true false false W args v W' := by
  obtain ⟨p, q, hA, hV, _, _, _⟩ := id hW
  have hT : TyAll Tryz.prog [.arr 2 (.int .i64), .struct [.int .u64, .int .u64]] Tryz.f5.params.toList := ⟨tyChk_ok _ _ (by kernel_rfl), rfl, tyChk_ok _ _ (by kernel_rfl), rfl, trivial⟩
  obtain ⟨rfl, rfl⟩ := trodVars_none hV
  have hw2 : (DataW.weightsEach Tryz.prog Tryz.f5.params.toList ds).all (· ≤ reachBytes) = true := by
    have e : ((OpenSpec.ofChange Rows.topSelfSpec).bare.plain).varTypes Tryz.prog = [] := rfl
    rw [e, List.append_nil, List.append_nil] at hw
    exact hw
  have hc := law_calls (ats := [.st [.int .i64, .int .i64], .word]) LE.p_TopSelf (fun _ _ => rfl) (by decide) hT hA (fun j t v h1 h2 => hval j t v (by simpa using h1) (by simpa using h2)) (by kernel_rfl) hw2 (globs_at hL)
  rw [Array.toArray_toList] at hc
  exact hc.mono fun e W' ⟨he, hb⟩ => ⟨_, he, law_post (by kernel_rfl) (by kernel_rfl) rfl (t := 4) (by kernel_rfl) (by kernel_rfl) (fun l hl => by
    match l, hl with
    | [_, _], _ => rfl) hW hb⟩
noncomputable def laidWorld (os : Os) : World :=
  { World.holding Tryz.prog os ⟨#[], #[], []⟩ with heap := (((((((World.holding Tryz.prog os ⟨#[], #[], []⟩).heap).modify 1 fun | .cells _ t frozen => .cells #[(.string ⟨#[]⟩), (.int .i64 0), (.int .i64 0), (.int .i64 0), (.string ⟨#[98, 105, 110, 97, 114, 121, 49, 54]⟩), (.int .i64 16), (.int .i64 11), (.int .i64 5), (.string ⟨#[98, 105, 110, 97, 114, 121, 51, 50]⟩), (.int .i64 32), (.int .i64 24), (.int .i64 8), (.string ⟨#[98, 105, 110, 97, 114, 121, 54, 52]⟩), (.int .i64 64), (.int .i64 53), (.int .i64 11), (.string ⟨#[98, 105, 110, 97, 114, 121, 49, 50, 56]⟩), (.int .i64 128), (.int .i64 113), (.int .i64 15)] t frozen | o => o).modify 0 fun | .cells _ t frozen => .cells #[(.string ⟨#[]⟩), (.string ⟨#[114, 101, 115, 116, 111, 114, 105, 110, 103]⟩), (.string ⟨#[115, 114, 116]⟩), (.string ⟨#[110, 101, 119, 116, 111, 110]⟩), (.string ⟨#[103, 111, 108, 100]⟩)] t frozen | o => o).modify 1 fun | .cells _ t frozen => .cells #[(.string ⟨#[]⟩), (.int .i64 0), (.int .i64 0), (.int .i64 0), (.string ⟨#[98, 105, 110, 97, 114, 121, 49, 54]⟩), (.int .i64 16), (.int .i64 11), (.int .i64 5), (.string ⟨#[98, 105, 110, 97, 114, 121, 51, 50]⟩), (.int .i64 32), (.int .i64 24), (.int .i64 8), (.string ⟨#[98, 105, 110, 97, 114, 121, 54, 52]⟩), (.int .i64 64), (.int .i64 53), (.int .i64 11), (.string ⟨#[98, 105, 110, 97, 114, 121, 49, 50, 56]⟩), (.int .i64 128), (.int .i64 113), (.int .i64 15)] t frozen | o => o).modify 0 fun | .cells _ t frozen => .cells #[(.string ⟨#[]⟩), (.string ⟨#[114, 101, 115, 116, 111, 114, 105, 110, 103]⟩), (.string ⟨#[115, 114, 116]⟩), (.string ⟨#[110, 101, 119, 116, 111, 110]⟩), (.string ⟨#[103, 111, 108, 100]⟩)] t frozen | o => o).modify 1 fun | .cells _ t frozen => .cells #[(.string ⟨#[]⟩), (.int .i64 0), (.int .i64 0), (.int .i64 0), (.string ⟨#[98, 105, 110, 97, 114, 121, 49, 54]⟩), (.int .i64 16), (.int .i64 11), (.int .i64 5), (.string ⟨#[98, 105, 110, 97, 114, 121, 51, 50]⟩), (.int .i64 32), (.int .i64 24), (.int .i64 8), (.string ⟨#[98, 105, 110, 97, 114, 121, 54, 52]⟩), (.int .i64 64), (.int .i64 53), (.int .i64 11), (.string ⟨#[98, 105, 110, 97, 114, 121, 49, 50, 56]⟩), (.int .i64 128), (.int .i64 113), (.int .i64 15)] t frozen | o => o).modify 0 fun | .cells _ t frozen => .cells #[(.string ⟨#[]⟩), (.string ⟨#[114, 101, 115, 116, 111, 114, 105, 110, 103]⟩), (.string ⟨#[115, 114, 116]⟩), (.string ⟨#[110, 101, 119, 116, 111, 110]⟩), (.string ⟨#[103, 111, 108, 100]⟩)] t frozen | o => o }
theorem laid_met (os : Os) : laidMet Tryz.prog Rows.topSelfRow.laid ((laidWorld os).forCall (fun _ _ => 0) ⟨#[], #[(.agg #[(.int .i64 0), (.int .i64 0)]), (.agg #[(.int .u64 0), (.int .u64 0)])], []⟩).memory :=
  laidMet_of_run' 8 (by kernel_rfl) (by kernel_rfl)
theorem reads (os : Os) {H : Type} (enc : TypeId × Value → H) : ∃ places, DataW.whole enc Tryz.prog ((laidWorld os).forCall (fun _ _ => 0) ⟨#[], #[(.agg #[(.int .i64 0), (.int .i64 0)]), (.agg #[(.int .u64 0), (.int .u64 0)])], []⟩).memory Tryz.f5.params.toList Rows.topSelfSpec.vars false (#[(.agg #[(.int .i64 0), (.int .i64 0)]), (.agg #[(.int .u64 0), (.int .u64 0)])] : Array Value).toList 8 = some ([(.agg [(.lit (.int .i64 0)), (.lit (.int .i64 0))]), (.agg [(.lit (.int .u64 0)), (.lit (.int .u64 0))])], [], places) :=
  ⟨[], by kernel_rfl⟩
set_option maxRecDepth 100000 in
theorem lifted (os : Os) (started : os.Started) (H : Type) (enc : TypeId × Value → H) (F : Stop.Interp) :
    ReturnsInHanded {} Tryz.checked os 5 .any ((OpenSpec.ofChange Rows.topSelfSpec).preRow enc Tryz.prog Tryz.f5 Rows.topSelfRow.domain false Rows.topSelfRow.laid) (((OpenSpec.ofChange Rows.topSelfSpec).at F).post enc Tryz.prog Tryz.f5 false true false false) := by
  obtain ⟨places, hx⟩ := reads os enc
  refine returnsInHanded_of_row (C := Tryz.checked) (s := OpenSpec.ofChange Rows.topSelfSpec) own started (by kernel_rfl) Tryz.func5
    (witness_row_at (enc := enc) (C := Tryz.checked) false (laidWorld os) #[(.agg #[(.int .i64 0), (.int .i64 0)]), (.agg #[(.int .u64 0), (.int .u64 0)])] rfl (by kernel_rfl) (by kernel_rfl) (by kernel_rfl)
      (OpenSpec.preRow_of_cond 8 hx (by kernel_rfl) (fun k hk => by cases hk) (by kernel_rfl) (laid_met os))) ?_
  intro W base args ds gs before hval hW _ _ hw hL _ _
  exact contract H enc W base args ds gs before hval hW hL hw
theorem said : Rows.TopSelfSaid :=
  OpenClaim.holds_of_cond 5 Tryz.f5 rfl rfl rfl rfl rfl rfl rfl ⟨rfl, rfl, rfl, rfl, rfl⟩ rfl rfl rfl rfl rfl (by kernel_rfl) Tryz.func5 (by kernel_rfl)
    (of_decide_eq_true (by kernel_rfl)) (by unfold Func.isWrapper; first | (rw [if_pos (by decide +kernel)]; kernel_rfl) | (rw [if_neg (by decide +kernel)]; exact ⟨rfl, rfl⟩))
    (fun os started H enc _ F => by rw [OpenClaim.pre_eq_preRow]; exact lifted os started H enc F)
theorem plain (f : FuncId) (fn : Func) (hf : Tryz.pinned.checked.prog.funcNamed "radicand/radicandtop.TopSelf" = some f) (hfn : Tryz.pinned.checked.prog.funcs[f]? = some fn) :
    false = Tryz.pinned.checked.prog.looks [] ∧ ∀ (j : Nat) t, fn.params[j]? = some t → Tryz.pinned.checked.prog.wantsStandIn t = false := by
  obtain rfl : f = 5 := Option.some.inj ((show Tryz.prog.funcNamed "radicand/radicandtop.TopSelf" = some 5 by kernel_rfl).symm.trans hf) |>.symm
  obtain rfl : fn = Tryz.f5 := (Option.some.inj (Tryz.func5.symm.trans hfn)).symm
  refine ⟨by kernel_rfl, fun j t ht => ?_⟩
  have hall : (Tryz.f5.params.toList.all fun t => !Tryz.prog.wantsStandIn t) = true := by kernel_rfl
  have hm : t ∈ Tryz.f5.params.toList := by rw [Array.mem_toList_iff]; exact Array.mem_of_getElem? ht
  have h := List.all_eq_true.1 hall t hm
  rw [Bool.not_eq_true'] at h
  exact h
end Go.Proofs.YtnanihpaifaceaaGreatDoor.fnTopSelf
namespace Go.Proofs.YtnanihpaifaceaaGreatDoor
theorem topSelf_card : Rows.TopSelfCardSaid :=
  Claim7.holds_tied_plain_at .later [] _ _ _ _ fnTopSelf.said (fun _ h => by cases h) (by kernel_rfl) (fun _ h => by cases h) topSelf_row_tie rfl ⟨rfl, rfl⟩ (by kernel_rfl) rfl fnTopSelf.plain (by kernel_rfl)
end Go.Proofs.YtnanihpaifaceaaGreatDoor