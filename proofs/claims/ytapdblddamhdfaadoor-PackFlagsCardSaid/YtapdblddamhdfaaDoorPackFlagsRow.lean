/- The law PackFlags returns true for every input, and leaves its arguments as they were. Condition: the package's tables of formats and of the flags' letters hold what their initialisers lay (tied to the program's text by the card). -/
import Derived.Test.YtapdblddamhdfaaDoorL0p
import Derived.Test.YtapdblddamhdfaaDoorW56
set_option linter.unusedVariables false
set_option linter.unusedSimpArgs false
namespace Go.Proofs.YtapdblddamhdfaaDoor.fnPackFlags
open Go Go.LE Go.ChangeShapes Go.WideShapes Go.ChangeAt Go.RowKit
set_option maxRecDepth 100000 in
theorem contract (H : Type) (enc : TypeId × Value → H) (W : World) (base : Nat) (args : Array Value) (ds gs : List (DataW H)) (before : List MemPlace)
    (hval : ∀ (j : Nat) t v, Tryd.f3.params[j]? = some t → args[j]? = some v → Value.okWide Tryd.prog W .any base t v)
    (hW : DataW.Whole enc Tryd.prog Tryd.f3.params.toList Rows.packFlagsSpec.vars false W args.toList ds gs before) (hL : laidMetH Tryd.prog Rows.packFlagsRow.laid W) (hw : (DataW.weightsEach Tryd.prog (Tryd.f3.params.toList ++ ((OpenSpec.ofChange Rows.packFlagsSpec).bare.plain).varTypes Tryd.prog) (ds ++ gs)).all (· ≤ reachBytes) = true) :
    Calls Tryd.prog 3 args W fun e W' => ∃ v, e = .returned v ∧ Rows.packFlagsSpec.post enc Tryd.prog Tryd.f3 false true false false W args v W' := by
  obtain ⟨p, q, hA, hV, _, _, _⟩ := id hW
  have hT : TyAll Tryd.prog [.int .i64, .str] Tryd.f3.params.toList := ⟨tyChk_ok _ _ (by kernel_rfl), rfl, tyChk_ok _ _ (by kernel_rfl), rfl, trivial⟩
  obtain ⟨rfl, rfl⟩ := trodVars_none hV
  have hw2 : (DataW.weightsEach Tryd.prog Tryd.f3.params.toList ds).all (· ≤ reachBytes) = true := by
    have e : ((OpenSpec.ofChange Rows.packFlagsSpec).bare.plain).varTypes Tryd.prog = [] := rfl
    rw [e, List.append_nil, List.append_nil] at hw
    exact hw
  have hc := law_calls (ats := [.int .i64, .str]) LE.p_PackFlags (fun _ _ => rfl) (by decide) hT hA (fun j t v h1 h2 => hval j t v (by simpa using h1) (by simpa using h2)) (by kernel_rfl) hw2 (globs_at hL)
  rw [Array.toArray_toList] at hc
  exact hc.mono fun e W' ⟨he, hb⟩ => ⟨_, he, law_post (by kernel_rfl) (by kernel_rfl) rfl (t := 4) (by kernel_rfl) (by kernel_rfl) (fun l hl => by
    match l, hl with
    | [_, _], _ => rfl) hW hb⟩
noncomputable def laidWorld (os : Os) : World :=
  { World.holding Tryd.prog os ⟨#[], #[], []⟩ with heap := (((World.holding Tryd.prog os ⟨#[], #[], []⟩).heap).modify 1 fun | .cells _ t frozen => .cells #[(.string ⟨#[]⟩), (.int .i64 0), (.int .i64 0), (.int .i64 0), (.string ⟨#[98, 105, 110, 97, 114, 121, 49, 54]⟩), (.int .i64 16), (.int .i64 11), (.int .i64 5), (.string ⟨#[98, 105, 110, 97, 114, 121, 51, 50]⟩), (.int .i64 32), (.int .i64 24), (.int .i64 8), (.string ⟨#[98, 105, 110, 97, 114, 121, 54, 52]⟩), (.int .i64 64), (.int .i64 53), (.int .i64 11), (.string ⟨#[98, 105, 110, 97, 114, 121, 49, 50, 56]⟩), (.int .i64 128), (.int .i64 113), (.int .i64 15)] t frozen | o => o).modify 0 fun | .cells _ t frozen => .cells #[(.string ⟨#[105]⟩), (.int .i64 1), (.string ⟨#[122]⟩), (.int .i64 2), (.string ⟨#[111]⟩), (.int .i64 4), (.string ⟨#[117]⟩), (.int .i64 8), (.string ⟨#[120]⟩), (.int .i64 16)] t frozen | o => o }
theorem laid_met (os : Os) : laidMet Tryd.prog Rows.packFlagsRow.laid ((laidWorld os).forCall (fun _ _ => 0) ⟨#[], #[(.int .i64 0), (.string ⟨#[]⟩)], []⟩).memory :=
  laidMet_of_run' 8 (by kernel_rfl) (by kernel_rfl)
theorem reads (os : Os) {H : Type} (enc : TypeId × Value → H) : ∃ places, DataW.whole enc Tryd.prog ((laidWorld os).forCall (fun _ _ => 0) ⟨#[], #[(.int .i64 0), (.string ⟨#[]⟩)], []⟩).memory Tryd.f3.params.toList Rows.packFlagsSpec.vars false (#[(.int .i64 0), (.string ⟨#[]⟩)] : Array Value).toList 8 = some ([(.lit (.int .i64 0)), (.lit (.string []))], [], places) :=
  ⟨[], by kernel_rfl⟩
set_option maxRecDepth 100000 in
theorem lifted (os : Os) (started : os.Started) (H : Type) (enc : TypeId × Value → H) (F : Stop.Interp) :
    ReturnsInHanded {} Tryd.checked os 3 .any ((OpenSpec.ofChange Rows.packFlagsSpec).preRow enc Tryd.prog Tryd.f3 Rows.packFlagsRow.domain false Rows.packFlagsRow.laid) (((OpenSpec.ofChange Rows.packFlagsSpec).at F).post enc Tryd.prog Tryd.f3 false true false false) := by
  obtain ⟨places, hx⟩ := reads os enc
  refine returnsInHanded_of_row (C := Tryd.checked) (s := OpenSpec.ofChange Rows.packFlagsSpec) own started (by kernel_rfl) Tryd.func3
    (witness_row_at (enc := enc) (C := Tryd.checked) false (laidWorld os) #[(.int .i64 0), (.string ⟨#[]⟩)] rfl (by kernel_rfl) (by kernel_rfl) (by kernel_rfl)
      (OpenSpec.preRow_of_cond 8 hx (by kernel_rfl) (fun k hk => by cases hk) (by kernel_rfl) (laid_met os))) ?_
  intro W base args ds gs before hval hW _ _ hw hL _ _
  exact contract H enc W base args ds gs before hval hW hL hw
theorem said : Rows.PackFlagsSaid :=
  OpenClaim.holds_of_cond 3 Tryd.f3 rfl rfl rfl rfl rfl rfl rfl ⟨rfl, rfl, rfl, rfl, rfl⟩ rfl rfl rfl rfl rfl (by kernel_rfl) Tryd.func3 (by kernel_rfl)
    (of_decide_eq_true (by kernel_rfl)) (by unfold Func.isWrapper; first | (rw [if_pos (by decide +kernel)]; kernel_rfl) | (rw [if_neg (by decide +kernel)]; exact ⟨rfl, rfl⟩))
    (fun os started H enc _ F => by rw [OpenClaim.pre_eq_preRow]; exact lifted os started H enc F)
theorem plain (f : FuncId) (fn : Func) (hf : Tryd.pinned.checked.prog.funcNamed "radicand/radicandlaw09.PackFlags" = some f) (hfn : Tryd.pinned.checked.prog.funcs[f]? = some fn) :
    false = Tryd.pinned.checked.prog.looks [] ∧ ∀ (j : Nat) t, fn.params[j]? = some t → Tryd.pinned.checked.prog.wantsStandIn t = false := by
  obtain rfl : f = 3 := Option.some.inj ((show Tryd.prog.funcNamed "radicand/radicandlaw09.PackFlags" = some 3 by kernel_rfl).symm.trans hf) |>.symm
  obtain rfl : fn = Tryd.f3 := (Option.some.inj (Tryd.func3.symm.trans hfn)).symm
  refine ⟨by kernel_rfl, fun j t ht => ?_⟩
  have hall : (Tryd.f3.params.toList.all fun t => !Tryd.prog.wantsStandIn t) = true := by kernel_rfl
  have hm : t ∈ Tryd.f3.params.toList := by rw [Array.mem_toList_iff]; exact Array.mem_of_getElem? ht
  have h := List.all_eq_true.1 hall t hm
  rw [Bool.not_eq_true'] at h
  exact h
end Go.Proofs.YtapdblddamhdfaaDoor.fnPackFlags
namespace Go.Proofs.YtapdblddamhdfaaDoor
theorem packFlags_card : Rows.PackFlagsCardSaid :=
  Claim7.holds_tied_plain_at .later [] _ _ _ _ fnPackFlags.said (fun _ h => by cases h) (by kernel_rfl) (fun _ h => by cases h) packFlags_row_tie rfl ⟨rfl, rfl⟩ (by kernel_rfl) rfl fnPackFlags.plain (by kernel_rfl)
end Go.Proofs.YtapdblddamhdfaaDoor