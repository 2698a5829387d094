/- The law LimbShifts returns true for every input, and leaves its arguments as they were. No condition. -/
import Derived.Test.YtbbggnihogcjcaaL0r
set_option linter.unusedVariables false
set_option linter.unusedSimpArgs false
namespace Go.Proofs.Ytbbggnihogcjcaa.fnLimbShifts
open Go Go.LE Go.ChangeShapes Go.WideShapes Go.ChangeAt Go.RowKit
set_option maxRecDepth 100000 in
theorem contract (H : Type) (enc : TypeId × Value → H) (W : World) (base : Nat) (args : Array Value) (ds gs : List (DataW H)) (before : List MemPlace)
    (hval : ∀ (j : Nat) t v, Try.f3.params[j]? = some t → args[j]? = some v → Value.okWide Try.prog W .any base t v)
    (hW : DataW.Whole enc Try.prog Try.f3.params.toList Rows.limbShiftsSpec.vars false W args.toList ds gs before) (hL : laidMetH Try.prog Rows.limbShiftsRow.laid W) (hw : (DataW.weightsEach Try.prog (Try.f3.params.toList ++ ((OpenSpec.ofChange Rows.limbShiftsSpec).bare.plain).varTypes Try.prog) (ds ++ gs)).all (· ≤ reachBytes) = true) :
    Calls Try.prog 3 args W fun e W' => ∃ v, e = .returned v ∧ Rows.limbShiftsSpec.post enc Try.prog Try.f3 false true false false W args v W' := by
  obtain ⟨p, q, hA, hV, _, _, _⟩ := id hW
  have hT : TyAll Try.prog [.slice (.int .u64), .int .i64] Try.f3.params.toList := ⟨tyChk_ok _ _ (by kernel_rfl), rfl, tyChk_ok _ _ (by kernel_rfl), rfl, trivial⟩
  obtain ⟨rfl, rfl⟩ := trodVars_none hV
  have hw2 : (DataW.weightsEach Try.prog Try.f3.params.toList ds).all (· ≤ reachBytes) = true := by
    have e : ((OpenSpec.ofChange Rows.limbShiftsSpec).bare.plain).varTypes Try.prog = [] := rfl
    rw [e, List.append_nil, List.append_nil] at hw
    exact hw
  have hc := law_calls (ats := [.ints .u64, .int .i64]) LE.p_LimbShifts (fun _ _ => rfl) (by decide) hT hA (fun j t v h1 h2 => hval j t v (by simpa using h1) (by simpa using h2)) (by kernel_rfl) hw2 (globs_at hL)
  rw [Array.toArray_toList] at hc
  exact hc.mono fun e W' ⟨he, hb⟩ => ⟨_, he, law_post (by kernel_rfl) (by kernel_rfl) rfl (t := 4) (by kernel_rfl) (by kernel_rfl) (fun l hl => by
    match l, hl with
    | [_, _], _ => rfl) hW hb⟩
noncomputable def laidWorld (os : Os) : World :=
  { World.holding Try.prog os ⟨#[], #[], []⟩ with heap := (World.holding Try.prog os ⟨#[], #[], []⟩).heap }
theorem laid_met (os : Os) : laidMet Try.prog Rows.limbShiftsRow.laid ((laidWorld os).forCall (fun _ _ => 0) ⟨#[], #[(.slice none 0 0), (.int .i64 0)], []⟩).memory :=
  laidMet_of_run' 8 (by kernel_rfl) (by kernel_rfl)
theorem reads (os : Os) {H : Type} (enc : TypeId × Value → H) : ∃ places, DataW.whole enc Try.prog ((laidWorld os).forCall (fun _ _ => 0) ⟨#[], #[(.slice none 0 0), (.int .i64 0)], []⟩).memory Try.f3.params.toList Rows.limbShiftsSpec.vars false (#[(.slice none 0 0), (.int .i64 0)] : Array Value).toList 8 = some ([.nil, (.lit (.int .i64 0))], [], places) :=
  ⟨[], by kernel_rfl⟩
set_option maxRecDepth 100000 in
theorem lifted (os : Os) (started : os.Started) (H : Type) (enc : TypeId × Value → H) (F : Stop.Interp) :
    ReturnsInHanded {} Try.checked os 3 .any ((OpenSpec.ofChange Rows.limbShiftsSpec).preRow enc Try.prog Try.f3 Rows.limbShiftsRow.domain false Rows.limbShiftsRow.laid) (((OpenSpec.ofChange Rows.limbShiftsSpec).at F).post enc Try.prog Try.f3 false true false false) := by
  obtain ⟨places, hx⟩ := reads os enc
  refine returnsInHanded_of_row (C := Try.checked) (s := OpenSpec.ofChange Rows.limbShiftsSpec) own started (by kernel_rfl) Try.func3
    (witness_row_at (enc := enc) (C := Try.checked) false (laidWorld os) #[(.slice none 0 0), (.int .i64 0)] rfl (by kernel_rfl) (by kernel_rfl) (by kernel_rfl)
      (OpenSpec.preRow_of_cond 8 hx (by kernel_rfl) (fun k hk => by cases hk) (by kernel_rfl) (laid_met os))) ?_
  intro W base args ds gs before hval hW _ _ hw hL _ _
  exact contract H enc W base args ds gs before hval hW hL hw
theorem said : Rows.LimbShiftsSaid :=
  OpenClaim.holds_of_cond 3 Try.f3 rfl rfl rfl rfl rfl rfl rfl ⟨rfl, rfl, rfl, rfl, rfl⟩ rfl rfl rfl rfl rfl (by kernel_rfl) Try.func3 (by kernel_rfl)
    (of_decide_eq_true (by kernel_rfl)) (by unfold Func.isWrapper; first | (rw [if_pos (by decide +kernel)]; kernel_rfl) | (rw [if_neg (by decide +kernel)]; exact ⟨rfl, rfl⟩))
    (fun os started H enc _ F => by rw [OpenClaim.pre_eq_preRow]; exact lifted os started H enc F)
end Go.Proofs.Ytbbggnihogcjcaa.fnLimbShifts
namespace Go.Proofs.Ytbbggnihogcjcaa
theorem limbShifts_said : Rows.LimbShiftsSaid := fnLimbShifts.said
end Go.Proofs.Ytbbggnihogcjcaa