/- The law LimbSums returns true for every input, and leaves its arguments as they were. No condition. -/
import Derived.Test.YtbbggnihogcjcaaL0r
set_option linter.unusedVariables false
set_option linter.unusedSimpArgs false
namespace Go.Proofs.Ytbbggnihogcjcaa.fnLimbSums
open Go Go.LE Go.ChangeShapes Go.WideShapes Go.ChangeAt Go.RowKit
set_option maxRecDepth 100000 in
theorem contract (H : Type) (enc : TypeId × Value → H) (W : World) (base : Nat) (args : Array Value) (ds gs : List (DataW H)) (before : List MemPlace)
    (hval : ∀ (j : Nat) t v, Try.f4.params[j]? = some t → args[j]? = some v → Value.okWide Try.prog W .any base t v)
    (hW : DataW.Whole enc Try.prog Try.f4.params.toList Rows.limbSumsSpec.vars false W args.toList ds gs before) (hL : laidMetH Try.prog Rows.limbSumsRow.laid W) (hw : (DataW.weightsEach Try.prog (Try.f4.params.toList ++ ((OpenSpec.ofChange Rows.limbSumsSpec).bare.plain).varTypes Try.prog) (ds ++ gs)).all (· ≤ reachBytes) = true) :
    Calls Try.prog 4 args W fun e W' => ∃ v, e = .returned v ∧ Rows.limbSumsSpec.post enc Try.prog Try.f4 false true false false W args v W' := by
  obtain ⟨p, q, hA, hV, _, _, _⟩ := id hW
  have hT : TyAll Try.prog [.slice (.int .u64), .slice (.int .u64)] Try.f4.params.toList := ⟨tyChk_ok _ _ (by kernel_rfl), rfl, tyChk_ok _ _ (by kernel_rfl), rfl, trivial⟩
  obtain ⟨rfl, rfl⟩ := trodVars_none hV
  have hw2 : (DataW.weightsEach Try.prog Try.f4.params.toList ds).all (· ≤ reachBytes) = true := by
    have e : ((OpenSpec.ofChange Rows.limbSumsSpec).bare.plain).varTypes Try.prog = [] := rfl
    rw [e, List.append_nil, List.append_nil] at hw
    exact hw
  have hc := law_calls (ats := [.ints .u64, .ints .u64]) LE.p_LimbSums (fun _ _ => rfl) (by decide) hT hA (fun j t v h1 h2 => hval j t v (by simpa using h1) (by simpa using h2)) (by kernel_rfl) hw2 (globs_at hL)
  rw [Array.toArray_toList] at hc
  exact hc.mono fun e W' ⟨he, hb⟩ => ⟨_, he, law_post (by kernel_rfl) (by kernel_rfl) rfl (t := 4) (by kernel_rfl) (by kernel_rfl) (fun l hl => by
    match l, hl with
    | [_, _], _ => rfl) hW hb⟩
noncomputable def laidWorld (os : Os) : World :=
  { World.holding Try.prog os ⟨#[], #[], []⟩ with heap := (World.holding Try.prog os ⟨#[], #[], []⟩).heap }
theorem laid_met (os : Os) : laidMet Try.prog Rows.limbSumsRow.laid ((laidWorld os).forCall (fun _ _ => 0) ⟨#[], #[(.slice none 0 0), (.slice none 0 0)], []⟩).memory :=
  laidMet_of_run' 8 (by kernel_rfl) (by kernel_rfl)
theorem reads (os : Os) {H : Type} (enc : TypeId × Value → H) : ∃ places, DataW.whole enc Try.prog ((laidWorld os).forCall (fun _ _ => 0) ⟨#[], #[(.slice none 0 0), (.slice none 0 0)], []⟩).memory Try.f4.params.toList Rows.limbSumsSpec.vars false (#[(.slice none 0 0), (.slice none 0 0)] : Array Value).toList 8 = some ([.nil, .nil], [], places) :=
  ⟨[], by kernel_rfl⟩
set_option maxRecDepth 100000 in
theorem lifted (os : Os) (started : os.Started) (H : Type) (enc : TypeId × Value → H) (F : Stop.Interp) :
    ReturnsInHanded {} Try.checked os 4 .any ((OpenSpec.ofChange Rows.limbSumsSpec).preRow enc Try.prog Try.f4 Rows.limbSumsRow.domain false Rows.limbSumsRow.laid) (((OpenSpec.ofChange Rows.limbSumsSpec).at F).post enc Try.prog Try.f4 false true false false) := by
  obtain ⟨places, hx⟩ := reads os enc
  refine returnsInHanded_of_row (C := Try.checked) (s := OpenSpec.ofChange Rows.limbSumsSpec) own started (by kernel_rfl) Try.func4
    (witness_row_at (enc := enc) (C := Try.checked) false (laidWorld os) #[(.slice none 0 0), (.slice none 0 0)] rfl (by kernel_rfl) (by kernel_rfl) (by kernel_rfl)
      (OpenSpec.preRow_of_cond 8 hx (by kernel_rfl) (fun k hk => by cases hk) (by kernel_rfl) (laid_met os))) ?_
  intro W base args ds gs before hval hW _ _ hw hL _ _
  exact contract H enc W base args ds gs before hval hW hL hw
theorem said : Rows.LimbSumsSaid :=
  OpenClaim.holds_of_cond 4 Try.f4 rfl rfl rfl rfl rfl rfl rfl ⟨rfl, rfl, rfl, rfl, rfl⟩ rfl rfl rfl rfl rfl (by kernel_rfl) Try.func4 (by kernel_rfl)
    (of_decide_eq_true (by kernel_rfl)) (by unfold Func.isWrapper; first | (rw [if_pos (by decide +kernel)]; kernel_rfl) | (rw [if_neg (by decide +kernel)]; exact ⟨rfl, rfl⟩))
    (fun os started H enc _ F => by rw [OpenClaim.pre_eq_preRow]; exact lifted os started H enc F)
end Go.Proofs.Ytbbggnihogcjcaa.fnLimbSums
namespace Go.Proofs.Ytbbggnihogcjcaa
theorem limbSums_said : Rows.LimbSumsSaid := fnLimbSums.said
end Go.Proofs.Ytbbggnihogcjcaa