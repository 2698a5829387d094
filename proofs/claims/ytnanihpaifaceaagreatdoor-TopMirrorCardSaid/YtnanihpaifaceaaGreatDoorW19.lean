import Derived.Test.YtnanihpaifaceaaGreatDoorW18
import Derived.Test.YtnanihpaifaceaaGreatDoorLeP
set_option linter.unusedVariables false
set_option linter.unusedSimpArgs false
namespace Go.LE
open Go Go.Proofs
structure OpsM where
  fin : Int → BitVec 128 → Prop
  vNeg : Int → BitVec 128 → Bool
  vExp : Int → BitVec 128 → Int
  vSig : Int → BitVec 128 → W
  sg : Bool → Nat → Int
  sml : Nat → Prop
  okN : Nat → Int → Prop
  cmp : Bool → Nat → Int → Bool → Nat → Int → Int
  eqI : Int → Int → Prop
noncomputable def ropsM : OpsM where
  fin := fun f w => wFin f w = true
  vNeg := vNeg
  vExp := vExp
  vSig := vSig
  sg := sgN
  sml := small
  okN := okN
  cmp := cmp7
  eqI := fun a b => a = b
def s_value07 (S : OpsM) : List LV → R LV
  | [.int _ f, .word w] => .req (S.fin f w) (.ok (.agg [.bool (S.vNeg f w), .int .i64 (S.vExp f w), .wide (S.vSig f w)]))
  | _ => .fail
def s_sign07 (S : OpsM) : List LV → R LV
  | [.agg [.bool b, .big a, .int _ _]] => .req (S.sml a) (.ok (.int .i64 (S.sg b a)))
  | _ => .fail
def s_cmp07 (S : OpsM) : List LV → R LV
  | [.agg [.bool b, .big a, .int _ e], .agg [.bool c, .big d, .int _ g]] => .req (S.okN a e) (.req (S.okN d g) (.ok (.int .i64 (S.cmp b a e c d g))))
  | _ => .fail
def s_precL (f0 : Int) (S : OpsM) : List LV → R LV
  | [.int _ f] => .req (S.eqI f f0) (.ok (.lit .i64 (fPrec f0)))
  | _ => .fail
def s_eminL (f0 : Int) (S : OpsM) : List LV → R LV
  | [.int _ f] => .req (S.eqI f f0 ∧ (1 ≤ f0 ∧ f0 ≤ 4)) (.ok (.lit .i64 (1 - fEMax f0)))
  | _ => .fail
def s_value07At (f0 : Int) (S : OpsM) : List LV → R LV
  | [.int _ f, .word w] => .req (S.eqI f f0) (.req (S.fin f w) (.ok (.agg [.bool (S.vNeg f w), .int .i64 (S.vExp f w), .wide (S.vSig f w)])))
  | _ => .fail
theorem p_precL (f0 : Int) : SpecOk Tryz.prog globs 23 (mkSpec real [.int .i64] (s_precL f0 ropsM)) := by
  refine spec_as p_prec ?_
  intro l r h
  unfold s_precL at h
  split at h
  · rename_i k f
    obtain ⟨h1, rfl⟩ := h
    have h1 : f = f0 := h1
    subst h1
    exact ⟨_, rfl, same_lit _ _⟩
  · exact h.elim
end Go.LE