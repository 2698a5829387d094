import Derived.Test.YtcmicmbpcgminaaGreatDoorLeB
import Derived.KernelRfl
import Derived.ChangeArms
import Derived.OpenShut
import Derived.WideKeyArgs
import Derived.ChangeSame
import Derived.LaidLaws
import Derived.Deep.DeepHandedRow
import Derived.SevenTiedAt
import Derived.SizedLaws
set_option linter.unusedVariables false
set_option linter.unusedSimpArgs false
namespace Go.LE
open Go Go.RowKit

def toX : Ex → Exit
  | .normal => .normal
  | .exit id => .exit id
  | .ret => .ret

/-- the regions that draw, looked at ahead -/
def drawsOk : Code → Bool
  | .region _ ops true => drawStat ops.toList && drawStat (ops.toList.take (firstOwn ops.toList))
  | .seq a b => drawsOk a && drawsOk b
  | .cond _ a b => drawsOk a && drawsOk b
  | .block _ c => drawsOk c
  | .loop c => drawsOk c
  | .scope c => drawsOk c
  | _ => true

structure Post (E : Env) (ρ : Nat → Option Nat) (w : World) (next : Nat) (st' : St) (ρ' : Nat → Option Nat) (a' : Act) (w' : World) : Prop where
  st : StR E.globs ρ' st' a' w'
  adv : AdvW ρ w ρ' w'
  le : next ≤ st'.next
  low : ∀ k, k < next → ρ' (k + 1) = ρ (k + 1)
theorem Post.trans {E : Env} {ρ ρ1 ρ2 : Nat → Option Nat} {w w1 w2 : World} {n : Nat} {s1 s2 : St} {a1 a2 : Act} (h : Post E ρ w n s1 ρ1 a1 w1) (k : Post E ρ1 w1 s1.next s2 ρ2 a2 w2) : Post E ρ w n s2 ρ2 a2 w2 :=
  ⟨k.st, h.adv.trans k.adv, Nat.le_trans h.le k.le, fun j hj => by rw [k.low j (Nat.lt_of_lt_of_le hj h.le), h.low j hj]⟩
theorem Post.refl {E : Env} {ρ : Nat → Option Nat} {w : World} {st : St} {a : Act} (h : StR E.globs ρ st a w) : Post E ρ w st.next st ρ a w := ⟨h, AdvW.refl _ _, Nat.le_refl _, fun _ _ => rfl⟩

theorem firstOwn_le : ∀ (l : List Oper), firstOwn l ≤ l.length
  | [] => Nat.le_refl _
  | o :: os => by
    unfold firstOwn
    split
    · omega
    · have := firstOwn_le os; simp; omega
theorem nthO_get : ∀ (l : List Oper) (n : Nat), nthO l n = l[n]?
  | [], n => by simp [nthO]
  | o :: l, 0 => rfl
  | o :: l, n + 1 => by simp [nthO, nthO_get l n]
theorem covG_ok {ops : List Oper} {D : Nat → Bool} (hcl : ∀ (i : Nat) o', D i = true → ops[i]? = some o' → ∀ e ∈ edgesOf o', D e = true) : ∀ (n : Nat) (S : List Nat), covG ops S n = true → (∀ e ∈ S, D e = true) → ∀ i, i < n → D i = true
  | 0, _, _, _, i, h => by omega
  | n + 1, S, h, hS, i, hi => by
    simp only [covG, Bool.and_eq_true] at h
    obtain ⟨h1, h2⟩ := h
    have hn := hS n ((mem_iff _ _).1 h1)
    split at h2
    · rename_i o ho
      rw [nthO_get] at ho
      by_cases e : i = n
      · subst e; exact hn
      · exact covG_ok hcl n _ h2 (fun e he => by
          rcases List.mem_append.1 he with he | he
          · exact hcl n o hn ho e he
          · exact hS e he) i (by omega)
    · cases h2
theorem covAll_at (ops : List Oper) : ∀ (n j : Nat), covAll ops n j = true → ∀ j', j ≤ j' → j' < j + n → ∀ o, ops[j']? = some o → covG ops (edgesOf o) j' = true
  | 0, j, _, j', h1, h2, _, _ => by omega
  | n + 1, j, h, j', h1, h2, o, ho => by
    simp only [covAll, Bool.and_eq_true] at h
    by_cases e : j' = j
    · subst e
      have := h.1
      rw [nthO_get, ho] at this
      exact this
    · exact covAll_at ops n (j + 1) h.2 j' (by omega) (by omega) o ho
theorem wrOk_none {base : Nat} : ∀ (l : List LogE), wrOk none base l = true
  | [] => rfl
  | x :: l => by simp [wrOk, wrOk_none l]
section
variable {P : Program} {E : Env}

theorem loop_sound {c : Code} {body : (Ex → St → Prop) → St → Prop} (hb : ∀ (K : Ex → St → Prop) (st : St) (a : Act) (w : World) (ρ : Nat → Option Nat) (Q : Exit → Act → World → Prop), StR E.globs ρ st a w → body K st →
      (∀ e st' ρ' a' w', K e st' → Post E ρ w st.next st' ρ' a' w' → Q (toX e) a' w') → c.wp P Q a w) :
    ∀ (n : Nat) (K : Ex → St → Prop) (st : St) (a : Act) (w : World) (ρ : Nat → Option Nat) (Q : Exit → Act → World → Prop), StR E.globs ρ st a w → loopW body K n st →
      (∀ e st' ρ' a' w', K e st' → Post E ρ w st.next st' ρ' a' w' → Q (toX e) a' w') → Code.rounds P c Q n a w
  | 0, _, _, _, _, _, _, _, h, _ => h.elim
  | n + 1, K, st, a, w, ρ, Q, hs, h, hQ => by
    simp only [loopW] at h
    rw [rounds_succ]
    refine hb _ st a w ρ _ hs h fun e st' ρ' a' w' hk hp => ?_
    cases e with
    | normal => exact loop_sound hb n K st' a' w' ρ' Q hp.st hk fun e2 st2 ρ2 a2 w2 hk2 hp2 => hQ e2 st2 ρ2 a2 w2 hk2 (hp.trans hp2)
    | exit id => exact hQ _ st' ρ' a' w' hk hp
    | ret => exact hQ _ st' ρ' a' w' hk hp

theorem code_sound (hE : EnvFull P E) {call : CallW} (hc : CallOk P E.globs call) : ∀ (c : Code) (_ : drawsOk c = true) (cur : Nat) (K : Ex → St → Prop) (st : St) (a : Act) (w : World) (ρ : Nat → Option Nat) (Q : Exit → Act → World → Prop), StR E.globs ρ st a w →
    codeW real E call cur c K st → (∀ e st' ρ' a' w', K e st' → Post E ρ w st.next st' ρ' a' w' → Q (toX e) a' w') → c.wp P Q a w
  | .skip, _, cur, K, st, a, w, ρ, Q, hs, h, hQ => by
    simp only [codeW] at h
    exact wp_skip (hQ .normal st ρ a w h (.refl hs))
  | .ret, _, cur, K, st, a, w, ρ, Q, hs, h, hQ => by
    simp only [codeW] at h
    exact wp_ret (hQ .ret st ρ a w h (.refl hs))
  | .exit id, _, cur, K, st, a, w, ρ, Q, hs, h, hQ => by
    simp only [codeW] at h
    exact wp_exit (hQ (.exit id) st ρ a w h (.refl hs))
  | .seq x y, hd, cur, K, st, a, w, ρ, Q, hs, h, hQ => by
    simp only [codeW] at h
    simp only [drawsOk, Bool.and_eq_true] at hd
    refine wp_seq (code_sound hE hc x hd.1 cur _ st a w ρ _ hs h fun e st' ρ' a' w' hk hp => ?_)
    cases e with
    | normal => exact code_sound hE hc y hd.2 cur K st' a' w' ρ' Q hp.st hk fun e2 st2 ρ2 a2 w2 hk2 hp2 => hQ e2 st2 ρ2 a2 w2 hk2 (hp.trans hp2)
    | exit id => exact hQ _ st' ρ' a' w' hk hp
    | ret => exact hQ _ st' ρ' a' w' hk hp
  | .region id ops false, _, cur, K, st, a, w, ρ, Q, hs, h, hQ => by
    simp only [codeW] at h
    refine wp_region_list (opsW_sound hE hc (base := st.next) ops.toList 0 ⟨st.tmps, st.bx, st.next + ops.toList.length⟩ [] _ a w ρ ⟨hs.tmps, hs.defers, hs.bx, fun k hk => hs.free k (by simp only at hk; omega), hs.gr⟩ (by simp) (.inl fun k hk => hs.free k hk) h ?_)
    intro st' log' ρ' a' w' hk hst hadv hle hlow
    exact hQ .normal st' ρ' a' w' hk ⟨hst, hadv, by simp only at hle; omega, hlow⟩
  | .region id ops true, hd, cur, K, st, a, w, ρ, Q, hs, h, hQ => by
    simp only [codeW] at h
    simp only [drawsOk, Bool.and_eq_true] at hd
    have hback : ∀ (i : Nat) o, ops[i]? = some o → ∀ e ∈ edgesOf o, e < i := fun i o hi => by
      have := (allStat_at ops.toList 0 hd.1 i o (by rw [Array.getElem?_toList]; exact hi)).1
      rwa [Nat.zero_add] at this
    have hs' : StR E.globs ρ ⟨st.tmps, st.bx, st.next + ops.toList.length⟩ a w := ⟨hs.tmps, hs.defers, hs.bx, fun k hk => hs.free k (by simp only at hk; omega), hs.gr⟩
    cases hf : st.bx RF with
    | none =>
      rw [hf] at h
      refine draw_sound (K := K .normal) (st := ⟨st.tmps, st.bx, st.next + ops.toList.length⟩) (base := st.next) (os := ops.toList) (ws := wsOf ops.toList st.tmps ops.toList) hE (fun i o hi => by rw [Array.getElem?_toList] at hi; exact hi) hback
        (fun j o hj ho => by
          have := (Array.getElem?_eq_some_iff.1 ho).1
          simp at hj; omega) hd.1 (by
          have : drawF st.bx (drawBx (wsOf ops.toList st.tmps ops.toList) st.next st.bx) = drawBx (wsOf ops.toList st.tmps ops.toList) st.next st.bx := by unfold drawF; rw [hf]
          simp only [this]; exact h) (Nat.le_refl _) hs' hs.free ?_
      intro st' ρ' a' w' hk hst hadv hle hlow _
      have hd : ops.toList.drop ops.toList.length = [] := by simp
      rw [hd]
      exact hQ .normal st' ρ' a' w' hk ⟨hst, hadv.weak, by rw [hle]; simp, hlow⟩
    | some c =>
      rw [hf] at h
      simp only at h
      split at h
      · exact h.elim
      · rename_i hst2
        have hlen : (ops.toList.take (firstOwn ops.toList)).length = firstOwn ops.toList := by
          rw [List.length_take]; exact Nat.min_eq_left (firstOwn_le _)
        refine draw_sound (K := fun st' => opsW real E call none (ops.toList.map (·.dst)) (ops.toList.drop (firstOwn ops.toList)) (firstOwn ops.toList) st.next st' [] fun st' _ => K .normal st') (st := ⟨st.tmps, st.bx, st.next + ops.toList.length⟩) (base := st.next) (os := ops.toList.take (firstOwn ops.toList)) (ws := none) hE (fun i o hi => by
            rw [List.getElem?_take] at hi
            split at hi
            · rw [Array.getElem?_toList] at hi; exact hi
            · cases hi) hback
          (fun j o hj ho D he hcl i hi => by
            rw [hlen] at hj
            have hjl := (Array.getElem?_eq_some_iff.1 ho).1
            have := covAll_at ops.toList _ _ hst2 j hj (by simp; omega) o (by rw [Array.getElem?_toList]; exact ho)
            exact covG_ok (fun i o' hD hi => hcl i o' hD (by rw [Array.getElem?_toList] at hi; exact hi)) j _ this he i hi) hd.2 (by
            have : drawF st.bx (drawBx none st.next st.bx) = flagB := by unfold drawF; rw [hf]
            simp only [this]
            simp only [wrOk_none, Bool.and_true]; exact h) (by simp only [List.length_take]; omega) hs' hs.free ?_
        intro st' ρ' a' w' hk hst hadv hle hlow hhigh
        rw [hlen] at hhigh ⊢
        refine opsW_sound hE hc (base := st.next) (ops.toList.drop (firstOwn ops.toList)) (firstOwn ops.toList) st' [] _ a' w' ρ' hst (by
          have := firstOwn_le ops.toList
          rw [hle, List.length_drop]; simp only; omega) (.inl fun k hk => hhigh k hk) hk ?_
        intro st2 log2 ρ2 a2 w2 hk2 hst2 hadv2 hle2 hlow2
        exact hQ .normal st2 ρ2 a2 w2 hk2 ⟨hst2, hadv.weak.trans hadv2, by rw [hle] at hle2; simp only at hle2; omega, fun k hk => by rw [hlow2 k hk, hlow k hk]⟩
  | .cond c x y, hd, cur, K, st, a, w, ρ, Q, hs, h, hQ => by
    simp only [codeW] at h
    simp only [drawsOk, Bool.and_eq_true] at hd
    obtain ⟨b, t', hk, hv, ht⟩ := testW_sound hs.tmps h
    have hs' : StR E.globs ρ ⟨t', st.bx, st.next⟩ a w := ⟨ht, hs.defers, hs.bx, hs.free, hs.gr⟩
    cases b with
    | true => exact wp_cond_true hv (code_sound hE hc x hd.1 cur K _ a w ρ Q hs' hk hQ)
    | false => exact wp_cond_false hv (code_sound hE hc y hd.2 cur K _ a w ρ Q hs' hk hQ)
  | .block id c, hd, cur, K, st, a, w, ρ, Q, hs, h, hQ => by
    simp only [codeW] at h
    simp only [drawsOk] at hd
    refine wp_block (code_sound hE hc c hd id _ st a w ρ _ hs h fun e st' ρ' a' w' hk hp => ?_)
    cases e with
    | normal => exact hQ _ st' ρ' a' w' hk hp
    | ret => exact hQ _ st' ρ' a' w' hk hp
    | exit j =>
      simp only at hk
      simp only [toX, Exit.inBlock]
      cases hb : natEq j id with
      | true =>
        rw [hb] at hk
        rw [if_pos (natEq_true hb)]
        exact hQ .normal st' ρ' a' w' hk hp
      | false =>
        rw [hb] at hk
        rw [if_neg (fun e => by subst e; simp at hb)]
        exact hQ (.exit j) st' ρ' a' w' hk hp
  | .loop c, hd, cur, K, st, a, w, ρ, Q, hs, h, hQ => by
    simp only [codeW] at h
    simp only [drawsOk] at hd
    have main : ∀ n, loopW (codeW real E call cur c) K n st → (Code.loop c).wp P Q a w := fun n hn =>
      wp_loop_rounds n (loop_sound (fun K st a w ρ Q hs h hQ => code_sound hE hc c hd cur K st a w ρ Q hs h hQ) n K st a w ρ Q hs hn hQ)
    split at h
    · exact main _ h
    · -- by a rule: from round to round only what lives on is kept
      unfold cutK at h
      split at h
      · rename_i hok
        obtain ⟨n, hn⟩ := h
        have hs0 := cut_sound (live := E.live cur) hs hok
        have ha0 := adv_cut (AdvW.refl ρ w) hs.free
        have key : ∀ (n : Nat) (st1 : St) (a1 : Act) (w1 : World) (ρ1 : Nat → Option Nat), StR E.globs ρ1 st1 a1 w1 → st1.next = st.next → AdvW ρ w ρ1 w1 → (∀ k, k < st.next → ρ1 (k + 1) = ρ (k + 1)) →
            loopW (fun K s => codeW real E call cur c (fun e s => match e with | .normal => cutK real st.next (E.live cur) s (K .normal) | e => K e s) s) K n st1 → Code.rounds P c Q n a1 w1 := by
          intro n
          induction n with
          | zero => intro _ _ _ _ _ _ _ _ h; exact h.elim
          | succ n ih =>
            intro st1 a1 w1 ρ1 hs1 hnx ha1 hlow1 h1
            simp only [loopW] at h1
            rw [rounds_succ]
            refine code_sound hE hc c hd cur _ st1 a1 w1 ρ1 _ hs1 h1 fun e st2 ρ2 a2 w2 hk hp => ?_
            have hp' : Post E ρ w st.next st2 ρ2 a2 w2 := ⟨hp.st, ha1.trans hp.adv, by rw [← hnx]; exact hp.le, fun k hk => by rw [hp.low k (by rw [hnx]; exact hk), hlow1 k hk]⟩
            cases e with
            | normal =>
              simp only at hk
              unfold cutK at hk
              split at hk
              · rename_i hok2
                exact ih _ a2 w2 _ (cut_sound hp.st hok2) rfl (adv_cut hp'.adv hs.free) (fun k hk => by rw [cutρ_lt (by omega)]; exact hp'.low k hk) hk
              · exact hk.elim
            | exit id => exact hQ _ st2 ρ2 a2 w2 hk hp'
            | ret => exact hQ _ st2 ρ2 a2 w2 hk hp'
        exact wp_loop_rounds n (key n _ a w _ hs0 rfl ha0 (fun k hk => cutρ_lt (by omega)) hn)
      · exact h.elim
  | .rangeFunc .., _, cur, K, st, a, w, ρ, Q, hs, h, hQ => by simp only [codeW] at h
  | .scope c, hd, cur, K, st, a, w, ρ, Q, hs, h, hQ => by
    simp only [codeW] at h
    simp only [drawsOk] at hd
    refine wp_scope_straight (code_sound hE hc c hd cur K st a w ρ _ hs h fun e st' ρ' a' w' hk hp => ?_)
    have := hQ e st' ρ' a' w' hk hp
    cases e <;> exact this
  | .label l, _, cur, K, st, a, w, ρ, Q, hs, h, hQ => by
    simp only [codeW] at h
    exact wp_label (hQ .normal st ρ a w h (.refl hs))
  | .goto .., _, cur, K, st, a, w, ρ, Q, hs, h, hQ => by simp only [codeW] at h
  | .refuse .., _, cur, K, st, a, w, ρ, Q, hs, h, hQ => by simp only [codeW] at h

/-! ## results -/
def resM (tm : Array Value) : ResultVar → Sem Value
  | .tmp i => pure (tm.getD i undef)
  | .cell a ty => do loadVar ty (← asAddr (tm.getD a undef))
theorem resR_sound (hE : EnvFull P E) {t : List LV} {bx : Bx} {tm : Array Value} {ρ : Nat → Option Nat} {w : World} (ht : TR ρ w t tm) (hb : BR ρ w bx) {rv : ResultVar} {lv : LV} (h : resR real E t bx rv = some lv) :
    ∃ v, (resM tm rv).run P w = .ok v w ∧ VV ρ w lv v := by
  unfold resR at h
  split at h
  · rename_i i
    split at h
    · cases h
    · cases h
      exact ⟨_, rfl, ht.at_ i⟩
  · rename_i a ty
    split at h
    · rename_i tgt k off htg hk
      have hv := ht.at_ a
      rw [hk] at hv
      simp only [VV] at hv
      obtain ⟨b, hρ, hv⟩ := hv
      split at h
      · rename_i ty' c hc
        obtain ⟨ty2, lv2, cs, et, e1, e2, e3, e4⟩ := hb.cont k b hρ
        rw [hc] at e1
        cases e1
        obtain ⟨v', hr, hvv⟩ := run_loadVar_at (P := P) (hE.ok.ty _ _ htg) e4 (getAt_sound 8 _ _ off _ _ h e2.1 cs e3)
        refine ⟨v', ?_, hvv⟩
        simp only [resM]
        rw [Sem.run_bind, hv]
        simp [asAddr, hr]
      · cases h
    · cases h

theorem resAll_sound (hE : EnvFull P E) {t : List LV} {bx : Bx} {tm : Array Value} {ρ : Nat → Option Nat} {w : World} (ht : TR ρ w t tm) (hb : BR ρ w bx) : ∀ (rs : List ResultVar) (lvs : List LV), resAll real E t bx rs = some lvs →
    ∃ vs, (rs.mapM (resM tm)).run P w = .ok vs w ∧ VVs ρ w lvs vs
  | [], lvs, h => by
    simp only [resAll, Option.some.injEq] at h
    subst h
    exact ⟨[], rfl, rfl⟩
  | r :: rs, lvs, h => by
    unfold resAll at h
    split at h
    · rename_i lv lvs' h1 h2
      cases h
      obtain ⟨v, e1, e2⟩ := resR_sound (P := P) hE ht hb h1
      obtain ⟨vs, e3, e4⟩ := resAll_sound hE ht hb rs lvs' h2
      refine ⟨v :: vs, ?_, v, vs, rfl, e2, e4⟩
      rw [List.mapM_cons, Sem.run_bind, e1]
      simp only [Result.andThen_ok]
      rw [Sem.run_bind, e3]
      simp
    · cases h

theorem results_sound (hE : EnvFull P E) {t : List LV} {bx : Bx} {fn : Func} {tm : Array Value} {ρ : Nat → Option Nat} {w : World} (ht : TR ρ w t tm) (hb : BR ρ w bx) {lvs : List LV} (h : resAll real E t bx fn.results.toList = some lvs) :
    ∃ v, (results fn tm).run P w = .ok v w ∧ VV ρ w (one lvs) v := by
  obtain ⟨vs, h1, h2⟩ := resAll_sound (P := P) hE ht hb _ _ h
  unfold results
  rw [Array.mapM_eq_mapM_toList]
  simp only [Sem.run_bind, map_eq_pure_bind]
  have : ∀ (f g : ResultVar → Sem Value), f = g → (List.mapM f fn.results.toList).run P w = (List.mapM g fn.results.toList).run P w := fun f g e => by rw [e]
  rw [this _ (resM tm) (by funext x; cases x <;> rfl), h1]
  simp only [Result.andThen_ok, Sem.run_pure]
  refine ⟨_, rfl, ?_⟩
  match lvs, vs, h2 with
  | [], vs, h2 =>
    simp only [VVs] at h2
    subst h2
    simp only [one, VV, VVs]
    exact ⟨[], rfl, rfl⟩
  | [lv], vs, h2 =>
    simp only [VVs] at h2
    obtain ⟨v, vs', rfl, h3, rfl⟩ := h2
    simpa [one] using h3
  | l1 :: l2 :: l3, vs, h2 =>
    have h2' := h2
    simp only [VVs] at h2
    obtain ⟨v, vs', rfl, h3, v2, vs2, rfl, h4, h5⟩ := h2
    simp only [one, VV]
    exact ⟨v :: v2 :: vs2, by simp, h2'⟩

theorem nth_append : ∀ (xs ys : List LV) (i : Nat), nth (xs ++ ys) i = if i < xs.length then nth xs i else nth ys (i - xs.length)
  | [], ys, i => by simp
  | x :: xs, ys, 0 => by simp [nth]
  | x :: xs, ys, i + 1 => by simp [nth, nth_append xs ys i]
theorem nth_undefs : ∀ (n i : Nat), nth (undefs n) i = .undef
  | 0, i => by simp [undefs, nth]
  | n + 1, 0 => rfl
  | n + 1, i + 1 => by simp [undefs, nth, nth_undefs n i]
theorem len_undefs : ∀ n, (undefs n).length = n
  | 0 => rfl
  | n + 1 => by simp [undefs, len_undefs n]
theorem VVs_len {ρ : Nat → Option Nat} {w : World} : ∀ (xs : List LV) (vs : List Value), VVs ρ w xs vs → vs.length = xs.length
  | [], vs, h => by simp only [VVs] at h; subst h; rfl
  | x :: xs, vs, h => by
    simp only [VVs] at h
    obtain ⟨v, vs', rfl, _, h⟩ := h
    simp [VVs_len xs vs' h]
theorem VVs_nth {ρ : Nat → Option Nat} {w : World} : ∀ (xs : List LV) (vs : List Value), VVs ρ w xs vs → ∀ i, i < xs.length → VV ρ w (nth xs i) (vs[i]?.getD undef)
  | [], vs, h, i, hi => by simp at hi
  | x :: xs, vs, h, i, hi => by
    simp only [VVs] at h
    obtain ⟨v, vs', rfl, h1, h⟩ := h
    cases i with
    | zero => simpa [nth] using h1
    | succ i => simpa [nth] using VVs_nth xs vs' h i (by simpa using hi)

/-! ## calls -/
theorem body_sound (hE : EnvFull P E) {call : CallW} (hc : CallOk P E.globs call) {f : FuncId} {fn : Func} {c : Code} (hf : P.funcs[f]? = some fn) (hb : fn.body = some c) (hd : drawsOk c = true) {args : List LV} {bx : Bx} {next : Nat} {K : LV → Bx → Nat → Prop}
    (h : bodyW real E call c fn.ntmps fn.results.toList args bx next K) {ρ : Nat → Option Nat} {w : World} {vals : List Value} (hv : VVs ρ w args vals) (hbx : BR ρ w bx) (hfree : ∀ k, next ≤ k → ρ (k + 1) = none) (hg : GR E.globs ρ w) :
    Calls P f vals.toArray w (CallPost E.globs ρ w next K) := by
  refine calls_of_wp hf hb ?_
  have hlen := VVs_len _ _ hv
  have hst : StR E.globs ρ ⟨args ++ undefs (fn.ntmps - args.length), bx, next⟩ { tmps := vals.toArray ++ Array.replicate (fn.ntmps - vals.toArray.size) undef, defers := [] } w := by
    refine ⟨⟨by simp [len_undefs, hlen], fun i => ?_⟩, rfl, hbx, hfree, hg⟩
    rw [nth_append]
    split
    · rename_i hi
      have := VVs_nth _ _ hv i hi
      simp only [Array.getD_eq_getD_getElem?]
      rw [Array.getElem?_append_left (by simp; omega)]
      simpa using this
    · rw [nth_undefs]; simp only [VV]
  refine code_sound hE hc c hd 0 _ _ _ w ρ _ hst h fun e st' ρ' a' w' hk hp => ?_
  unfold resW at hk
  have fin : ∀ vs, resAll real E st'.tmps st'.bx fn.results.toList = some vs → K (one vs) st'.bx st'.next → a'.defers = [] ∧ ∃ v, (results fn a'.tmps).run P w' = .ok v w' ∧ CallPost E.globs ρ w next K (.returned v) w' := by
    intro vs hr hk
    obtain ⟨v, h1, h2⟩ := results_sound hE hp.st.tmps hp.st.bx hr
    exact ⟨hp.st.defers, v, h1, v, one vs, st'.bx, st'.next, ρ', rfl, hk, h2, hp.st.bx, hp.st.free, hp.adv, hp.st.gr, hp.le, hp.low⟩
  cases e with
  | exit id => exact hk.elim
  | normal =>
    simp only at hk
    split at hk
    · rename_i vs hr; exact fin vs hr hk
    · exact hk.elim
  | ret =>
    simp only at hk
    split at hk
    · rename_i vs hr; exact fin vs hr hk
    · exact hk.elim

/-- every body that is entered has been looked at -/
def fnsOk : List (FuncId × FnE) → Bool
  | [] => true
  | (_, .inl c _ _) :: l => drawsOk c && fnsOk l
  | _ :: l => fnsOk l
theorem fnsOk_look : ∀ (l : List (FuncId × FnE)), fnsOk l = true → ∀ f c m res, look l f = some (.inl c m res) → drawsOk c = true
  | [], _, f, c, m, res, h => by simp [look] at h
  | (g, e) :: l, hk, f, c, m, res, h => by
    have hl : fnsOk l = true := by
      cases e <;> simp only [fnsOk, Bool.and_eq_true] at hk <;> first | exact hk | exact hk.2
    unfold look at h
    split at h
    · cases h
      simp only [fnsOk, Bool.and_eq_true] at hk
      exact hk.1
    · exact fnsOk_look l hl f c m res h

theorem callW_sound (hE : EnvFull P E) (hd : fnsOk E.fns = true) : ∀ n, CallOk P E.globs (callW real E n)
  | 0 => fun _ _ _ _ _ h => h.elim
  | n + 1 => fun f args bx next K h ρ w vals hv hb hfree hg => by
    simp only [callW] at h
    split at h
    · rename_i c m res hl
      obtain ⟨fn, h1, h2, h3, h4, _⟩ := hE.fns f _ hl
      subst h3; subst h4
      exact body_sound hE (callW_sound hE hd n) h1 h2 (fnsOk_look _ hd _ _ _ _ hl) h hv hb hfree hg
    · exact h.elim

theorem VV_dem {ρ : Nat → Option Nat} {w : World} {bx : Bx} (hb : BR ρ w bx) {lv : LV} {v : Value} (h : VV ρ w lv v) : VV (clr ρ) w (dem lv) v := by
  have hkill : VV (clr ρ) w (kill lv) v := by
    unfold kill
    split
    · rename_i ht; exact VV_advW (adv_clr ρ w) lv v ht h
    · simp only [VV]
  cases lv with
  | own k l =>
    simp only [VV, dem] at h ⊢
    obtain ⟨h1, a, cap, hv, h2, h3⟩ := OwnC_slc h
    refine ⟨h1, a, cap, hv, h2, h3.imp id fun ⟨b, off, g1, g2, g3⟩ => ⟨b, off, g1, fun k hk => ?_, g3⟩⟩
    have h0 : ρ 0 = some b := h.2.2.2 b (by rw [hv, g1]; rfl)
    cases k with
    | zero => cases hk
    | succ k => have := hb.inj 0 (k + 1) b h0 hk; omega
  | _ => exact hkill
/-- A FUNCTION, by what it is told to come to -/
theorem fn_sound (hE : EnvFull P E) (hd : fnsOk E.fns = true) {f : FuncId} {fn : Func} {c : Code} (hf : P.funcs[f]? = some fn) (hb : fn.body = some c) (hdc : drawsOk c = true) {n : Nat} {args : List LV} {K : LV → Prop}
    (h : fnW real E n c fn.ntmps fn.results.toList args K) {w : World} {vals : List Value} (hv : VVs (fun _ => none) w args vals) (hg : GR E.globs (fun _ => none) w) :
    Calls P f vals.toArray w fun e w' => ∃ v lv ρ', e = .returned v ∧ K lv ∧ VV ρ' w' lv v ∧ Below w.heap.size w w' := by
  refine (body_sound hE (callW_sound hE hd n) hf hb hdc h hv (BR.none w) (fun _ _ => rfl) hg).mono fun e w' hp => ?_
  obtain ⟨v, lv, bx', next', ρ', he, hk, hvv, hbr, _, ha, _, _, _⟩ := hp
  exact ⟨v, dem lv, clr ρ', he, hk, VV_dem hbr hvv, ha.below⟩
end
end Go.LE
namespace Go.LE
open Go Go.RowKit

/-! ## types, looked at by the kernel -/
def zcEq : List Value → List Value → Bool
  | [], [] => true
  | .int k n :: xs, .int j m :: ys => kindEq k j && decide (n = m) && zcEq xs ys
  | .bool a :: xs, .bool b :: ys => (match a, b with | true, true => true | false, false => true | _, _ => false) && zcEq xs ys
  | .string s :: xs, .string t :: ys => natEq s.size 0 && natEq t.size 0 && zcEq xs ys
  | .slice none 0 0 :: xs, .slice none 0 0 :: ys => zcEq xs ys
  | .nilFunc :: xs, .nilFunc :: ys => zcEq xs ys
  | _, _ => false
theorem size0 {s : ByteArray} (h : natEq s.size 0 = true) : s = ByteArray.empty := by
  have := natEq_true h
  obtain ⟨d⟩ := s
  have h2 : d.size = 0 := this
  have : d = #[] := by
    apply Array.ext'
    simpa using h2
  rw [this]; rfl
theorem zcEq_ok : ∀ (xs ys : List Value), zcEq xs ys = true → xs = ys := by
  intro xs
  induction xs with
  | nil => intro ys h; cases ys with | nil => rfl | cons y ys => simp [zcEq] at h
  | cons x xs ih =>
    intro ys h
    unfold zcEq at h
    split at h
    · rename_i e; cases e
    · rename_i k n xs' j m ys' e1
      cases e1
      simp only [Bool.and_eq_true, decide_eq_true_eq] at h
      obtain ⟨⟨h1, rfl⟩, h3⟩ := h
      have := kindEq_eq h1; subst this
      rw [ih _ h3]
    · rename_i a xs' b ys' e1
      cases e1
      simp only [Bool.and_eq_true] at h
      rw [ih _ h.2]
      cases a <;> cases b <;> first | rfl | (simp at h)
    · rename_i s xs' t ys' e1
      cases e1
      simp only [Bool.and_eq_true] at h
      rw [ih _ h.2, size0 h.1.1, size0 h.1.2]
    · rename_i xs' ys' e1
      cases e1
      rw [ih _ h]
    · rename_i xs' ys' e1
      cases e1
      rw [ih _ h]
    · cases h

def infChk (P : Program) (t : TypeId) (ty : Ty) : Bool :=
  match P.info? t with
  | some i => natEq i.size ty.size && (match i.zero with | some z => zcEq z.cells.toList ty.zc && (match ty with | .int _ => natLe i.bytes 8 | .bool => natLe i.bytes 8 | _ => true) | none => false)
  | none => false
theorem infChk_ok {P : Program} {t : TypeId} {ty : Ty} (h : infChk P t ty = true) : Inf P t ty := by
  unfold infChk at h
  split at h
  · rename_i i hi
    simp only [Bool.and_eq_true] at h
    obtain ⟨h1, h2⟩ := h
    split at h2
    · rename_i z hz
      simp only [Bool.and_eq_true] at h2
      refine ⟨i, z, hi, natEq_true h1, hz, zcEq_ok _ _ h2.1, fun k hk => ?_⟩
      have h3 := h2.2
      rw [hk] at h3
      cases k with
      | int k => exact natLe_true h3
      | bool => exact natLe_true h3
    · cases h2
  · cases h

mutual
def tyChk (P : Program) : Ty → TypeId → Bool
  | .int k, t => infChk P t (.int k) && (match P.underlying t with | some (.int j) => kindEq j k | _ => false)
  | .bool, t => infChk P t .bool && (match P.underlying t with | some .bool => true | _ => false)
  | .str, t => infChk P t .str && (match P.underlying t with | some .string => true | _ => false)
  | .slice e, t => infChk P t (.slice e) && (match P.underlying t with | some (.slice et) => tyChk P e et | _ => false)
  | .func, t => infChk P t .func && (match P.underlying t with | some (.func _ _ _) => true | _ => false)
  | .struct fs, t => infChk P t (.struct fs) && !P.stoodInHeld t && !P.eqGuardType P.depth t && (match P.underlying t with | some (.struct fields) => tyChks P fs fields.toList 0 | _ => false)
  | .arr n e, t => infChk P t (.arr n e) && !P.eqGuardType P.depth t && (match P.underlying t with | some (.array m et) => natEq m n && tyChk P e et | _ => false)
def tyChks (P : Program) : List Ty → List Field → Nat → Bool
  | [], [], _ => true
  | t :: ts, f :: fs, off => natEq f.offset off && !(f.name == "_") && !natEq t.size 0 && tyChk P t f.type && tyChks P ts fs (off + t.size)
  | _, _, _ => false
end
theorem beq_false {a b : Nat} (h : (!natEq a b) = true) : a ≠ b := fun e => by subst e; simp at h
mutual
theorem tyChk_ok {P : Program} : ∀ (ty : Ty) (t : TypeId), tyChk P ty t = true → TyRep P ty t
  | .int k, t, h => by
    simp only [tyChk, Bool.and_eq_true] at h
    obtain ⟨h1, h2⟩ := h
    simp only [TyRep]
    split at h2
    · rename_i j hj; have := kindEq_eq h2; subst this; exact ⟨infChk_ok h1, hj⟩
    · cases h2
  | .bool, t, h => by
    simp only [tyChk, Bool.and_eq_true] at h
    obtain ⟨h1, h2⟩ := h
    simp only [TyRep]
    split at h2
    · rename_i hj; exact ⟨infChk_ok h1, hj⟩
    · cases h2
  | .str, t, h => by
    simp only [tyChk, Bool.and_eq_true] at h
    obtain ⟨h1, h2⟩ := h
    simp only [TyRep]
    split at h2
    · rename_i hj; exact ⟨infChk_ok h1, hj⟩
    · cases h2
  | .slice e, t, h => by
    simp only [tyChk, Bool.and_eq_true] at h
    obtain ⟨h1, h2⟩ := h
    simp only [TyRep]
    split at h2
    · rename_i et hj; exact ⟨infChk_ok h1, et, hj, tyChk_ok e et h2⟩
    · cases h2
  | .func, t, h => by
    simp only [tyChk, Bool.and_eq_true] at h
    obtain ⟨h1, h2⟩ := h
    simp only [TyRep]
    split at h2
    · rename_i a b c hj; exact ⟨infChk_ok h1, a, b, c, hj⟩
    · cases h2
  | .struct fs, t, h => by
    simp only [tyChk, Bool.and_eq_true, Bool.not_eq_true'] at h
    obtain ⟨⟨⟨h1, h2⟩, h3⟩, h4⟩ := h
    simp only [TyRep]
    split at h4
    · rename_i fields hj; exact ⟨infChk_ok h1, h2, h3, fields, hj, tyChks_ok fs _ 0 h4⟩
    · cases h4
  | .arr n e, t, h => by
    simp only [tyChk, Bool.and_eq_true, Bool.not_eq_true'] at h
    obtain ⟨⟨h1, h2⟩, h4⟩ := h
    simp only [TyRep]
    split at h4
    · rename_i m et hj
      simp only [Bool.and_eq_true] at h4
      have := natEq_true h4.1; subst this
      exact ⟨infChk_ok h1, h2, et, hj, tyChk_ok e et h4.2⟩
    · cases h4
theorem tyChks_ok {P : Program} : ∀ (ts : List Ty) (fs : List Field) (off : Nat), tyChks P ts fs off = true → TyReps P ts fs off
  | [], [], _, _ => rfl
  | [], _ :: _, _, h => by simp [tyChks] at h
  | _ :: _, [], _, h => by simp [tyChks] at h
  | t :: ts, f :: fs, off, h => by
    simp only [tyChks, Bool.and_eq_true] at h
    obtain ⟨⟨⟨⟨h1, h2⟩, h3⟩, h4⟩, h5⟩ := h
    simp only [TyReps]
    exact ⟨f, fs, rfl, natEq_true h1, by simpa using h2, beq_false h3, tyChk_ok t _ h4, tyChks_ok ts fs _ h5⟩
end
def tysOk (P : Program) : List (TypeId × Ty) → Bool
  | [] => true
  | (t, ty) :: l => tyChk P ty t && natLe ty.deep 10000 && tysOk P l
theorem tysOk_look {P : Program} : ∀ (l : List (TypeId × Ty)), tysOk P l = true → ∀ t ty, look l t = some ty → TyRep P ty t ∧ ty.deep ≤ 10000
  | [], _, t, ty, h => by simp [look] at h
  | (u, uy) :: l, hk, t, ty, h => by
    simp only [tysOk, Bool.and_eq_true] at hk
    unfold look at h
    split at h
    · rename_i e
      cases h
      have := natEq_true e; subst this
      exact ⟨tyChk_ok _ _ hk.1.1, natLe_true hk.1.2⟩
    · exact tysOk_look l hk.2 t ty h

/-! ## the functions of an environment -/
def FnsOk (P : Program) (G : List (Nat × Ty × LV)) : List (FuncId × FnE) → Prop
  | [] => True
  | (f, e) :: l => FnOk P G f e ∧ FnsOk P G l
theorem FnsOk_look {P : Program} {G : List (Nat × Ty × LV)} : ∀ (l : List (FuncId × FnE)), FnsOk P G l → ∀ f e, look l f = some e → FnOk P G f e
  | [], _, f, e, h => by simp [look] at h
  | (g, d) :: l, hk, f, e, h => by
    unfold look at h
    split at h
    · rename_i hb
      cases h
      have := natEq_true hb; subst this
      exact hk.1
    · exact FnsOk_look l hk.2 f e h
theorem fnsNil {P : Program} {G : List (Nat × Ty × LV)} : FnsOk P G [] := trivial
theorem fnsCons {P : Program} {G : List (Nat × Ty × LV)} {f : FuncId} {e : FnE} {l : List (FuncId × FnE)} (h : FnOk P G f e) (hl : FnsOk P G l) : FnsOk P G ((f, e) :: l) := ⟨h, hl⟩
theorem fnSpec {P : Program} {G : List (Nat × Ty × LV)} {f : FuncId} {s : Spec} (h : SpecOk P G f s) : FnOk P G f (.spec s) := h
theorem fnExt {P : Program} {G : List (Nat × Ty × LV)} {f : FuncId} {s : Spec} (h : ExtOk P f s) : FnOk P G f (.ext s) := h
def bodyOf (fn : Func) : Code := fn.body.getD .skip
def inlF (fn : Func) : FnE := .inl (bodyOf fn) fn.ntmps fn.results.toList
theorem body_some {fn : Func} (h : fn.body.isSome = true) : fn.body = some (bodyOf fn) := by
  unfold bodyOf
  cases hb : fn.body with
  | none => rw [hb] at h; cases h
  | some c => rfl
theorem inl_ok {P : Program} {G : List (Nat × Ty × LV)} {f : FuncId} {fn : Func} (h1 : P.funcs[f]? = some fn) (h2 : fn.body.isSome = true) (h3 : (fn.name == "runtime.NumGoroutine") = false) : FnOk P G f (inlF fn) :=
  ⟨fn, h1, body_some h2, rfl, rfl, h3⟩
theorem envFull {P : Program} {E : Env} (h1 : tysOk P E.ty = true) (h2 : FnsOk P E.globs E.fns) (h3 : P.follows .mixedOrders = true) : EnvFull P E where
  ok := ⟨fun t ty h => (tysOk_look _ h1 t ty h).1⟩
  deep := fun t ty h => (tysOk_look _ h1 t ty h).2
  fns := FnsOk_look _ h2
  mixed := h3

/-! ## specifications: what arguments they take -/
inductive AT where
  | int (k : IntKind) | bool | str | wide | word | big | ints (k : EK) | words
  | st (l : List AT) | tup (l : List AT) | lst (l : List AT)
  | cell (a : AT) | fnc (f : Nat) (l : List AT)

def allWords (O : Prim) : List LV → Option (List (BitVec 128))
  | [] => some []
  | x :: xs => match getWord O x, allWords O xs with
    | some w, some l => some (w :: l)
    | _, _ => none
def valL : List Int → Nat
  | [] => 0
  | x :: l => x.toNat + 4294967296 * valL l
def cBig : LV → Option Nat
  | .big n => some n
  | .nils => some 0
  | .im [] => some 0
  | .ints (.int .u32) l => match decide (dig (valL l) = l) with | true => some (valL l) | false => none
  | _ => none
def cInts (O : Prim) (k : EK) : LV → Option (List Int)
  | .ints j l => match ekEq k j with | true => some l | false => none
  | .nils => some []
  | .im ps => allInts O k ps
  | .big n => match ekEq k .u32 with | true => some (dig n) | false => none
  | _ => none
def cWords (O : Prim) : LV → Option (List (BitVec 128))
  | .words l => some l
  | .nils => some []
  | .im ps => allWords O ps
  | _ => none
def isK (k : IntKind) (x : LV) : Option Int := match asInt x with
  | some (j, n, _) => match kindEq k j with | true => some n | false => none
  | none => none
mutual
def canon (O : Prim) : AT → LV → Option LV
  | .int k, x => match isK k x with | some n => some (.int k n) | none => none
  | .bool, x => match isArgB x with | some b => some (.bool b) | none => none
  | .str, x => match strOf x with | some s => some (.str s) | none => none
  | .wide, x => match getW O x with | some b => some (.wide b) | none => none
  | .word, x => match getWord O x with | some b => some (.word b) | none => none
  | .big, x => match cBig x with | some n => some (.big n) | none => none
  | .ints k, x => match cInts O k x with | some l => some (.ints k l) | none => none
  | .words, x => match cWords O x with | some l => some (.words l) | none => none
  | .st ts, .agg ps => match canons O ts ps with | some l => some (.agg l) | none => none
  | .tup ts, .tup ps => match canons O ts ps with | some l => some (.tup l) | none => none
  | .lst ts, .im ps => match canons O ts ps with | some l => some (.im l) | none => none
  | .cell t, .cell x => match canon O t x with | some y => some (.cell y) | none => none
  | .fnc f ts, .fn g ps => match natEq f g, canons O ts ps with | true, some l => some (.fn f l) | _, _ => none
  | _, _ => none
def canons (O : Prim) : List AT → List LV → Option (List LV)
  | [], [] => some []
  | t :: ts, x :: xs => match canon O t x, canons O ts xs with
    | some y, some ys => some (y :: ys)
    | _, _ => none
  | _, _ => none
end
def mkSpec (O : Prim) (ts : List AT) (f : List LV → R LV) : Spec := fun l => match canons O ts l with
  | some l => f l
  | none => .fail

def rgE : EK → Int → Prop
  | .int k, n => k.min ≤ n ∧ n ≤ k.max
  | .bool, n => n = 0 ∨ n = 1
theorem rgE_iff (k : EK) (n : Int) : inE k n ↔ rgE k n := by
  cases k with
  | int k => exact inK_iff k n
  | bool => exact Iff.rfl
mutual
def Form : AT → LV → Prop
  | .int k, x => ∃ n, x = .int k n ∧ k.min ≤ n ∧ n ≤ k.max
  | .bool, x => ∃ b, x = .bool b
  | .str, x => ∃ s, x = .str s ∧ (s.size : Int) ≤ 9223372036854775807
  | .wide, x => ∃ b, x = .wide b
  | .word, x => ∃ b, x = .word b
  | .big, x => ∃ n, x = .big n ∧ ((dig n).length : Int) < 4611686018427387904
  | .ints k, x => ∃ l, x = .ints k l ∧ (∀ n ∈ l, rgE k n) ∧ (l.length : Int) < 4611686018427387904
  | .words, x => ∃ l, x = .words l ∧ (l.length : Int) < 4611686018427387904
  | .st ts, x => ∃ l, x = .agg l ∧ Forms ts l
  | .tup ts, x => ∃ l, x = .tup l ∧ Forms ts l
  | .lst ts, x => ∃ l, x = .im l ∧ Forms ts l
  | .cell t, x => ∃ y, x = .cell y ∧ Form t y
  | .fnc f ts, x => ∃ l, x = .fn f l ∧ Forms ts l
def Forms : List AT → List LV → Prop
  | [], l => l = []
  | t :: ts, l => ∃ x xs, l = x :: xs ∧ Form t x ∧ Forms ts xs
end

mutual
theorem canon_plain : ∀ (t : AT) (x y : LV), canon real t x = some y → plain y = true
  | .int k, x, y, h | .bool, x, y, h | .str, x, y, h | .wide, x, y, h | .word, x, y, h | .big, x, y, h | .ints k, x, y, h | .words, x, y, h => by
    simp only [canon] at h
    split at h
    · cases h; rfl
    · cases h
  | .st ts, x, y, h => by
    cases x <;> simp only [canon, reduceCtorEq] at h
    split at h
    · rename_i l e; cases h; simp only [plain]; exact canons_plain ts _ l e
    · cases h
  | .tup ts, x, y, h => by
    cases x <;> simp only [canon, reduceCtorEq] at h
    split at h
    · rename_i l e; cases h; simp only [plain]; exact canons_plain ts _ l e
    · cases h
  | .lst ts, x, y, h => by
    cases x <;> simp only [canon, reduceCtorEq] at h
    split at h
    · rename_i l e; cases h; simp only [plain]; exact canons_plain ts _ l e
    · cases h
  | .cell t, x, y, h => by
    cases x <;> simp only [canon, reduceCtorEq] at h
    rename_i c
    split at h
    · rename_i z e; cases h
      simp only [plain]
      exact canon_plain t c z e
    · cases h
  | .fnc f ts, x, y, h => by
    cases x <;> simp only [canon, reduceCtorEq] at h
    split at h
    · rename_i l e1 e2
      cases h
      simp only [plain]
      exact canons_plain ts _ l e2
    · cases h
theorem canons_plain : ∀ (ts : List AT) (xs ys : List LV), canons real ts xs = some ys → plains ys = true
  | [], [], ys, h => by simp only [canons, Option.some.injEq] at h; subst h; rfl
  | [], _ :: _, ys, h => by simp [canons] at h
  | _ :: _, [], ys, h => by simp [canons] at h
  | t :: ts, x :: xs, ys, h => by
    simp only [canons] at h
    split at h
    · rename_i y ys' e1 e2
      cases h
      simp only [plains, canon_plain t x y e1, canons_plain ts xs ys' e2, Bool.and_self]
    · cases h
end
mutual
theorem plain_tame : ∀ (lv : LV), plain lv = true → tame lv = true
  | .int .., _ | .lit .., _ | .str .., _ | .slit .., _ | .bool .., _ | .blit .., _ | .nils, _ | .nilf, _ | .gptr .., _ | .wide _, _ | .word _, _ | .big _, _ | .undef, _ | .ptr .., _ | .sl .., _ | .im _, _ | .cell _, _ | .words _, _ | .ints .., _ | .agg _, _ | .fn .., _ => rfl
  | .own .., h | .oel .., h => by simp [plain] at h
  | .tup ps, h => by simp only [tame]; exact plains_tames ps (by simpa only [plain] using h)
theorem plains_tames : ∀ (ps : List LV), plains ps = true → tames ps = true
  | [], _ => rfl
  | p :: ps, h => by
    simp only [plains, Bool.and_eq_true] at h
    simp only [tames, plain_tame p h.1, plains_tames ps h.2, Bool.and_self]
end
section
variable {ρ : Nat → Option Nat} {w : World}
theorem allWords_VC : ∀ (ps : List LV) (l : List (BitVec 128)) (cs : List Value), allWords real ps = some l → VCs ρ w ps cs → cs = l.flatMap wordCells ∧ l.length = ps.length
  | [], l, cs, h, hv => by
    simp only [allWords, Option.some.injEq] at h; subst h
    simp only [VCs] at hv; subst hv
    simp
  | p :: ps, l, cs, h, hv => by
    unfold allWords at h
    split at h
    · rename_i b l' e hl
      cases h
      simp only [VCs] at hv
      obtain ⟨c1, c2, rfl, h1, h2⟩ := hv
      have := getWord_VC e h1; subst this
      obtain ⟨rfl, g2⟩ := allWords_VC ps l' c2 hl h2
      exact ⟨by simp, by simp [g2]⟩
    · cases h
theorem dig0 : dig 0 = [] := rfl
theorem SlC_nil {n : Nat} {cs : List Value} (hn : n = 0) (hc : cs = []) : SlC ρ w (.slice none 0 0) n cs := by
  subst hn; exact ⟨none, 0, rfl, by simp, .inl hc⟩

theorem big_VV {x : LV} {n : Nat} {v : Value} (h : cBig x = some n) (hv : VV ρ w x v) : SlC ρ w v (dig n).length ((dig n).map (.int .u32 ·)) := by
  cases x <;> simp only [cBig, Option.some.injEq, reduceCtorEq] at h
  case big => subst h; simpa only [VV] using hv
  case nils => subst h; simp only [VV] at hv; subst hv; exact SlC_nil rfl rfl
  case im ps =>
    cases ps with
    | nil =>
      simp only [cBig, Option.some.injEq] at h
      subst h
      simp only [VV, VCs] at hv
      obtain ⟨cells, rfl, h2⟩ := hv
      exact h2
    | cons p ps => simp [cBig] at h
  case ints k l =>
    rcases k with k | _
    rotate_left
    · simp [cBig] at h
    cases k <;> simp only [cBig, reduceCtorEq] at h
    split at h
    · rename_i hd
      cases h
      simp only [VV] at hv
      rw [of_decide_eq_true hd]; exact hv.2
    · cases h
theorem ints_VV {k : EK} {x : LV} {l : List Int} {v : Value} (h : cInts real k x = some l) (hv : VV ρ w x v) : (∀ n ∈ l, inE k n) ∧ SlC ρ w v l.length (l.map k.cell) := by
  cases x <;> simp only [cInts, reduceCtorEq] at h
  case ints j l' =>
    split at h
    · rename_i hk
      have := ekEq_eq hk; subst this
      cases h; simpa only [VV] using hv
    · cases h
  case nils => cases h; simp only [VV] at hv; subst hv; exact ⟨by simp, SlC_nil rfl rfl⟩
  case im ps =>
    simp only [VV] at hv
    obtain ⟨cells, h1, h2⟩ := hv
    obtain ⟨rfl, g2, g3⟩ := allInts_VC ps l cells h h1
    rw [g2]; exact ⟨g3, h2⟩
  case big n =>
    split at h
    · rename_i hk
      have := ekEq_eq hk; subst this
      cases h
      simp only [VV] at hv
      exact ⟨fun m hm => dig_inK n m hm, hv⟩
    · cases h
theorem words_VV {x : LV} {l : List (BitVec 128)} {v : Value} (h : cWords real x = some l) (hv : VV ρ w x v) : SlC ρ w v l.length (l.flatMap wordCells) := by
  cases x <;> simp only [cWords, reduceCtorEq] at h
  case words l' => cases h; simpa only [VV] using hv
  case nils => cases h; simp only [VV] at hv; subst hv; exact SlC_nil rfl rfl
  case im ps =>
    simp only [VV] at hv
    obtain ⟨cells, h1, h2⟩ := hv
    obtain ⟨rfl, g2⟩ := allWords_VC ps l cells h h1
    rw [g2]; exact h2
theorem slice_one {x : LV} {cs : List Value} (hx : aggLV x = false) (h : VC ρ w x cs) : ∃ v, cs = [v] ∧ VV ρ w x v := VV_of_cells hx h
theorem getW_VV {lv : LV} {b : BitVec 512} {v : Value} (h : getW real lv = some b) (hv : VV ρ w lv v) : v = .agg (wideCells b).toArray := by
  unfold getW at h
  split at h
  · cases h; simpa only [VV] using hv
  · simp only [VV] at hv
    obtain ⟨cs, rfl, hv⟩ := hv
    rw [allInts8_VC h hv]
  · cases h
theorem getWord_VV {lv : LV} {b : BitVec 128} {v : Value} (h : getWord real lv = some b) (hv : VV ρ w lv v) : v = .agg (wordCells b).toArray := by
  have key := fun cs => getWord_VC (ρ := ρ) (w := w) (cs := cs) h
  unfold getWord at h
  split at h
  · cases h; simpa only [VV] using hv
  · simp only [VV] at hv
    obtain ⟨cs, rfl, hv⟩ := hv
    rw [key cs (by simpa only [VC] using hv)]
  · cases h
theorem isK_some {k : IntKind} {x : LV} {n : Int} (h : isK k x = some n) : ∃ l, asInt x = some (k, n, l) := by
  unfold isK at h
  split at h
  · rename_i j m l e
    split at h
    · rename_i hk; have := kindEq_eq hk; subst this; cases h; exact ⟨l, e⟩
    · cases h
  · cases h
theorem rng_len {α : Type} {l : List α} {v : Value} {cs : List Value} (h : SlC ρ w v l.length cs) : (l.length : Int) < 4611686018427387904 := by obtain ⟨_, _, _, h, _⟩ := h; exact h.1
theorem bool_VC {x : LV} {b : Bool} {cs : List Value} (h : isArgB x = some b) (hv : VC ρ w x cs) : cs = [.bool b] := by
  cases x <;> simp only [isArgB, Option.some.injEq, reduceCtorEq] at h
  · subst h; simpa only [VC] using hv
  · subst h; simpa only [VC] using hv
theorem str_VC {x : LV} {s : ByteArray} {cs : List Value} (h : strOf x = some s) (hv : VC ρ w x cs) : inK .i64 s.size ∧ cs = [.string s] := by
  cases x <;> simp only [strOf, Option.some.injEq, reduceCtorEq] at h
  · subst h; simpa only [VC] using hv
  · subst h; simpa only [VC] using hv
theorem cBig_agg {x : LV} {n : Nat} (h : cBig x = some n) : aggLV x = false := by cases x <;> simp [cBig, aggLV] at h ⊢
theorem cInts_agg {k : EK} {x : LV} {n : List Int} (h : cInts real k x = some n) : aggLV x = false := by cases x <;> simp [cInts, aggLV] at h ⊢
theorem cWords_agg {x : LV} {n : List (BitVec 128)} (h : cWords real x = some n) : aggLV x = false := by cases x <;> simp [cWords, aggLV] at h ⊢

theorem canons_len : ∀ (ts : List AT) (xs ys : List LV), canons real ts xs = some ys → ys.length = xs.length
  | [], [], ys, h => by simp only [canons, Option.some.injEq] at h; subst h; rfl
  | [], _ :: _, ys, h => by simp [canons] at h
  | _ :: _, [], ys, h => by simp [canons] at h
  | t :: ts, x :: xs, ys, h => by
    simp only [canons] at h
    split at h
    · rename_i y ys' e1 e2
      cases h
      simp [canons_len ts xs ys' e2]
    · cases h
mutual
theorem canon_VC : ∀ (t : AT) (x y : LV) (cs : List Value), canon real t x = some y → VC ρ w x cs → VC ρ w y cs ∧ Form t y
  | .int k, x, y, cs, h, hv => by
    simp only [canon] at h
    split at h
    · rename_i n e
      cases h
      obtain ⟨l, e⟩ := isK_some e
      obtain ⟨i, rfl⟩ := asInt_VC e hv
      exact ⟨by simp only [VC]; exact ⟨i, trivial⟩, by simp only [Form]; exact ⟨n, rfl, (inK_iff k n).1 i⟩⟩
    · cases h
  | .bool, x, y, cs, h, hv => by
    simp only [canon] at h
    split at h
    · rename_i b e; cases h; exact ⟨by simp only [VC]; exact bool_VC e hv, by simp only [Form]; exact ⟨b, rfl⟩⟩
    · cases h
  | .str, x, y, cs, h, hv => by
    simp only [canon] at h
    split at h
    · rename_i b e; cases h; exact ⟨by simp only [VC]; exact str_VC e hv, by simp only [Form]; exact ⟨b, rfl, ((inK_iff _ _).1 (str_VC e hv).1).2⟩⟩
    · cases h
  | .wide, x, y, cs, h, hv => by
    simp only [canon] at h
    split at h
    · rename_i b e; cases h; exact ⟨by simp only [VC]; exact getW_VC e hv, by simp only [Form]; exact ⟨b, rfl⟩⟩
    · cases h
  | .word, x, y, cs, h, hv => by
    simp only [canon] at h
    split at h
    · rename_i b e; cases h; exact ⟨by simp only [VC]; exact getWord_VC e hv, by simp only [Form]; exact ⟨b, rfl⟩⟩
    · cases h
  | .big, x, y, cs, h, hv => by
    simp only [canon] at h
    split at h
    · rename_i n e; cases h
      obtain ⟨v, rfl, hu⟩ := slice_one (cBig_agg e) hv
      exact ⟨by simp only [VC]; exact ⟨v, rfl, big_VV e hu⟩, by simp only [Form]; exact ⟨n, rfl, rng_len (big_VV e hu)⟩⟩
    · cases h
  | .ints k, x, y, cs, h, hv => by
    simp only [canon] at h
    split at h
    · rename_i l e; cases h
      obtain ⟨v, rfl, hu⟩ := slice_one (cInts_agg e) hv
      obtain ⟨g1, g2⟩ := ints_VV e hu
      exact ⟨by simp only [VC]; exact ⟨v, rfl, g1, g2⟩, by simp only [Form]; exact ⟨l, rfl, fun n hn => (rgE_iff k n).1 (g1 n hn), rng_len g2⟩⟩
    · cases h
  | .words, x, y, cs, h, hv => by
    simp only [canon] at h
    split at h
    · rename_i l e; cases h
      obtain ⟨v, rfl, hu⟩ := slice_one (cWords_agg e) hv
      have g2 := words_VV e hu
      exact ⟨by simp only [VC]; exact ⟨v, rfl, g2⟩, by simp only [Form]; exact ⟨l, rfl, rng_len g2⟩⟩
    · cases h
  | .st ts, x, y, cs, h, hv => by
    cases x <;> simp only [canon, reduceCtorEq] at h
    rename_i ps
    split at h
    · rename_i l e; cases h
      simp only [VC] at hv
      obtain ⟨g1, g2⟩ := canons_VC ts ps l cs e hv
      exact ⟨by simp only [VC]; exact g1, by simp only [Form]; exact ⟨l, rfl, g2⟩⟩
    · cases h
  | .tup ts, x, y, cs, h, hv => by
    cases x <;> simp only [canon, reduceCtorEq] at h
    simp [VC] at hv
  | .lst ts, x, y, cs, h, hv => by
    cases x <;> simp only [canon, reduceCtorEq] at h
    rename_i ps
    split at h
    · rename_i l e; cases h
      simp only [VC] at hv
      obtain ⟨v, cells, rfl, h1, h2⟩ := hv
      obtain ⟨g1, g2⟩ := canons_VC ts ps l cells e h1
      exact ⟨by simp only [VC]; exact ⟨v, cells, rfl, g1, by rw [canons_len ts ps l e]; exact h2⟩, by simp only [Form]; exact ⟨l, rfl, g2⟩⟩
    · cases h
  | .cell t, x, y, cs, h, hv => by
    cases x <;> simp only [canon, reduceCtorEq] at h
    rename_i c
    split at h
    · rename_i z e; cases h
      simp only [VC] at hv
      obtain ⟨v, cells, rfl, h1, h2⟩ := hv
      obtain ⟨g1, g2⟩ := canon_VC t c z cells e h1
      exact ⟨by simp only [VC]; exact ⟨v, cells, rfl, g1, h2⟩, by simp only [Form]; exact ⟨z, rfl, g2⟩⟩
    · cases h
  | .fnc f ts, x, y, cs, h, hv => by
    cases x <;> simp only [canon, reduceCtorEq] at h
    rename_i g ps
    split at h
    · rename_i l e1 e2
      cases h
      have := natEq_true e1; subst this
      simp only [VC] at hv
      obtain ⟨vs, h0, h1, rfl⟩ := hv
      obtain ⟨g1, g2⟩ := canons_VV ts ps l vs e2 h1
      exact ⟨by simp only [VC]; exact ⟨vs, plains_tames l (canons_plain ts ps l e2), g1, rfl⟩, by simp only [Form]; exact ⟨l, rfl, g2⟩⟩
    · cases h
theorem canons_VC : ∀ (ts : List AT) (xs ys : List LV) (cs : List Value), canons real ts xs = some ys → VCs ρ w xs cs → VCs ρ w ys cs ∧ Forms ts ys
  | [], [], ys, cs, h, hv => by simp only [canons, Option.some.injEq] at h; subst h; exact ⟨hv, by simp only [Forms]⟩
  | [], _ :: _, ys, cs, h, hv => by simp [canons] at h
  | _ :: _, [], ys, cs, h, hv => by simp [canons] at h
  | t :: ts, x :: xs, ys, cs, h, hv => by
    simp only [canons] at h
    split at h
    · rename_i y ys' e1 e2
      cases h
      simp only [VCs] at hv ⊢
      obtain ⟨c1, c2, rfl, h1, h2⟩ := hv
      obtain ⟨g1, g2⟩ := canon_VC t x y c1 e1 h1
      obtain ⟨g3, g4⟩ := canons_VC ts xs ys' c2 e2 h2
      exact ⟨⟨c1, c2, rfl, g1, g3⟩, by simp only [Forms]; exact ⟨y, ys', rfl, g2, g4⟩⟩
    · cases h
theorem canon_VV : ∀ (t : AT) (x y : LV) (v : Value), canon real t x = some y → VV ρ w x v → VV ρ w y v ∧ Form t y
  | .int k, x, y, v, h, hv => by
    simp only [canon] at h
    split at h
    · rename_i n e
      cases h
      obtain ⟨l, e⟩ := isK_some e
      obtain ⟨i, rfl⟩ := VV_int e hv
      exact ⟨by simp only [VV]; exact ⟨i, trivial⟩, by simp only [Form]; exact ⟨n, rfl, (inK_iff k n).1 i⟩⟩
    · cases h
  | .bool, x, y, v, h, hv => by
    simp only [canon] at h
    split at h
    · rename_i b e; cases h; exact ⟨by simp only [VV]; exact VV_bool e hv, by simp only [Form]; exact ⟨b, rfl⟩⟩
    · cases h
  | .str, x, y, v, h, hv => by
    simp only [canon] at h
    split at h
    · rename_i b e; cases h; exact ⟨by simp only [VV]; exact VV_str e hv, by simp only [Form]; exact ⟨b, rfl, ((inK_iff _ _).1 (VV_str e hv).1).2⟩⟩
    · cases h
  | .wide, x, y, v, h, hv => by
    simp only [canon] at h
    split at h
    · rename_i b e; cases h; exact ⟨by simp only [VV]; exact getW_VV e hv, by simp only [Form]; exact ⟨b, rfl⟩⟩
    · cases h
  | .word, x, y, v, h, hv => by
    simp only [canon] at h
    split at h
    · rename_i b e; cases h; exact ⟨by simp only [VV]; exact getWord_VV e hv, by simp only [Form]; exact ⟨b, rfl⟩⟩
    · cases h
  | .big, x, y, v, h, hv => by
    simp only [canon] at h
    split at h
    · rename_i n e; cases h
      exact ⟨by simp only [VV]; exact big_VV e hv, by simp only [Form]; exact ⟨n, rfl, rng_len (big_VV e hv)⟩⟩
    · cases h
  | .ints k, x, y, v, h, hv => by
    simp only [canon] at h
    split at h
    · rename_i l e; cases h
      obtain ⟨g1, g2⟩ := ints_VV e hv
      exact ⟨by simp only [VV]; exact ⟨g1, g2⟩, by simp only [Form]; exact ⟨l, rfl, fun n hn => (rgE_iff k n).1 (g1 n hn), rng_len g2⟩⟩
    · cases h
  | .words, x, y, v, h, hv => by
    simp only [canon] at h
    split at h
    · rename_i l e; cases h
      have g2 := words_VV e hv
      exact ⟨by simp only [VV]; exact g2, by simp only [Form]; exact ⟨l, rfl, rng_len g2⟩⟩
    · cases h
  | .st ts, x, y, v, h, hv => by
    cases x <;> simp only [canon, reduceCtorEq] at h
    rename_i ps
    split at h
    · rename_i l e; cases h
      simp only [VV] at hv
      obtain ⟨cs, rfl, hv⟩ := hv
      obtain ⟨g1, g2⟩ := canons_VC ts ps l cs e hv
      exact ⟨by simp only [VV]; exact ⟨cs, rfl, g1⟩, by simp only [Form]; exact ⟨l, rfl, g2⟩⟩
    · cases h
  | .tup ts, x, y, v, h, hv => by
    cases x <;> simp only [canon, reduceCtorEq] at h
    rename_i ps
    split at h
    · rename_i l e; cases h
      simp only [VV] at hv
      obtain ⟨vs, rfl, hv⟩ := hv
      obtain ⟨g1, g2⟩ := canons_VV ts ps l vs e hv
      exact ⟨by simp only [VV]; exact ⟨vs, rfl, g1⟩, by simp only [Form]; exact ⟨l, rfl, g2⟩⟩
    · cases h
  | .lst ts, x, y, v, h, hv => by
    cases x <;> simp only [canon, reduceCtorEq] at h
    rename_i ps
    split at h
    · rename_i l e; cases h
      simp only [VV] at hv
      obtain ⟨cells, h1, h2⟩ := hv
      obtain ⟨g1, g2⟩ := canons_VC ts ps l cells e h1
      exact ⟨by simp only [VV]; exact ⟨cells, g1, by rw [canons_len ts ps l e]; exact h2⟩, by simp only [Form]; exact ⟨l, rfl, g2⟩⟩
    · cases h
  | .cell t, x, y, v, h, hv => by
    cases x <;> simp only [canon, reduceCtorEq] at h
    rename_i c
    split at h
    · rename_i z e; cases h
      simp only [VV] at hv
      obtain ⟨cells, h1, h2⟩ := hv
      obtain ⟨g1, g2⟩ := canon_VC t c z cells e h1
      exact ⟨by simp only [VV]; exact ⟨cells, g1, h2⟩, by simp only [Form]; exact ⟨z, rfl, g2⟩⟩
    · cases h
  | .fnc f ts, x, y, v, h, hv => by
    cases x <;> simp only [canon, reduceCtorEq] at h
    rename_i g ps
    split at h
    · rename_i l e1 e2
      cases h
      have := natEq_true e1; subst this
      simp only [VV] at hv
      obtain ⟨vs, h0, h1, rfl⟩ := hv
      obtain ⟨g1, g2⟩ := canons_VV ts ps l vs e2 h1
      exact ⟨by simp only [VV]; exact ⟨vs, plains_tames l (canons_plain ts ps l e2), g1, rfl⟩, by simp only [Form]; exact ⟨l, rfl, g2⟩⟩
    · cases h
theorem canons_VV : ∀ (ts : List AT) (xs ys : List LV) (vs : List Value), canons real ts xs = some ys → VVs ρ w xs vs → VVs ρ w ys vs ∧ Forms ts ys
  | [], [], ys, vs, h, hv => by simp only [canons, Option.some.injEq] at h; subst h; exact ⟨hv, by simp only [Forms]⟩
  | [], _ :: _, ys, vs, h, hv => by simp [canons] at h
  | _ :: _, [], ys, vs, h, hv => by simp [canons] at h
  | t :: ts, x :: xs, ys, vs, h, hv => by
    simp only [canons] at h
    split at h
    · rename_i y ys' e1 e2
      cases h
      simp only [VVs] at hv ⊢
      obtain ⟨v, vs', rfl, h1, h2⟩ := hv
      obtain ⟨g1, g2⟩ := canon_VV t x y v e1 h1
      obtain ⟨g3, g4⟩ := canons_VV ts xs ys' vs' e2 h2
      exact ⟨⟨v, vs', rfl, g1, g3⟩, by simp only [Forms]; exact ⟨y, ys', rfl, g2, g4⟩⟩
    · cases h
end
end

/-- a result, told by what it is -/
def kR (rt : AT) (r lv : LV) : Prop := canon real rt lv = some r
/-- a loop of unknown length: S tells the state by what varies, P what is so, with at most m rounds to go -/
theorem loop_rule {α : Type} (S : α → St) (P : Nat → α → Prop) {body : (Ex → St → Prop) → St → Prop} {K : Ex → St → Prop}
    (h : ∀ m x (X : St → Prop), P m x → (∀ m' x', m = m' + 1 → P m' x' → X (S x')) → body (fun e s => match e with | .normal => X s | e => K e s) (S x)) : ∀ m x, P m x → ∃ n, loopW body K n (S x) := by
  have key : ∀ m x, P m x → loopW body K (m + 1) (S x) := by
    intro m
    induction m with
    | zero => intro x hx; exact h 0 x _ hx fun m' x' e => by omega
    | succ m ih => intro x hx; exact h (m + 1) x _ hx fun m' x' e hx' => by cases e; exact ih x' hx'
  exact fun m x hx => ⟨m + 1, key m x hx⟩
/-- A SPECIFICATION OF A FUNCTION, by its body -/
theorem spec_of_body {P : Program} {E : Env} (hE : EnvFull P E) (hd : fnsOk E.fns = true) {f : FuncId} {fn : Func} (hf : P.funcs[f]? = some fn) (hb : fn.body.isSome = true) (hdc : drawsOk (bodyOf fn) = true) (hn : (fn.name == "runtime.NumGoroutine") = false)
    (n : Nat) (ts : List AT) (g : List LV → R LV) (rt : AT)
    (h : ∀ l r, Forms ts l → (g l).Y r → fnW real E n (bodyOf fn) fn.ntmps fn.results.toList l (kR rt r)) : SpecOk P E.globs f (mkSpec real ts g) := by
  refine ⟨⟨fn, bodyOf fn, hf, body_some hb, hn⟩, fun args r hY w vals hv hg => ?_⟩
  unfold mkSpec at hY
  split at hY
  · rename_i l hl
    obtain ⟨hv', hfm⟩ := canons_VV ts args l vals hl hv
    refine (fn_sound hE hd hf (body_some hb) hdc (h l r hfm hY) hv' hg).mono fun e w' ⟨v, lv, ρ', he, hk, hvv, hbel⟩ => ?_
    exact ⟨v, he, VV_none r v (canon_plain rt lv r hk) (canon_VV rt lv r v hk hvv).1, hbel⟩
  · exact hY.elim

/-- the same value, told otherwise -/
def Same (x y : LV) : Prop := ∀ (ρ : Nat → Option Nat) (w : World) (v : Value), VV ρ w x v → VV ρ w y v
theorem same_refl (x : LV) : Same x x := fun _ _ _ h => h
theorem same_lit (k : IntKind) (n : Int) : Same (.int k n) (.lit k n) := fun _ _ _ h => by simpa only [VV] using h
theorem same_blit (b : Bool) : Same (.bool b) (.blit b) := fun _ _ _ h => by simpa only [VV] using h
theorem same_slit (s : ByteArray) : Same (.str s) (.slit s) := fun _ _ _ h => by simpa only [VV] using h
def SameL : List LV → List LV → Prop
  | [], [] => True
  | x :: xs, y :: ys => Same x y ∧ SameL xs ys
  | _, _ => False
theorem SameL_VVs {ρ : Nat → Option Nat} {w : World} : ∀ (xs ys : List LV) (vs : List Value), SameL xs ys → VVs ρ w xs vs → VVs ρ w ys vs
  | [], [], vs, _, h => h
  | [], _ :: _, _, h, _ => h.elim
  | _ :: _, [], _, h, _ => h.elim
  | x :: xs, y :: ys, vs, h, hv => by
    simp only [VVs] at hv ⊢
    obtain ⟨v, vs', rfl, h1, h2⟩ := hv
    exact ⟨v, vs', rfl, h.1 _ _ _ h1, SameL_VVs xs ys vs' h.2 h2⟩
/-- .. its arguments told as the evaluation likes them -/
theorem spec_of_body' {P : Program} {E : Env} (hE : EnvFull P E) (hd : fnsOk E.fns = true) {f : FuncId} {fn : Func} (hf : P.funcs[f]? = some fn) (hb : fn.body.isSome = true) (hdc : drawsOk (bodyOf fn) = true) (hn : (fn.name == "runtime.NumGoroutine") = false)
    (n : Nat) (ts : List AT) (g : List LV → R LV) (rt : AT)
    (h : ∀ l r, Forms ts l → (g l).Y r → ∃ l', SameL l l' ∧ fnW real E n (bodyOf fn) fn.ntmps fn.results.toList l' (kR rt r)) : SpecOk P E.globs f (mkSpec real ts g) := by
  refine ⟨⟨fn, bodyOf fn, hf, body_some hb, hn⟩, fun args r hY w vals hv hg => ?_⟩
  unfold mkSpec at hY
  split at hY
  · rename_i l hl
    obtain ⟨hv', hfm⟩ := canons_VV ts args l vals hl hv
    obtain ⟨l', hs, h⟩ := h l r hfm hY
    refine (fn_sound hE hd hf (body_some hb) hdc h (SameL_VVs _ _ _ hs hv') hg).mono fun e w' ⟨v, lv, ρ', he, hk, hvv, hbel⟩ => ?_
    exact ⟨v, he, VV_none r v (canon_plain rt lv r hk) (canon_VV rt lv r v hk hvv).1, hbel⟩
  · exact hY.elim
end Go.LE
namespace Go.LE
open Go Go.RowKit Go.ChangeShapes Go.WideShapes

/-! ## arguments, read by the form: told as abstract values -/
/-- types that are read here: numbers, bools, strings, structs and arrays of such -/
def Ty.flatT : Ty → Bool
  | .int _ | .bool | .str => true
  | .struct fs => flatTs fs
  | .arr _ e => e.flatT
  | _ => false
where flatTs : List Ty → Bool
  | [] => true
  | t :: ts => t.flatT && flatTs ts
def rawAT : Ty → AT
  | .int k => .int k
  | .bool => .bool
  | .str => .str
  | .struct fs => .st (rawATs fs)
  | .arr n e => .st (List.replicate n (rawAT e))
  | .slice (.int k) => .ints (.int k)
  | .slice (.struct _) => .words
  | _ => .bool
where rawATs : List Ty → List AT
  | [] => []
  | t :: ts => rawAT t :: rawATs ts
def dataOf {H : Type} : LV → DataW H
  | .int k n | .lit k n => .lit (.int k n)
  | .bool b | .blit b => .lit (.bool b)
  | .str s | .slit s => .lit (.string s.data.toList)
  | .agg ps => .agg (dataOfs ps)
  | _ => .nil
where dataOfs : List LV → List (DataW H)
  | [] => []
  | p :: ps => dataOf p :: dataOfs ps

section
variable {H : Type} {enc : TypeId × Value → H} {P : Program} {w : World} {base : Nat} {spare : Nat → Bool} {held : Bool}
theorem inK_of_wf {k : IntKind} {n : Int} (h : (Lit.int k n).wf = true) : k.min ≤ n ∧ n ≤ k.max := by
  simpa [Lit.wf] using h
theorem cellsOf_eq {ty : Ty} {t : TypeId} (h : TyRep P ty t) : P.cellsOf t = ty.size := by
  obtain ⟨i, z, hi, hs, _⟩ := TyRep.inf h
  unfold Program.cellsOf
  rw [hi]
  exact hs

theorem els_read {e : Ty} {t : TypeId} {m : Nat} (hsz : P.cellsOf t = e.size)
    (one : ∀ cs (x : DataW H × List MemPlace), DataW.trod enc P w base spare held m t cs = some x → ∃ lv, VC none' w lv cs ∧ Form (rawAT e) lv ∧ shape e lv = true ∧ x.1 = dataOf lv ∧ x.2 = []) :
    ∀ (n : Nat) (cs : List Value) (xs : List (DataW H × List MemPlace)), cs.length = n * e.size → xs.length = n →
      (∀ i, i < n → DataW.trod enc P w base spare held m t ((cs.drop (i * P.cellsOf t)).take (P.cellsOf t)) = xs[i]?) →
      ∃ lvs, VCs none' w lvs cs ∧ Forms (List.replicate n (rawAT e)) lvs ∧ shapeEl e lvs = true ∧ lvs.length = n ∧ xs.map (·.1) = dataOf.dataOfs lvs ∧ xs.flatMap (·.2) = []
  | 0, cs, xs, hc, hx, _ => by
    have : cs = [] := List.length_eq_zero_iff.1 (by simpa using hc)
    have h2 : xs = [] := List.length_eq_zero_iff.1 hx
    subst this h2
    exact ⟨[], rfl, rfl, rfl, rfl, rfl, rfl⟩
  | n + 1, cs, xs, hc, hx, h => by
    obtain ⟨x, xs, rfl⟩ : ∃ x r, xs = x :: r := by cases xs with | nil => cases hx | cons x r => exact ⟨x, r, rfl⟩
    rw [hsz] at h
    have h0 := h 0 (by omega)
    simp only [Nat.zero_mul, List.drop_zero, List.getElem?_cons_zero] at h0
    obtain ⟨lv, g1, g2, g3, g4, g5⟩ := one _ _ h0
    have hlen : (cs.drop e.size).length = n * e.size := by rw [List.length_drop, hc, Nat.succ_mul]; omega
    obtain ⟨lvs, k1, k2, k3, k4, k5, k6⟩ := els_read hsz one n (cs.drop e.size) xs hlen (by simpa using hx) (fun i hi => by
      have := h (i + 1) (by omega)
      rw [hsz, List.drop_drop, Nat.add_comm e.size, ← Nat.succ_mul, this, List.getElem?_cons_succ])
    refine ⟨lv :: lvs, ⟨_, _, (List.take_append_drop e.size cs).symm, g1, k1⟩, ⟨lv, lvs, rfl, g2, k2⟩, ?_, by simp [k4], by simp [dataOf.dataOfs, g4, k5], by simp [g5, k6]⟩
    simp only [shapeEl, g3, k3, Bool.and_self]

mutual
theorem read_VC : ∀ (ty : Ty) (t : TypeId) (fuel : Nat) (cs : List Value) (x : DataW H × List MemPlace), TyRep P ty t → ty.flatT = true → DataW.trod enc P w base spare held fuel t cs = some x →
    ∃ lv, VC none' w lv cs ∧ Form (rawAT ty) lv ∧ shape ty lv = true ∧ x.1 = dataOf lv ∧ x.2 = []
  | .int k, t, fuel, cs, x, ht, _, h => by
    obtain ⟨n, rfl, rfl, hw⟩ := DataW.trod_int (show P.underlying t = some (.int k) by simp only [TyRep] at ht; exact ht.2) h
    have := inK_of_wf hw
    exact ⟨.int k n, by simp only [VC]; exact ⟨(inK_iff _ _).2 this, trivial⟩, by simp only [rawAT, Form]; exact ⟨n, rfl, this⟩, by simp only [shape]; exact kindEq_refl k, rfl, rfl⟩
  | .bool, t, fuel, cs, x, ht, _, h => by
    obtain ⟨b, rfl, rfl⟩ := DataW.trod_bool (show P.underlying t = some .bool by simp only [TyRep] at ht; exact ht.2) h
    exact ⟨.bool b, by simp only [VC], by simp only [rawAT, Form]; exact ⟨b, rfl⟩, rfl, rfl, rfl⟩
  | .str, t, fuel, cs, x, ht, _, h => by
    obtain ⟨s, rfl, rfl, hs⟩ := DataW.trod_string (show P.underlying t = some .string by simp only [TyRep] at ht; exact ht.2) h
    have hs2 : s.size ≤ 9223372036854775807 := hs
    have hs' : (s.size : Int) ≤ 9223372036854775807 := by omega
    exact ⟨.str s, by simp only [VC]; exact ⟨(inK_iff _ _).2 ⟨by rw [show IntKind.i64.min = -9223372036854775808 from rfl]; omega, hs'⟩, trivial⟩, by simp only [rawAT, Form]; exact ⟨s, rfl, hs'⟩, rfl, rfl, rfl⟩
  | .struct fs, t, fuel, cs, x, ht, hf, h => by
    have hsz := cellsOf_eq ht
    simp only [TyRep] at ht
    obtain ⟨_, _, _, fields, hu, hr⟩ := ht
    obtain ⟨xs, n, rfl, rfl, hl, hxl, hx⟩ := DataW.trod_struct hu h
    rw [hsz] at hl
    obtain ⟨lvs, k1, k2, k3, k4, k5⟩ := reads_VC fs fields.toList 0 n cs xs hr (by simpa only [Ty.flatT] using hf) (by simpa only [Ty.size, Nat.zero_add] using hl) (by simpa using hxl) (fun i f hi => hx i f (by simpa using hi))
    refine ⟨.agg lvs, by simp only [VC]; simpa using k1, by simp only [rawAT, Form]; exact ⟨lvs, rfl, k2⟩, by simp only [shape]; exact k3, by simp only [dataOf, k4], by simp only [k5]⟩
  | .arr n e, t, fuel, cs, x, ht, hf, h => by
    have hsz := cellsOf_eq ht
    simp only [TyRep] at ht
    obtain ⟨_, _, et, hu, hr⟩ := ht
    obtain ⟨xs, m, rfl, rfl, hl, hxl, hx⟩ := DataW.trod_array hu h
    rw [hsz] at hl
    obtain ⟨lvs, k1, k2, k3, k4, k5, k6⟩ := els_read (cellsOf_eq hr) (fun cs x h => read_VC e et m cs x hr (by simpa only [Ty.flatT] using hf) h) n cs xs (by simpa only [Ty.size] using hl) hxl hx
    refine ⟨.agg lvs, by simp only [VC]; exact k1, by simp only [rawAT, Form]; exact ⟨lvs, rfl, k2⟩, by simp only [shape, k4, k3, Bool.and_true]; exact beq_self_eq_true n, by simp only [dataOf, k5], by simp only [k6]⟩
  | .slice _, _, _, _, _, _, hf, _ => by simp [Ty.flatT] at hf
  | .func, _, _, _, _, _, hf, _ => by simp [Ty.flatT] at hf
theorem reads_VC : ∀ (ts : List Ty) (fs : List Field) (off : Nat) (n : Nat) (cs : List Value) (xs : List (DataW H × List MemPlace)), TyReps P ts fs off → Ty.flatT.flatTs ts = true → cs.length = off + Ty.sizes ts → xs.length = fs.length →
    (∀ (i : Nat) (f : Field), fs[i]? = some f → DataW.trod enc P w base spare held n f.type ((cs.drop f.offset).take (P.cellsOf f.type)) = xs[i]?) →
    ∃ lvs, VCs none' w lvs (cs.drop off) ∧ Forms (rawAT.rawATs ts) lvs ∧ shapes ts lvs = true ∧ xs.map (·.1) = dataOf.dataOfs lvs ∧ xs.flatMap (·.2) = []
  | [], fs, off, n, cs, xs, hr, _, hl, hxl, _ => by
    simp only [TyReps] at hr
    subst hr
    have h2 : xs = [] := List.length_eq_zero_iff.1 hxl
    subst h2
    refine ⟨[], ?_, rfl, rfl, rfl, rfl⟩
    simp only [VCs]
    exact List.drop_eq_nil_of_le (by simp only [Ty.sizes] at hl; omega)
  | t :: ts, fs, off, n, cs, xs, hr, hf, hl, hxl, h => by
    simp only [TyReps] at hr
    obtain ⟨f, fs, rfl, hoff, _, _, h1, h2⟩ := hr
    obtain ⟨x, xs, rfl⟩ : ∃ x r, xs = x :: r := by cases xs with | nil => cases hxl | cons x r => exact ⟨x, r, rfl⟩
    simp only [Ty.flatT.flatTs, Bool.and_eq_true] at hf
    have h0 := h 0 f rfl
    rw [hoff, cellsOf_eq h1] at h0
    obtain ⟨lv, g1, g2, g3, g4, g5⟩ := read_VC t f.type n _ x h1 hf.1 (by simpa using h0)
    obtain ⟨lvs, k1, k2, k3, k4, k5⟩ := reads_VC ts fs (off + t.size) n cs xs h2 hf.2 (by simp only [Ty.sizes] at hl; omega) (by simpa using hxl) (fun i f hi => by
      have := h (i + 1) f (by simpa using hi)
      simpa using this)
    refine ⟨lv :: lvs, ⟨_, _, ?_, g1, k1⟩, ⟨lv, lvs, rfl, g2, k2⟩, by simp only [shapes, g3, k3, Bool.and_self], by simp [dataOf.dataOfs, g4, k4], by simp [g5, k5]⟩
    rw [← List.drop_drop, List.take_append_drop]
end

/-! ### slices that came in -/
def Ty.sliceT : Ty → Bool
  | .slice (.int _) => true
  | .slice (.struct [.int .u64, .int .u64]) => true
  | _ => false
theorem spot_none {a : Addr} {v : Value} (h : w.cell? a = some v) : a = ⟨a.block, a.off, none⟩ := by
  unfold World.cell? at h
  obtain ⟨b, o, s⟩ := a
  split at h
  · cases s with
    | none => rfl
    | some s => simp at h
  · cases h
theorem spot_add {a : Addr} {i : Nat} (h : a = ⟨a.block, a.off, none⟩) : a.add i = ⟨a.block, a.off + i, none⟩ := by
  rw [h]; exact addr_add _ _ _
/-- a list by its places -/
theorem list_of {α : Type} {p : Nat → α → Prop} : ∀ (n : Nat), (∀ i, i < n → ∃ x, p i x) → ∃ l : List α, l.length = n ∧ ∀ i x, l[i]? = some x → p i x
  | 0, _ => ⟨[], rfl, fun i x h => by simp at h⟩
  | n + 1, h => by
    obtain ⟨l, h1, h2⟩ := list_of n fun i hi => h i (by omega)
    obtain ⟨x, hx⟩ := h n (by omega)
    refine ⟨l ++ [x], by simp [h1], fun i y hy => ?_⟩
    by_cases hi : i < l.length
    · rw [List.getElem?_append_left hi] at hy; exact h2 i y hy
    · rw [List.getElem?_append_right (by omega)] at hy
      have hi0 : i - l.length = 0 := by
        have := (List.getElem?_eq_some_iff.1 hy).1
        simp at this; omega
      rw [hi0] at hy
      simp at hy
      subst hy
      rw [show i = n by omega]; exact hx
theorem read_slice {ty : Ty} {t : TypeId} {fuel : Nat} {cs : List Value} {x : DataW H × List MemPlace} (ht : TyRep P ty t) (hty : ty.sliceT = true) (h : DataW.trod enc P w base spare held fuel t cs = some x)
    (hb : ∀ es sp, x.1 = .slice es sp → (es.length : Int) < 4611686018427387904) : ∃ lv, VC none' w lv cs ∧ Form (rawAT ty) lv := by
  unfold Ty.sliceT at hty
  split at hty
  · rename_i k
    simp only [TyRep] at ht
    obtain ⟨_, et, hu, hr⟩ := ht
    have hsz := cellsOf_eq (P := P) (ty := .int k) (t := et) (by simp only [TyRep]; exact hr)
    rcases DataW.trod_slice hu h with ⟨rfl, _⟩ | ⟨a, len, cap, elems, rest, n, _, rfl, hx, _, hcap, _, hlen, hel, _, _⟩
    · exact ⟨.ints (.int k) [], by simp only [VC]; exact ⟨_, rfl, by simp, SlC_nil rfl rfl⟩, by simp only [rawAT, Form]; exact ⟨[], rfl, by simp, by decide⟩⟩
    · have hlb := hb (elems.map (·.1)) (rest.map (·.1)) (by rw [hx])
      simp only [List.length_map] at hlb
      have each : ∀ i, i < len → ∃ z : Int, (k.min ≤ z ∧ z ≤ k.max) ∧ w.cell? (a.add i) = some (.int k z) := by
        intro i hi
        have h1 := hel i hi
        rw [hsz] at h1
        have : ∃ y, elems[i]? = some y := ⟨elems[i], by simp [hlen, hi]⟩
        obtain ⟨y, hy⟩ := this
        rw [hy] at h1
        obtain ⟨c, hc, ht⟩ := Option.bind_eq_some_iff.1 h1
        obtain ⟨z, rfl, _, hw⟩ := DataW.trod_int hr.2 ht
        have := (World.cells?_some hc).2.2 0 (by show 0 < 1; omega)
        refine ⟨z, inK_of_wf hw, ?_⟩
        simpa [Addr.add, Ty.size] using this
      obtain ⟨l, hl, hlp⟩ := list_of len each
      have hin : ∀ z ∈ l, k.min ≤ z ∧ z ≤ k.max := fun z hz => by
        obtain ⟨i, hi⟩ := List.mem_iff_getElem?.1 hz
        exact (hlp i z hi).1
      refine ⟨.ints (.int k) l, ?_, by simp only [rawAT, Form]; exact ⟨l, rfl, hin, by rw [hl, ← hlen]; exact hlb⟩⟩
      · simp only [VC]
        refine ⟨_, rfl, fun z hz => (inK_iff _ _).2 (hin z hz), some a, cap, by rw [hl], by rw [hl]; exact ⟨by rw [← hlen]; exact hlb, hcap⟩, ?_⟩
        by_cases h0 : len = 0
        · left
          rw [h0] at hl
          rw [List.length_eq_zero_iff.1 hl]; rfl
        · right
          obtain ⟨z0, _, hc0⟩ := each 0 (by omega)
          have hs := spot_none (a := a) (by simpa [Addr.add] using hc0)
          refine ⟨a.block, a.off, by rw [← hs], fun k => by simp [none'], fun i hi => ?_⟩
          rw [List.length_map] at hi
          rw [← spot_add hs, List.getElem?_map]
          have : l[i]? = some l[i] := by simp [hi]
          rw [this, (hlp i _ this).2]
          rfl
  · have ht' := ht
    simp only [TyRep] at ht
    obtain ⟨_, et, hu, hr⟩ := ht
    have hr' : TyRep P (.struct [.int .u64, .int .u64]) et := by simp only [TyRep]; exact hr
    have hsz : P.cellsOf et = 2 := (cellsOf_eq hr').trans rfl
    rcases DataW.trod_slice hu h with ⟨rfl, _⟩ | ⟨a, len, cap, elems, rest, n, _, rfl, hx, _, hcap, _, hlen, hel, _, _⟩
    · exact ⟨.words [], by simp only [VC]; exact ⟨_, rfl, SlC_nil rfl rfl⟩, by simp only [rawAT, Form]; exact ⟨[], rfl, by decide⟩⟩
    · have hlb := hb (elems.map (·.1)) (rest.map (·.1)) (by rw [hx])
      simp only [List.length_map] at hlb
      have each : ∀ i, i < len → ∃ z : BitVec 128, w.cell? (a.add (i * 2)) = some (.int .u64 (hiR z)) ∧ w.cell? ((a.add (i * 2)).add 1) = some (.int .u64 (loR z)) := by
        intro i hi
        have h1 := hel i hi
        rw [hsz] at h1
        have : ∃ y, elems[i]? = some y := ⟨elems[i], by simp [hlen, hi]⟩
        obtain ⟨y, hy⟩ := this
        rw [hy] at h1
        obtain ⟨c, hc, htr⟩ := Option.bind_eq_some_iff.1 h1
        obtain ⟨lv, g1, g2, _⟩ := read_VC _ et n c y hr' rfl htr
        simp only [rawAT, rawAT.rawATs, Form, Forms] at g2
        obtain ⟨_, rfl, _, _, rfl, ⟨p, rfl, hp⟩, _, _, rfl, ⟨q, rfl, hq⟩, rfl⟩ := g2
        have hw := getWord_VC (lv := .agg [.int .u64 p, .int .u64 q]) (b := mkWordR p q) (by simp only [getWord, asInt]; rfl) g1
        subst hw
        have h2 := (World.cells?_some hc).2.2
        refine ⟨mkWordR p q, ?_, ?_⟩
        · have := h2 0 (by show 0 < 2; omega)
          simpa [Addr.add, wordCells] using this
        · have := h2 1 (by show 1 < 2; omega)
          simpa [wordCells] using this
      obtain ⟨l, hl, hlp⟩ := list_of len each
      refine ⟨.words l, ?_, by simp only [rawAT, Form]; exact ⟨l, rfl, by rw [hl, ← hlen]; exact hlb⟩⟩
      simp only [VC]
      refine ⟨_, rfl, some a, cap, by rw [hl], by rw [hl]; exact ⟨by rw [← hlen]; exact hlb, hcap⟩, ?_⟩
      by_cases h0 : len = 0
      · left
        rw [h0] at hl
        rw [List.length_eq_zero_iff.1 hl]; rfl
      · right
        obtain ⟨z0, hc0, _⟩ := each 0 (by omega)
        have hs := spot_none (a := a) (by simpa [Addr.add] using hc0)
        refine ⟨a.block, a.off, by rw [← hs], fun k => by simp [none'], fun i hi => ?_⟩
        have hfl : ∀ (l : List (BitVec 128)) (i : Nat), (l.flatMap wordCells)[i]? = (l[i / 2]?).map fun b => if i % 2 = 0 then .int .u64 (hiR b) else .int .u64 (loR b) := by
          intro l
          induction l with
          | nil => intro i; simp
          | cons b l ih =>
            intro i
            rw [List.flatMap_cons]
            rcases i with _ | _ | i
            · rfl
            · rfl
            · rw [List.getElem?_append_right (by simp [wordCells])]
              rw [show i + 1 + 1 - (wordCells b).length = i by simp [wordCells], ih, show (i + 1 + 1) / 2 = i / 2 + 1 by omega, show (i + 1 + 1) % 2 = i % 2 by omega, List.getElem?_cons_succ]
        have hll : (l.flatMap wordCells).length = 2 * l.length := by
          clear hlp hl hi
          induction l with
          | nil => rfl
          | cons b l ih => rw [List.flatMap_cons, List.length_append, ih]; simp [wordCells]; omega
        rw [hll] at hi
        rw [hfl]
        have hi2 : i / 2 < l.length := by omega
        have hg : l[i / 2]? = some l[i / 2] := by simp [hi2]
        rw [hg]
        obtain ⟨p1, p2⟩ := hlp (i / 2) _ hg
        rw [spot_add hs] at p1 p2
        have p2' := p2
        rw [addr_add] at p2'
        rcases Nat.mod_two_eq_zero_or_one i with hm | hm
        · rw [Option.map_some, if_pos hm, show a.off + i = a.off + i / 2 * 2 by omega]; exact p1
        · rw [Option.map_some, if_neg (by omega), show a.off + i = a.off + i / 2 * 2 + 1 by omega]; exact p2'
  · cases hty
end
end Go.LE
namespace Go.LE
open Go Go.RowKit Go.ChangeShapes Go.WideShapes

mutual
/-- may a specification's argument be told of values of a type? -/
def atOk : AT → Ty → Bool
  | .int k, .int j => kindEq k j
  | .bool, .bool => true
  | .str, .str => true
  | .wide, .arr 8 (.int .u64) => true
  | .word, .struct [.int .u64, .int .u64] => true
  | .ints (.int k), .slice (.int j) => kindEq k j
  | .words, .slice (.struct _) => true
  | .st l, .struct fs => atOks l fs
  | .st l, .arr n e => natEq l.length n && atEl l e
  | _, _ => false
def atOks : List AT → List Ty → Bool
  | [], [] => true
  | a :: l, t :: ts => atOk a t && atOks l ts
  | _, _ => false
def atEl : List AT → Ty → Bool
  | [], _ => true
  | a :: l, t => atOk a t && atEl l t
end
theorem rawAT_struct (fs : List Ty) : rawAT (.struct fs) = .st (rawAT.rawATs fs) := by simp only [rawAT]
mutual
theorem canon_ok : ∀ (a : AT) (ty : Ty) (x : LV), atOk a ty = true → Form (rawAT ty) x → ∃ y, canon real a x = some y
  | .int k, ty, x, h, hf => by
    cases ty <;> simp only [atOk, Bool.false_eq_true] at h
    rename_i j
    have := kindEq_eq h; subst this
    simp only [rawAT, Form] at hf
    obtain ⟨n, rfl, _⟩ := hf
    exact ⟨.int k n, by simp only [canon, isK, asInt, kindEq_refl]⟩
  | .bool, ty, x, h, hf => by
    cases ty <;> simp only [atOk, Bool.false_eq_true] at h
    simp only [rawAT, Form] at hf
    obtain ⟨n, rfl⟩ := hf
    exact ⟨.bool n, by simp only [canon, isArgB]⟩
  | .str, ty, x, h, hf => by
    cases ty <;> simp only [atOk, Bool.false_eq_true] at h
    simp only [rawAT, Form] at hf
    obtain ⟨n, rfl, _⟩ := hf
    exact ⟨.str n, by simp only [canon, strOf]⟩
  | .wide, ty, x, h, hf => by
    unfold atOk at h
    split at h <;> first | cases h | skip
    all_goals first | (rename_i e _; cases e; done) | skip
    all_goals first | (rename_i e; cases e; done) | skip
    simp only [rawAT, Form, List.replicate, Forms] at hf
    obtain ⟨_, rfl, _, _, rfl, ⟨a, rfl, _⟩, _, _, rfl, ⟨b, rfl, _⟩, _, _, rfl, ⟨c, rfl, _⟩, _, _, rfl, ⟨d, rfl, _⟩, _, _, rfl, ⟨e, rfl, _⟩, _, _, rfl, ⟨f, rfl, _⟩, _, _, rfl, ⟨g, rfl, _⟩, _, _, rfl, ⟨h, rfl, _⟩, rfl⟩ := hf
    exact ⟨_, by simp only [canon, getW, allInts8, asInt]; rfl⟩
  | .word, ty, x, h, hf => by
    unfold atOk at h
    split at h <;> first | cases h | skip
    all_goals first | (rename_i e _; cases e; done) | skip
    all_goals first | (rename_i e; cases e; done) | skip
    simp only [rawAT, rawAT.rawATs, Form, Forms] at hf
    obtain ⟨_, rfl, _, _, rfl, ⟨a, rfl, _⟩, _, _, rfl, ⟨b, rfl, _⟩, rfl⟩ := hf
    exact ⟨_, by simp only [canon, getWord, asInt]; rfl⟩
  | .big, ty, x, h, _ => by cases ty <;> simp [atOk] at h
  | .ints k, ty, x, h, hf => by
    unfold atOk at h
    split at h <;> first | (rename_i e _; cases e; done) | (rename_i e; cases e; done) | skip
    all_goals first | (cases h; done) | skip
    rename_i k' j e1
    cases e1
    have := kindEq_eq h; subst this
    simp only [rawAT, Form] at hf
    obtain ⟨l, rfl, _⟩ := hf
    exact ⟨_, by simp only [canon, cInts, ekEq, kindEq_refl]; rfl⟩
  | .words, ty, x, h, hf => by
    unfold atOk at h
    split at h <;> first | (rename_i e _; cases e; done) | (rename_i e; cases e; done) | skip
    all_goals first | (cases h; done) | skip
    simp only [rawAT, Form] at hf
    obtain ⟨l, rfl, _⟩ := hf
    exact ⟨_, by simp only [canon, cWords]; rfl⟩
  | .tup _, ty, x, h, _ => by cases ty <;> simp [atOk] at h
  | .lst _, ty, x, h, _ => by cases ty <;> simp [atOk] at h
  | .cell _, ty, x, h, _ => by cases ty <;> simp [atOk] at h
  | .fnc _ _, ty, x, h, _ => by cases ty <;> simp [atOk] at h
  | .st l, ty, x, h, hf => by
    cases ty <;> simp only [atOk, Bool.false_eq_true, Bool.and_eq_true] at h
    · simp only [rawAT, Form] at hf
      obtain ⟨xs, rfl, hf⟩ := hf
      obtain ⟨ys, hy⟩ := canons_ok l _ xs h hf
      exact ⟨.agg ys, by simp only [canon, hy]⟩
    · simp only [rawAT, Form] at hf
      obtain ⟨xs, rfl, hf⟩ := hf
      have := natEq_true h.1
      subst this
      obtain ⟨ys, hy⟩ := canonEl_ok l _ xs h.2 hf
      exact ⟨.agg ys, by simp only [canon, hy]⟩
theorem canons_ok : ∀ (l : List AT) (ts : List Ty) (xs : List LV), atOks l ts = true → Forms (rawAT.rawATs ts) xs → ∃ ys, canons real l xs = some ys
  | [], ts, xs, h, hf => by
    cases ts <;> simp only [atOks, Bool.false_eq_true] at h
    simp only [rawAT.rawATs, Forms] at hf
    subst hf
    exact ⟨[], by simp only [canons]⟩
  | a :: l, ts, xs, h, hf => by
    cases ts <;> simp only [atOks, Bool.false_eq_true, Bool.and_eq_true] at h
    simp only [rawAT.rawATs, Forms] at hf
    obtain ⟨x, xs, rfl, h1, h2⟩ := hf
    obtain ⟨y, hy⟩ := canon_ok a _ x h.1 h1
    obtain ⟨ys, hys⟩ := canons_ok l _ xs h.2 h2
    exact ⟨y :: ys, by simp only [canons, hy, hys]⟩
theorem canonEl_ok : ∀ (l : List AT) (t : Ty) (xs : List LV), atEl l t = true → Forms (List.replicate l.length (rawAT t)) xs → ∃ ys, canons real l xs = some ys
  | [], t, xs, h, hf => by
    simp only [List.length_nil, List.replicate, Forms] at hf
    subst hf
    exact ⟨[], by simp only [canons]⟩
  | a :: l, t, xs, h, hf => by
    simp only [atEl, Bool.and_eq_true] at h
    simp only [List.length_cons, List.replicate, Forms] at hf
    obtain ⟨x, xs, rfl, h1, h2⟩ := hf
    obtain ⟨y, hy⟩ := canon_ok a _ x h.1 h1
    obtain ⟨ys, hys⟩ := canonEl_ok l _ xs h.2 h2
    exact ⟨y :: ys, by simp only [canons, hy, hys]⟩
end

section
variable {H : Type} {enc : TypeId × Value → H} {P : Program} {w : World}
theorem VV_of_ok {ty : Ty} {t : TypeId} {base : Nat} {v : Value} {lv : LV} (hr : TyRep P ty t) (hfl : ty.flatT = true) (hok : Value.okWide P w .any base t v) (hf : Form (rawAT ty) lv) (hv : VC none' w lv v.cells.toList) : VV none' w lv v := by
  cases ty <;> simp only [Ty.flatT, Bool.false_eq_true] at hfl
  case int k =>
    simp only [TyRep] at hr
    simp only [rawAT, Form] at hf
    obtain ⟨n, rfl, _⟩ := hf
    simp only [VC] at hv
    cases v <;> simp [Value.okWide, hr.2, Cell.okWide, Cell.ok] at hok
    simp only [VV]
    exact ⟨hv.1, by simpa [Value.cells] using hv.2⟩
  case bool =>
    simp only [TyRep] at hr
    simp only [rawAT, Form] at hf
    obtain ⟨n, rfl⟩ := hf
    simp only [VC] at hv
    cases v <;> simp [Value.okWide, hr.2, Cell.okWide, Cell.ok] at hok
    simp only [VV]
    simpa [Value.cells] using hv
  case str =>
    simp only [TyRep] at hr
    simp only [rawAT, Form] at hf
    obtain ⟨n, rfl, _⟩ := hf
    simp only [VC] at hv
    cases v <;> simp [Value.okWide, hr.2, Cell.okWide, Cell.ok] at hok
    simp only [VV]
    exact ⟨hv.1, by simpa [Value.cells] using hv.2⟩
  case struct fs =>
    simp only [TyRep] at hr
    obtain ⟨_, _, _, fields, hu, _⟩ := hr
    simp only [rawAT, Form] at hf
    obtain ⟨l, rfl, _⟩ := hf
    simp only [Value.okWide, hu] at hok
    obtain ⟨cs, rfl, _⟩ := hok
    simp only [VC] at hv
    simp only [VV]
    exact ⟨cs.toList, by simp, hv⟩
  case arr n e =>
    simp only [TyRep] at hr
    obtain ⟨_, _, et, hu, _⟩ := hr
    simp only [rawAT, Form] at hf
    obtain ⟨l, rfl, _⟩ := hf
    simp only [Value.okWide, hu] at hok
    obtain ⟨cs, rfl, _⟩ := hok
    simp only [VC] at hv
    simp only [VV]
    exact ⟨cs.toList, by simp, hv⟩

theorem VV_of_slice {ty : Ty} {t : TypeId} {base : Nat} {v : Value} {lv : LV} (hr : TyRep P ty t) (hfl : ty.sliceT = true) (hok : Value.okWide P w .any base t v) (hf : Form (rawAT ty) lv) (hv : VC none' w lv v.cells.toList) : VV none' w lv v := by
  unfold Ty.sliceT at hfl
  split at hfl
  · simp only [TyRep] at hr
    obtain ⟨_, et, hu, _⟩ := hr
    simp only [rawAT, Form] at hf
    obtain ⟨l, rfl, _⟩ := hf
    simp only [VC] at hv
    cases v <;> simp [Value.okWide, hu, Cell.okWide, Cell.ok] at hok
    obtain ⟨v', e, h1, h2⟩ := hv
    simp [Value.cells] at e
    subst e
    simp only [VV]
    exact ⟨h1, h2⟩
  · simp only [TyRep] at hr
    obtain ⟨_, et, hu, _⟩ := hr
    simp only [rawAT, Form] at hf
    obtain ⟨l, rfl, _⟩ := hf
    simp only [VC] at hv
    cases v <;> simp [Value.okWide, hu, Cell.okWide, Cell.ok] at hok
    obtain ⟨v', e, h2⟩ := hv
    simp [Value.cells] at e
    subst e
    simp only [VV]
    exact h2
  · cases hfl
def TyAll (P : Program) : List Ty → List TypeId → Prop
  | [], [] => True
  | t :: ts, i :: is => TyRep P t i ∧ (t.flatT || t.sliceT) = true ∧ TyAll P ts is
  | _, _ => False
def bytesB (P : Program) (ids : List TypeId) : Bool := ids.all fun t => match P.underlying t with | some (.slice e) => natLe 1 (P.bytesOf e) | _ => true
theorem args_read {base : Nat} {sp : Nat → Bool} {hd : Bool} : ∀ (ts : List Ty) (ids : List TypeId) (vs : List Value) (ds : List (DataW H)) (ps : List MemPlace), TyAll P ts ids → DataW.TrodAll enc P w 0 sp hd ids vs ds ps →
    (∀ (j : Nat) t v, ids[j]? = some t → vs[j]? = some v → Value.okWide P w .any base t v) → bytesB P ids = true → (DataW.weightsEach P ids ds).all (· ≤ reachBytes) = true → ∃ lvs, VVs none' w lvs vs ∧ Forms (rawAT.rawATs ts) lvs
  | [], [], vs, ds, ps, _, h, _, _, _ => by
    obtain ⟨rfl, rfl, rfl⟩ := trodAll_nil h
    exact ⟨[], rfl, rfl⟩
  | t :: ts, i :: is, vs, ds, ps, ht, h, hok, hbz, hw => by
    obtain ⟨v, vs, d, ds, p, q, rfl, rfl, rfl, h1, h2⟩ := trodAll_cons h
    obtain ⟨n, h1⟩ := h1
    have hbz' := hbz
    simp only [bytesB, List.all_cons, Bool.and_eq_true] at hbz
    have hw2 : (DataW.weightsEach P is ds).all (· ≤ reachBytes) = true := by
      simp only [DataW.weightsEach, List.all_append, Bool.and_eq_true] at hw
      exact hw.2
    obtain ⟨lvs, k1, k2⟩ := args_read ts is vs ds q ht.2.2 h2 (fun j t v h1 h2 => hok (j + 1) t v (by simpa using h1) (by simpa using h2)) hbz.2 hw2
    have hty := ht.2.1
    rw [Bool.or_eq_true] at hty
    rcases hty with hty | hty
    · obtain ⟨lv, g1, g2, _, _, _⟩ := read_VC t i n _ _ ht.1 hty h1
      exact ⟨lv :: lvs, ⟨v, vs, rfl, VV_of_ok ht.1 hty (hok 0 i v rfl rfl) g2 g1, k1⟩, ⟨lv, lvs, rfl, g2, k2⟩⟩
    · have hu : ∃ e, P.underlying i = some (.slice e) := by
        have hr := ht.1
        unfold Ty.sliceT at hty
        split at hty
        · simp only [TyRep] at hr; obtain ⟨_, et, hu, _⟩ := hr; exact ⟨et, hu⟩
        · simp only [TyRep] at hr; obtain ⟨_, et, hu, _⟩ := hr; exact ⟨et, hu⟩
        · cases hty
      obtain ⟨e, hu⟩ := hu
      have hb1 : 1 ≤ P.bytesOf e := by
        have := hbz.1
        rw [hu] at this
        exact natLe_true this
      obtain ⟨lv, g1, g2⟩ := read_slice ht.1 hty h1 (fun es sp he => by
        have he : d = .slice es sp := he
        have := sized_slice hw (j := 0) (t := i) (e := e) (elems := es) (spare := sp) rfl (by rw [he]; rfl) hu
        have h3 := Nat.mul_le_mul_left (es.length + sp.length) hb1
        have h4 : reachBytes < 2 ^ 47 := by decide
        simp only [Nat.reducePow] at h4
        omega)
      exact ⟨lv :: lvs, ⟨v, vs, rfl, VV_of_slice ht.1 hty (hok 0 i v rfl rfl) g2 g1, k1⟩, ⟨lv, lvs, rfl, g2, k2⟩⟩
  | [], _ :: _, _, _, _, h, _, _, _, _ => h.elim
  | _ :: _, [], _, _, _, h, _, _, _, _ => h.elim

/-- a law, called -/
theorem law_calls {G : List (Nat × Ty × LV)} {f : FuncId} {ats : List AT} {g : List LV → R LV} {tys : List Ty} {ids : List TypeId} (hs : SpecOk P G f (mkSpec real ats g)) (hg : ∀ l, Forms ats l → (g l).Y (.bool true))
    (hats : atOks ats tys = true) (hT : TyAll P tys ids) {base : Nat} {sp : Nat → Bool} {hd : Bool} {vs : List Value} {ds : List (DataW H)} {ps : List MemPlace} (h : DataW.TrodAll enc P w 0 sp hd ids vs ds ps)
    (hok : ∀ (j : Nat) t v, ids[j]? = some t → vs[j]? = some v → Value.okWide P w .any base t v) (hbz : bytesB P ids = true) (hw : (DataW.weightsEach P ids ds).all (· ≤ reachBytes) = true) (hGR : GR G none' w) :
    Calls P f vs.toArray w fun e w' => e = .returned (.bool true) ∧ Below w.heap.size w w' := by
  obtain ⟨lvs, k1, k2⟩ := args_read tys ids vs ds ps hT h hok hbz hw
  obtain ⟨ys, hy⟩ := canons_ok ats tys lvs hats k2
  have hfm := (canons_VV (ρ := none') (w := w) ats lvs ys vs hy k1).2
  refine (hs.2 lvs (.bool true) ?_ w vs k1 hGR).mono fun e w' ⟨v, he, hv, hb⟩ => ?_
  · unfold mkSpec
    rw [hy]
    exact hg ys hfm
  · simp only [VV] at hv
    subst hv
    exact ⟨he, hb⟩

/-- what is left when a law has been called: nothing that was there has turned -/
theorem law_post {f : Func} {s : ChangeSpec} {fresh handsOn again : Bool} {w' : World} {args : Array Value} {ds gs : List (DataW H)} {before : List MemPlace} {t : TypeId} (hl : laidOutB P = true)
    (hp : (f.params.toList.all fun t => P.readableRec t && decide (t < P.types.size)) = true) (hv : s.vars = []) (hrt : f.resultTypes = #[t]) (htb : P.underlying t = some .bool)
    (hsp : ∀ l : List (DataW H), l.length = f.params.toList.length → s.fn H l = { results := [.lit (.bool true)], args := l })
    (hW : DataW.Whole enc P f.params.toList s.vars false w args.toList ds gs before) (hb : Below w.heap.size w w') :
    s.post enc P f false fresh handsOn again w args (.bool true) w' := by
  have hW2 := hW
  obtain ⟨p, q, hA, hV, rfl, hz, _⟩ := hW
  rw [hv] at hV
  obtain ⟨rfl, rfl⟩ := trodVars_none hV
  have hlen : ∀ (ts : List TypeId) (vs : List Value) (ds : List (DataW H)) (p : List MemPlace), DataW.TrodAll enc P w 0 (fun _ => true) true ts vs ds p → ds.length = ts.length := by
    intro ts
    induction ts with
    | nil => intro vs ds p h; obtain ⟨_, rfl, _⟩ := trodAll_nil h; rfl
    | cons t ts ih => intro vs ds p h; obtain ⟨v, vs, d, ds, p, q, rfl, rfl, rfl, h1, h2⟩ := trodAll_cons h; simp [ih _ _ _ h2]
  have hs : s.fn H (ds ++ []) = { results := [.lit (.bool true)], args := ds } := by rw [List.append_nil]; exact hsp ds (hlen _ _ _ _ hA)
  have hlt : ∀ x ∈ p ++ [], x.block < w.heap.size := fun x hx => hW2.lt x hx
  rw [List.append_nil] at hlt
  have same : ∀ x ∈ p, w.sameAt w' x := by
    intro x hx
    have hx' := hlt x hx
    cases x with
    | cell b off => exact hb.cell (p := ⟨b, off, none⟩) hx'
    | map b => exact hb.block b hx'
  have stay : ∀ (sp : Nat → Bool), (∀ x ∈ p, sp x.block = true) → ∀ (ts : List TypeId) (vs : List Value) (ds : List (DataW H)) (q : List MemPlace), (ts.all fun t => P.readableRec t && decide (t < P.types.size)) = true → (∀ x ∈ q, x ∈ p) →
      DataW.TrodAll enc P w 0 (fun _ => true) true ts vs ds q → DataW.TrodAll enc P w' 0 sp true ts vs ds q := by
    intro sp hsp ts
    induction ts with
    | nil => intro vs ds q _ _ h; obtain ⟨rfl, rfl, rfl⟩ := trodAll_nil h; exact trodAll_mk0
    | cons t ts ih =>
      intro vs ds q hall hq h
      obtain ⟨v, vs, d, ds, p1, q1, rfl, rfl, rfl, h1, h2⟩ := trodAll_cons h
      simp only [List.all_cons, Bool.and_eq_true, decide_eq_true_eq] at hall
      exact trodAll_cons_mk (WideElems.Trod_stays hl hall.1.1 hall.1.2 h1 (fun x hx => same x (hq x (by simp [hx]))) (fun x hx => hsp x (hq x (by simp [hx])))) (ih _ _ _ hall.2 (fun x hx => hq x (by simp [hx])) h2)
  have hres : ∀ (b : Nat) (sp : Nat → Bool) (hd : Bool), DataW.TrodAll enc P w' b sp hd f.resultTypes.toList ((Value.bool true).resultList f.resultTypes.size) [.lit (.bool true)] [] := by
    intro b sp hd
    rw [hrt]
    exact trodAll_cons_mk (shut_bool htb _) trodAll_mk0
  have hok : ∀ (j : Nat) (t' : TypeId) (r : Value), f.resultTypes[j]? = some t' → ((Value.bool true).resultList f.resultTypes.size)[j]? = some r → Value.okWide P w' .any 0 t' r := by
    exact ok_one hrt rfl (okWide_bool_mk htb _)
  have hold : ∀ x ∈ p, (fun b => decide (b < w.heap.size)) x.block = true := fun x hx => by simpa using hlt x hx
  have hargs := fun sp hsp => stay sp hsp _ _ _ _ hp (fun x hx => hx) hA
  refine ⟨ds, [], p ++ [], [], p, [], hW2, ?_, ?_, ?_, World.keptBut_mono (fun x hx => ⟨hx, ?_⟩) (hb.frame (· ∈ p ++ [])), fun _ => ?_⟩
  · rw [hs]; exact hres _ _ _
  · rw [hs]; exact hargs _ hold
  · rw [hs, hv]; rfl
  · exact Or.inr (by simpa using hx)
  · rw [hv]
    refine ⟨hok, _, _, ([] ++ p) ++ [], ⟨[] ++ p, [], trodAll_append (hargs _ (fun _ _ => rfl)) (hres _ _ _), (show DataW.TrodVars enc P w' (fun _ => true) [] [] [] from rfl), rfl, ?_, by simp⟩, ?_⟩
    · intro b off hx
      have hin : MemPlace.cell b off ∈ p := by simpa using hx
      rw [hb.frozen (hlt _ hin)]
      exact hz b off (by simpa using hin)
    · intro x hx _
      simpa using hx

/-! ## the package's variables, as the row lists them -/
mutual
def isDat : LV → Bool
  | .int _ _ | .lit _ _ | .bool _ | .blit _ | .str _ | .slit _ => true
  | .agg ps => isDats ps
  | _ => false
def isDats : List LV → Bool
  | [] => true
  | p :: ps => isDat p && isDats ps
end
mutual
theorem Form_isDat : ∀ (ty : Ty) (x : LV), ty.flatT = true → Form (rawAT ty) x → isDat x = true
  | .int _, x, _, h => by simp only [rawAT, Form] at h; obtain ⟨n, rfl, _⟩ := h; rfl
  | .bool, x, _, h => by simp only [rawAT, Form] at h; obtain ⟨n, rfl⟩ := h; rfl
  | .str, x, _, h => by simp only [rawAT, Form] at h; obtain ⟨n, rfl, _⟩ := h; rfl
  | .struct fs, x, hf, h => by
    simp only [rawAT, Form] at h
    obtain ⟨l, rfl, h⟩ := h
    simp only [isDat]
    exact Forms_isDats fs l (by simpa only [Ty.flatT] using hf) h
  | .arr n e, x, hf, h => by
    simp only [rawAT, Form] at h
    obtain ⟨l, rfl, h⟩ := h
    simp only [isDat]
    have one := fun x => Form_isDat e x (by simpa only [Ty.flatT] using hf)
    clear hf
    induction n generalizing l with
    | zero => simp only [List.replicate, Forms] at h; subst h; rfl
    | succ n ih =>
      simp only [List.replicate, Forms] at h
      obtain ⟨x, xs, rfl, h1, h2⟩ := h
      simp only [isDats, one x h1, ih xs h2, Bool.and_self]
  | .slice _, _, hf, _ => by simp [Ty.flatT] at hf
  | .func, _, hf, _ => by simp [Ty.flatT] at hf
theorem Forms_isDats : ∀ (ts : List Ty) (xs : List LV), Ty.flatT.flatTs ts = true → Forms (rawAT.rawATs ts) xs → isDats xs = true
  | [], xs, _, h => by simp only [rawAT.rawATs, Forms] at h; subst h; rfl
  | t :: ts, xs, hf, h => by
    simp only [rawAT.rawATs, Forms] at h
    obtain ⟨x, xs, rfl, h1, h2⟩ := h
    simp only [Ty.flatT.flatTs, Bool.and_eq_true] at hf
    simp only [isDats, Form_isDat t x hf.1 h1, Forms_isDats ts xs hf.2 h2, Bool.and_self]
end
theorem bytes_ext {s t : ByteArray} (h : s.data.toList = t.data.toList) : s = t := by
  obtain ⟨⟨s⟩⟩ := s
  obtain ⟨⟨t⟩⟩ := t
  simp only at h
  rw [h]
mutual
theorem dat_VC : ∀ (x y : LV) (cs : List Value), isDat x = true → isDat y = true → (dataOf x : DataW H) = dataOf y → VC none' w y cs → VC none' w x cs
  | .int k n, y, cs, _, hy, h, hv => by
    cases y <;> simp [isDat, dataOf] at hy h
    all_goals (obtain ⟨rfl, rfl⟩ := h; simp only [VC] at hv ⊢; exact hv)
  | .lit k n, y, cs, _, hy, h, hv => by
    cases y <;> simp [isDat, dataOf] at hy h
    all_goals (obtain ⟨rfl, rfl⟩ := h; simp only [VC] at hv ⊢; exact hv)
  | .bool b, y, cs, _, hy, h, hv => by
    cases y <;> simp [isDat, dataOf] at hy h
    all_goals (subst h; simp only [VC] at hv ⊢; exact hv)
  | .blit b, y, cs, _, hy, h, hv => by
    cases y <;> simp [isDat, dataOf] at hy h
    all_goals (subst h; simp only [VC] at hv ⊢; exact hv)
  | .str s, y, cs, _, hy, h, hv => by
    cases y <;> simp only [isDat, dataOf, DataW.lit.injEq, Lit.string.injEq, reduceCtorEq, Bool.false_eq_true] at hy h
    all_goals (have := bytes_ext h; subst this; simp only [VC] at hv ⊢; exact hv)
  | .slit s, y, cs, _, hy, h, hv => by
    cases y <;> simp only [isDat, dataOf, DataW.lit.injEq, Lit.string.injEq, reduceCtorEq, Bool.false_eq_true] at hy h
    all_goals (have := bytes_ext h; subst this; simp only [VC] at hv ⊢; exact hv)
  | .agg ps, y, cs, hx, hy, h, hv => by
    cases y <;> simp only [isDat, dataOf, DataW.agg.injEq, reduceCtorEq, Bool.false_eq_true] at hx hy h
    simp only [VC] at hv ⊢
    exact dats_VC ps _ cs hx hy h hv
  | .wide _, _, _, hx, _, _, _ | .word _, _, _, hx, _, _, _ | .tup _, _, _, hx, _, _, _ | .ptr _ _, _, _, hx, _, _, _ | .gptr _ _, _, _, hx, _, _, _ | .sl _ _ _, _, _, hx, _, _, _ | .fn _ _, _, _, hx, _, _, _
  | .nils, _, _, hx, _, _, _ | .nilf, _, _, hx, _, _, _ | .im _, _, _, hx, _, _, _ | .big _, _, _, hx, _, _, _ | .words _, _, _, hx, _, _, _ | .ints _ _, _, _, hx, _, _, _ | .cell _, _, _, hx, _, _, _ | .undef, _, _, hx, _, _, _ => by simp [isDat] at hx
theorem dats_VC : ∀ (xs ys : List LV) (cs : List Value), isDats xs = true → isDats ys = true → (dataOf.dataOfs xs : List (DataW H)) = dataOf.dataOfs ys → VCs none' w ys cs → VCs none' w xs cs
  | [], [], cs, _, _, _, hv => hv
  | [], _ :: _, _, _, _, h, _ => by simp [dataOf.dataOfs] at h
  | _ :: _, [], _, _, _, h, _ => by simp [dataOf.dataOfs] at h
  | x :: xs, y :: ys, cs, hx, hy, h, hv => by
    simp only [isDats, Bool.and_eq_true] at hx hy
    simp only [dataOf.dataOfs, List.cons.injEq] at h
    simp only [VCs] at hv ⊢
    obtain ⟨c1, c2, rfl, h1, h2⟩ := hv
    exact ⟨c1, c2, rfl, dat_VC x y c1 hx.1 hy.1 h.1 h1, dats_VC xs ys c2 hx.2 hy.2 h.2 h2⟩
end

theorem GR_nil : GR [] none' w := ⟨fun g ty c h => by simp [look] at h, fun g ty c k h => by simp [look] at h⟩
theorem GR_cons {G : List (Nat × Ty × LV)} {g : Nat} {ty : Ty} {c : LV} (h1 : ∃ cs t fr, w.heap[g]? = some (.cells cs.toArray t fr) ∧ VC none' w c cs ∧ shape ty c = true ∧ flat c = true) (h : GR G none' w) : GR ((g, ty, c) :: G) none' w where
  cont g' ty' c' hl := by
    unfold look at hl
    split at hl
    · rename_i e
      have := natEq_true e; subst this
      cases hl
      exact h1
    · exact h.cont g' ty' c' hl
  apart g' ty' c' k _ := by simp [none']

theorem laid_one {n : String} {d : DataW Unit} {r : List (String × DataW Unit)} {ps : List MemPlace} {g : Nat} {t : TypeId} {ty : Ty} {c : LV} (h : DataW.LaidVars P w ((n, d) :: r) ps) (hg : P.globalNamed n = some g)
    (ht : (P.globals[g]?).map (·.type) = some t) (hr : TyRep P ty t) (hfl : ty.flatT = true) (hc : isDat c = true) (hs : shape ty c = true) (hf : flat c = true) (hd : d = dataOf c) :
    (∃ cs t fr, w.heap[g]? = some (.cells cs.toArray t fr) ∧ VC none' w c cs ∧ shape ty c = true ∧ flat c = true) ∧ ∃ q, DataW.LaidVars P w r q := by
  obtain ⟨g', t', cs, fuel, p, q, h1, h2, h3, h4, h5, _⟩ := h
  rw [hg] at h1
  cases h1
  rw [ht] at h2
  cases h2
  refine ⟨?_, q, h5⟩
  obtain ⟨lv, k1, k2, _, k4, _⟩ := read_VC ty t fuel _ _ hr hfl h4
  have hv := dat_VC c lv _ hc (Form_isDat ty lv hfl k2) (by rw [← hd]; exact k4) k1
  unfold World.var? at h3
  rw [hg] at h3
  simp only [Option.bind_some] at h3
  split at h3
  · rename_i cs' t' fr hh
    cases h3
    exact ⟨cs.toList, t', fr, by simpa using hh, hv, hs, hf⟩
  · cases h3
theorem laid_of {laid : List (String × DataW Unit)} (h : laidMetH P laid w) (hn : (laid.filter fun x => x.2.handleName?.isSome) = []) : ∃ ps, DataW.LaidVars P w laid ps := by
  unfold laidMetH at h
  rw [hn] at h
  obtain ⟨ps, h, _⟩ := h
  exact ⟨ps, h⟩
end
end Go.LE
namespace Go.LE
open Go
/-- the same contract, its result told otherwise -/
theorem spec_as {P : Program} {G : List (Nat × Ty × LV)} {f : FuncId} {O : Prim} {ts : List AT} {g g' : List LV → R LV} (h : SpecOk P G f (mkSpec O ts g)) (hg : ∀ l r, (g' l).Y r → ∃ r', (g l).Y r' ∧ Same r' r) : SpecOk P G f (mkSpec O ts g') := by
  refine ⟨h.1, fun args r hY w vals hv hgr => ?_⟩
  unfold mkSpec at hY
  split at hY
  · rename_i l hl
    obtain ⟨r', h1, h2⟩ := hg l r hY
    refine (h.2 args r' (by unfold mkSpec; rw [hl]; exact h1) w vals hv hgr).mono fun e w' ⟨v, he, hv', hb⟩ => ⟨v, he, h2 _ _ _ hv', hb⟩
  · exact hY.elim
end Go.LE
namespace Go.LE
open Go
theorem spec_or {P : Program} {G : List (Nat × Ty × LV)} {f : FuncId} {ts : List AT} {g1 g2 g : List LV → R LV} (h1 : SpecOk P G f (mkSpec real ts g1)) (h2 : SpecOk P G f (mkSpec real ts g2))
    (hg : ∀ l r, Forms ts l → (g l).Y r → (g1 l).Y r ∨ (g2 l).Y r) : SpecOk P G f (mkSpec real ts g) := by
  refine ⟨h1.1, fun args r hY w vals hv hgr => ?_⟩
  unfold mkSpec at hY
  split at hY
  · rename_i l hl
    have hf := (canons_VV ts args l vals hl hv).2
    rcases hg l r hf hY with h | h
    · exact h1.2 args r (by unfold mkSpec; rw [hl]; exact h) w vals hv hgr
    · exact h2.2 args r (by unfold mkSpec; rw [hl]; exact h) w vals hv hgr
  · exact hY.elim
end Go.LE
namespace Go.LE
open Go
theorem spec_fam {P : Program} {G : List (Nat × Ty × LV)} {f : FuncId} {ts : List AT} {ι : Type} {g' : List LV → R LV} {g : ι → List LV → R LV} (i0 : ι) (p : ι → Prop) (hp : p i0) (h : ∀ i, p i → SpecOk P G f (mkSpec real ts (g i)))
    (hg : ∀ l r, Forms ts l → (g' l).Y r → ∃ i, p i ∧ (g i l).Y r) : SpecOk P G f (mkSpec real ts g') := by
  refine ⟨(h i0 hp).1, fun args r hY w vals hv hgr => ?_⟩
  unfold mkSpec at hY
  split at hY
  · rename_i l hl
    have hf := (canons_VV ts args l vals hl hv).2
    obtain ⟨i, hi, hy⟩ := hg l r hf hY
    exact (h i hi).2 args r (by unfold mkSpec; rw [hl]; exact hy) w vals hv hgr
  · exact hY.elim
end Go.LE