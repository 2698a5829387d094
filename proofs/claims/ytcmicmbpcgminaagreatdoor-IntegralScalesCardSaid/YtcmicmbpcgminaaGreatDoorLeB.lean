import Derived.Test.YtcmicmbpcgminaaGreatDoorLeA
import Derived.LoopN
set_option linter.unusedVariables false
set_option linter.unusedSimpArgs false
namespace Go.LE
open Go Go.RowKit

section
variable {P : Program} {E : Env} {o : Oper} {a : Act} {ρ : Nat → Option Nat} {w : World} {bx : Bx} {lab : Nat} {r : OR}

theorem offsetOf_field : ∀ (fs : List Ty) (fields : List Field) (off i d : Nat), TyReps P fs fields off → offsetOf fs i = some d → ∃ f ty, fields[i]? = some f ∧ f.offset = off + d ∧ fs[i]? = some ty ∧ TyRep P ty f.type ∧ ty.size ≠ 0
  | [], _, _, _, _, _, h => by simp [offsetOf] at h
  | t :: ts, fields, off, i, d, ht, h => by
    simp only [TyReps] at ht
    obtain ⟨f, fs, rfl, h1, _, hz, h2, h3⟩ := ht
    cases i with
    | zero => simp only [offsetOf, Option.some.injEq] at h; subst h; exact ⟨f, t, rfl, by simpa using h1, rfl, h2, hz⟩
    | succ i =>
      simp only [offsetOf] at h
      obtain ⟨e, he, rfl⟩ := Option.map_eq_some_iff.1 h
      obtain ⟨g, ty, g1, g2, g3, g4, g5⟩ := offsetOf_field ts fs _ i e h3 he
      exact ⟨g, ty, by simpa using g1, by omega, by simpa using g3, g4, g5⟩

theorem run_fieldAt {s : TypeId} {fs : List Ty} (ht : TyRep P (.struct fs) s) {b off i d : Nat} (hd : offsetOf fs i = some d) : (Instr.fieldAt s (.pointer (some ⟨b, off, none⟩)) i).run P w = .ok (.pointer (some ⟨b, off + d, none⟩)) w := by
  simp only [TyRep] at ht
  obtain ⟨_, _, _, fields, hu, hf⟩ := ht
  obtain ⟨f, ty, h1, h2, h3, h4, h5⟩ := offsetOf_field fs fields.toList 0 i d hf hd
  have h1 : fields[i]? = some f := by simpa using h1
  simp only [Instr.fieldAt, Sem.run_bind, run_underlying hu, Result.andThen_ok, h1, Instr.sureAddr, fieldPlace, Sem.run_pure, run_size h4, if_neg h5, addr_add, h2]
  simp

/-- a part of an aggregate, by its number -/
theorem parts_nth : ∀ (fs : List Ty) (ps : List LV) (i d : Nat) (cs : List Value), shapes fs ps = true → VCs ρ w ps cs → offsetOf fs i = some d → ∃ ty pre c post, fs[i]? = some ty ∧ cs = pre ++ c ++ post ∧ pre.length = d ∧ shape ty (nth ps i) = true ∧ VC ρ w (nth ps i) c ∧ c.length = ty.size
  | [], _, _, _, _, _, _, h => by simp [offsetOf] at h
  | _ :: _, [], _, _, _, hs, _, _ => by simp [shapes] at hs
  | f :: fs, p :: ps, i, d, cs, hs, hc, h => by
    simp only [shapes, Bool.and_eq_true] at hs
    simp only [VCs] at hc
    obtain ⟨c1, c2, rfl, h1, h2⟩ := hc
    have hl : c1.length = f.size := by rw [VC_size _ _ h1, shape_size _ _ hs.1]
    cases i with
    | zero =>
      simp only [offsetOf, Option.some.injEq] at h; subst h
      exact ⟨f, [], c1, c2, rfl, rfl, rfl, hs.1, h1, hl⟩
    | succ i =>
      simp only [offsetOf] at h
      obtain ⟨e, he, rfl⟩ := Option.map_eq_some_iff.1 h
      obtain ⟨ty, pre, c, post, g1, rfl, g3, g4, g5, g6⟩ := parts_nth fs ps i e c2 hs.2 h2 he
      exact ⟨ty, c1 ++ pre, c, post, by simpa using g1, by simp, by simp; omega, g4, g5, g6⟩

theorem valOf_VV {ty : Ty} {lv : LV} {c : List Value} (hs : shape ty lv = true) (hc : VC ρ w lv c) : VV ρ w lv (valOf ty c) := by
  have ha := shape_agg hs
  unfold valOf
  rw [← ha]
  cases hag : aggLV lv with
  | true => exact VV_of_agg hag hc
  | false =>
    obtain ⟨v, rfl, hv⟩ := VV_of_cells hag hc
    exact hv

theorem agg_cells {ty : Ty} {lv : LV} {v : Value} (hs : shape ty lv = true) (hag : ty.isAgg = true) (h : VV ρ w lv v) : ∃ cs : List Value, v = .agg cs.toArray ∧ VC ρ w lv cs := by
  have := val_of hs h
  unfold valOf at this
  rw [hag] at this
  exact ⟨_, this, VV_typed hs h⟩

theorem offsetOf_some : ∀ (fs : List Ty) (i : Nat) (ty : Ty), fs[i]? = some ty → ∃ d, offsetOf fs i = some d
  | [], _, _, h => by simp at h
  | _ :: _, 0, _, _ => ⟨0, rfl⟩
  | t :: ts, i + 1, ty, h => by
    obtain ⟨d, hd⟩ := offsetOf_some ts i ty (by simpa using h)
    exact ⟨t.size + d, by simp [offsetOf, hd]⟩

theorem shapes_len : ∀ (fs : List Ty) (ps : List LV), shapes fs ps = true → fs.length = ps.length
  | [], [], _ => rfl
  | _ :: fs, _ :: ps, h => by simp only [shapes, Bool.and_eq_true] at h; simp [shapes_len fs ps h.2]
  | [], _ :: _, h | _ :: _, [], h => by simp [shapes] at h
theorem nth_undef : ∀ (ps : List LV) (i : Nat), ps.length ≤ i → nth ps i = .undef
  | [], _, _ => rfl
  | _ :: _, 0, h => by simp at h
  | _ :: ps, i + 1, h => nth_undef ps i (by simpa using h)

theorem op_field {t : TypeId} {x : Operand} {i : Nat} {lx : LV} (ho : o.op = .field t x i) (hE : EnvOk P E) (h1 : VV ρ w lx (a.eval x)) (hb : BR ρ w bx)
    (h : (match look E.ty t with
    | some (.struct fs) => match shape (.struct fs) lx, partsOf real lx with
      | true, some ps => match nth ps i with
        | LV.undef => R.fail
        | v => val v
      | _, _ => .fail
    | _ => .fail).Y r) : OpOut P o a ρ w bx lab r := by
  split at h
  · rename_i fs ht
    have ht := hE.ty _ _ ht
    split at h
    · rename_i ps hs hp
      have hss := parts_struct hp hs
      obtain ⟨cs, hv, hc⟩ := agg_cells hs rfl h1
      have hcs := parts_VCs hp hc
      by_cases hi : i < fs.length
      · obtain ⟨d, hd⟩ := offsetOf_some fs i fs[i] (by simp [hi])
        obtain ⟨ty, pre, c, post, g1, rfl, g3, g4, g5, g6⟩ := parts_nth fs ps i d cs hss hcs hd
        have hr : r = ⟨nth ps i, .no, none⟩ := by
          split at h
          · exact h.elim
          · exact val_Y h
        subst hr
        simp only [TyRep] at ht
        obtain ⟨_, _, _, fields, hu, hf⟩ := ht
        obtain ⟨f, ty', e1, e2, e3, e4, e5⟩ := offsetOf_field fs fields.toList 0 i d hf hd
        rw [e3] at g1; cases g1
        have e1 : fields[i]? = some f := by simpa using e1
        have hp := run_part (P := P) e4 w (pre := pre) (c := c) (post := post) g6 (fun _ hc => by subst hc; simp at g6; omega)
        refine out_pure (v' := valOf ty c) ?_ (valOf_VV g4 g5) hb rfl
        rw [g3, List.append_assoc] at hp
        simp only [List.append_assoc] at hv
        simp [execOp, ho, Instr.field, run_underlying hu, e1, hv, asAgg, e2, hp]
      · rw [nth_undef ps i (by rw [← shapes_len _ _ hss]; omega)] at h
        exact h.elim
    · exact h.elim
  · exact h.elim

theorem op_extract {x : Operand} {i : Nat} {lx : LV} (ho : o.op = .extract x i) (h1 : VV ρ w lx (a.eval x)) (hb : BR ρ w bx)
    (h : (match lx with
    | .tup ps => match nth ps i with
      | LV.undef => R.fail
      | v => val v
    | _ => .fail).Y r) : OpOut P o a ρ w bx lab r := by
  split at h
  · rename_i ps
    have hr : r = ⟨nth ps i, .no, none⟩ ∧ nth ps i ≠ .undef := by
      split at h
      · exact h.elim
      · rename_i hn; exact ⟨val_Y h, hn⟩
    obtain ⟨rfl, hn⟩ := hr
    simp only [VV] at h1
    obtain ⟨vs, hv, hvs⟩ := h1
    have key : ∀ (ps : List LV) (vs : List Value) (i : Nat), VVs ρ w ps vs → nth ps i ≠ .undef → ∃ v, vs[i]? = some v ∧ VV ρ w (nth ps i) v := by
      intro ps
      induction ps with
      | nil => intro vs i _ hn; exact absurd rfl hn
      | cons p ps ih =>
        intro vs i hvs hn
        simp only [VVs] at hvs
        obtain ⟨v, vs', rfl, h1, h2⟩ := hvs
        cases i with
        | zero => exact ⟨v, rfl, h1⟩
        | succ i => obtain ⟨u, hu, huu⟩ := ih vs' i h2 hn; exact ⟨u, by simpa using hu, huu⟩
    obtain ⟨v, hi, hvv⟩ := key ps vs i hvs hn
    exact out_pure (v' := v) (by simp [execOp, ho, Instr.extract, hv, hi]) hvv hb rfl
  · exact h.elim

/-! ### places in arrays -/
theorem pick1_Y {i : Int} {f : Nat → R OR} : ∀ (n j : Nat), (pick1 real i f n j).Y r → (j : Int) ≤ i → i < (j + n : Nat) → ∃ m : Nat, i = m ∧ (f m).Y r
  | 0, j, h, _, _ => h.elim
  | 1, j, h, h1, h2 => ⟨j, by omega, h⟩
  | n + 2, j, h, h1, h2 => by
    unfold pick1 at h
    rcases Y_bool h with ⟨he, h⟩ | ⟨he, h⟩
    · have : i = (j : Int) := by simpa [real, cmpR] using he
      exact ⟨j, this, h⟩
    · have : i ≠ (j : Int) := by simpa [real, cmpR] using he
      exact pick1_Y (n + 1) (j + 1) h (by omega) (by omega)
theorem atIndex_Y {n : Nat} {ix : LV} {f : Nat → R OR} {v : Value} (hv : VV ρ w ix v) (h : (atIndex real n ix f).Y r) : ∃ (k : IntKind) (m : Nat), v = .int k m ∧ m < n ∧ (f m).Y r := by
  unfold atIndex at h
  split at h
  · rename_i k i e
    obtain ⟨_, rfl⟩ := VV_int e hv
    split at h
    · rename_i hb
      simp only [Bool.and_eq_true, decide_eq_true_eq, blt_iff] at hb
      exact ⟨k, i.toNat, by rw [Int.toNat_of_nonneg hb.1], hb.2, h⟩
    · exact h.elim
  · rename_i k i e
    obtain ⟨_, rfl⟩ := VV_int e hv
    obtain ⟨hp, h⟩ := h
    have hp : 0 ≤ i ∧ i < (n : Int) := hp
    obtain ⟨m, rfl, hm⟩ := pick1_Y n 0 h (by omega) (by omega)
    exact ⟨k, m, rfl, by omega, hm⟩
  · exact h.elim

theorem offsetOf_some2 : ∀ (fs : List Ty) (ps : List LV) (i : Nat), shapes fs ps = true → i < ps.length → ∃ d, offsetOf fs i = some d
  | [], [], _, _, h => by simp at h
  | [], _ :: _, _, h, _ => by simp [shapes] at h
  | _ :: _, [], _, h, _ => by simp [shapes] at h
  | f :: fs, p :: ps, 0, _, _ => ⟨0, rfl⟩
  | f :: fs, p :: ps, i + 1, hs, h => by
    simp only [shapes, Bool.and_eq_true] at hs
    obtain ⟨d, hd⟩ := offsetOf_some2 fs ps i hs.2 (by simpa using h)
    exact ⟨f.size + d, by simp [offsetOf, hd]⟩
theorem fields_pos : ∀ (fs : List Ty) (l : List Field) (off i : Nat) (ty : Ty), TyReps P fs l off → fs[i]? = some ty → ty.size ≠ 0
  | [], _, _, _, _, _, h => by simp at h
  | f :: fs, l, off, i, ty, hr, h => by
    simp only [TyReps] at hr
    obtain ⟨fl, l', rfl, _, _, hz, _, hr⟩ := hr
    cases i with
    | zero => simp at h; subst h; exact hz
    | succ i => exact fields_pos fs l' _ i ty hr (by simpa using h)
theorem field_pos {fs : List Ty} {t : TypeId} (ht : TyRep P (.struct fs) t) {i : Nat} {ty : Ty} (h : fs[i]? = some ty) : ty.size ≠ 0 := by
  simp only [TyRep] at ht
  obtain ⟨_, _, _, fields, _, hr⟩ := ht
  exact fields_pos _ _ _ _ _ hr h
theorem op_fieldAddr {t : TypeId} {x : Operand} {i : Nat} {lx : LV} (ho : o.op = .fieldAddr t x i) (hE : EnvOk P E) (h1 : VV ρ w lx (a.eval x)) (hb : BR ρ w bx)
    (h : (match look E.ty t, lx with
    | some (.struct fs), .ptr k off => match offsetOf fs i with
      | some d => val (.ptr k (off + d))
      | none => .fail
    | some (.struct fs), .gptr k off => match offsetOf fs i with
      | some d => val (.gptr k (off + d))
      | none => .fail
    | some (.struct fs), .cell c => match shape (.struct fs) c, partsOf real c with
      | true, some ps => match nth ps i with
        | .undef => .fail
        | v => val (.cell v)
      | _, _ => .fail
    | _, _ => .fail).Y r) : OpOut P o a ρ w bx lab r := by
  split at h
  · rename_i fs k off ht
    have ht := hE.ty _ _ ht
    split at h
    · rename_i d hd
      have := val_Y h; subst this
      simp only [VV] at h1
      obtain ⟨b, hk, h1⟩ := h1
      exact out_pure (v' := .pointer (some ⟨b, off + d, none⟩)) (by simp [execOp, ho, h1, run_fieldAt ht hd]) (by simp only [VV]; exact ⟨b, hk, rfl⟩) hb rfl
    · exact h.elim
  · rename_i fs k off ht
    have ht := hE.ty _ _ ht
    split at h
    · rename_i d hd
      have := val_Y h; subst this
      simp only [VV] at h1
      exact out_pure (v' := .pointer (some ⟨k, off + d, none⟩)) (by simp [execOp, ho, h1, run_fieldAt ht hd]) (by simp only [VV]) hb rfl
    · exact h.elim
  · rename_i fs c ht
    have ht := hE.ty _ _ ht
    split at h
    · rename_i ps hs hp
      have hr : r = ⟨.cell (nth ps i), .no, none⟩ ∧ nth ps i ≠ .undef := by
        split at h
        · exact h.elim
        · rename_i hn; exact ⟨val_Y h, fun hh => hn hh⟩
      obtain ⟨rfl, hnu⟩ := hr
      simp only [VV] at h1
      obtain ⟨cells, hc, b, off, h1, hap, hne, hcell⟩ := h1
      have hss := parts_struct hp hs
      have hcs := parts_VCs hp hc
      have hilt : i < ps.length := by
        rcases Nat.lt_or_ge i ps.length with hh | hh
        · exact hh
        · exact absurd (nth_undef ps i hh) hnu
      obtain ⟨d, hd⟩ := offsetOf_some2 fs ps i hss hilt
      obtain ⟨ty, pre, c', post, g1, rfl, g3, g4, g5, g6⟩ := parts_nth fs ps i d cells hss hcs hd
      have hz : c' ≠ [] := fun hcn => by
        subst hcn
        exact absurd g6.symm (fun hh => field_pos ht g1 (by simpa using hh))
      refine out_pure (v' := .pointer (some ⟨b, off + d, none⟩)) (by simp [execOp, ho, h1, run_fieldAt ht hd]) (by
        simp only [VV]
        refine ⟨c', g5, b, off + d, rfl, hap, hz, fun j hj => ?_⟩
        rw [show off + d + j = off + (d + j) by omega, hcell (d + j) (by simp; omega), List.append_assoc, List.getElem?_append_right (by omega), List.getElem?_append_left (by omega)]
        congr 1; omega) hb rfl
    · exact h.elim
  · exact h.elim

theorem im_part {e : Ty} : ∀ {l : List LV} {cells : List Value} {m : Nat}, shapeEl e l = true → 0 < e.size → VCs ρ w l cells → m < l.length →
    ∃ c1 c2 c3, cells = c1 ++ c2 ++ c3 ∧ c1.length = m * e.size ∧ VC ρ w (nth l m) c2 ∧ c2 ≠ []
  | [], _, _, _, _, _, h => by simp at h
  | p :: l, cells, 0, hs, hz, hc, h => by
    simp only [shapeEl, Bool.and_eq_true] at hs
    simp only [VCs] at hc
    obtain ⟨c1, c2, rfl, h1, h2⟩ := hc
    refine ⟨[], c1, c2, rfl, by simp, h1, fun hn => ?_⟩
    have := VC_size _ _ h1
    rw [shape_size _ _ hs.1, hn] at this
    simp at this; omega
  | p :: l, cells, m + 1, hs, hz, hc, h => by
    simp only [shapeEl, Bool.and_eq_true] at hs
    simp only [VCs] at hc
    obtain ⟨c1, c2, rfl, h1, h2⟩ := hc
    obtain ⟨d1, d2, d3, rfl, g1, g2, g3⟩ := im_part hs.2 hz h2 (m := m) (by simpa using h)
    refine ⟨c1 ++ d1, d2, d3, by simp, ?_, g2, g3⟩
    rw [List.length_append, g1, VC_size _ _ h1, shape_size _ _ hs.1, Nat.add_mul]; omega
theorem words_len : ∀ (l : List (BitVec 128)), (l.flatMap wordCells).length = l.length * 2
  | [] => rfl
  | x :: l => by rw [List.flatMap_cons, List.length_append, words_len l]; simp [wordCells]; omega
theorem words_at : ∀ (l : List (BitVec 128)) (m : Nat) (h : m < l.length) (i : Nat), i < 2 → (l.flatMap wordCells)[m * 2 + i]? = (wordCells l[m])[i]?
  | [], _, h, _, _ => by simp at h
  | x :: l, 0, _, i, hi => by
    rw [List.flatMap_cons, List.getElem?_append_left (by simp [wordCells]; omega)]; simp
  | x :: l, m + 1, h, i, hi => by
    rw [List.flatMap_cons, List.getElem?_append_right (by simp [wordCells]; omega)]
    have := words_at l m (by simpa using h) i hi
    simp only [List.getElem_cons_succ]
    rw [← this]
    congr 1
    simp [wordCells]; omega
theorem digs_inK : ∀ (f n : Nat), ∀ x ∈ digs f n, inK .u32 x
  | 0, _, x, h => by simp [digs] at h
  | f + 1, n, x, h => by
    unfold digs at h
    split at h
    · simp at h
    · rcases List.mem_cons.1 h with rfl | h
      · rw [inK_iff]
        have := Nat.mod_lt n (show 0 < 2 ^ 32 by decide)
        simp only [IntKind.min, IntKind.max, IntKind.signed, IntKind.bits]
        simp
        omega
      · exact digs_inK f _ x h
theorem dig_inK (n : Nat) (x : Int) (h : x ∈ dig n) : inK .u32 x := digs_inK n n x h
theorem op_indexAddr {t : TypeId} {x ix : Operand} {lx li : LV} (ho : o.op = .indexAddr t x ix) (hE : EnvOk P E) (h1 : VV ρ w lx (a.eval x)) (h2 : VV ρ w li (a.eval ix)) (hb : BR ρ w bx)
    (h : (match look E.ty t, lx with
    | some (.arr n e), .ptr k off => match natLt 1 n with
      | true => atIndex real n li fun j => val (.ptr k (off + j * e.size))
      | false => .fail
    | some (.arr n e), .gptr k off => match natLt 1 n with
      | true => atIndex real n li fun j => val (.gptr k (off + j * e.size))
      | false => .fail
    | some (.slice e), .sl k off n => atIndex real n li fun j => val (.ptr k (off + j * e.size))
    | some (.slice e), .im l => match shapeEl e l && natLt 0 e.size with
      | true => atIndex real l.length li fun j => val (.cell (nth l j))
      | false => .fail
    | some (.slice e), .ints j l => match ekOf e, asInt li with
      | some k, some (_, i, _) => match ekEq k j with
        | true => .req (real.inI i l) (val (.cell (elV real k (real.nthI l i))))
        | false => .fail
      | _, _ => .fail
    | some (.slice (.struct [.int .u64, .int .u64])), .words l => match asInt li with
      | some (_, i, _) => .req (real.inB i l.length) (val (.cell (.word (real.nthW l i))))
      | none => .fail
    | some (.slice (.int k)), .big n => match kindEq k .u32, asInt li with
      | true, some (_, i, _) => .req (real.inD i n) (val (.cell (.int .u32 (real.digI n i))))
      | _, _ => .fail
    | some (.slice e), .own j l => match ekOf e, asInt li with
      | some k, some (_, i, _) => match ekEq k j with
        | true => .req (real.inI i l) (val (.oel j l i))
        | false => .fail
      | _, _ => .fail
    | _, _ => .fail).Y r) : OpOut P o a ρ w bx lab r := by
  split at h
  · rename_i n e k off ht
    have ht := hE.ty _ _ ht
    split at h
    · obtain ⟨kk, m, hv, hm, h⟩ := atIndex_Y h2 h
      have := val_Y h; subst this
      simp only [VV] at h1
      obtain ⟨b, hk, h1⟩ := h1
      simp only [TyRep] at ht
      obtain ⟨_, _, et, hu, he⟩ := ht
      refine out_pure (v' := .pointer (some ⟨b, off + m * e.size, none⟩)) ?_ (by simp only [VV]; exact ⟨b, hk, rfl⟩) hb rfl
      have hm' : (0 : Int) ≤ (m : Int) ∧ (m : Int) < (n : Int) := by omega
      simp [execOp, ho, h1, hv, Instr.indexAt, asIntOf, run_underlying hu, Instr.sureAddr, hm', run_size he, addr_add, hm]
    · exact h.elim
  · rename_i n e k off ht
    have ht := hE.ty _ _ ht
    split at h
    · obtain ⟨kk, m, hv, hm, h⟩ := atIndex_Y h2 h
      have := val_Y h; subst this
      simp only [VV] at h1
      simp only [TyRep] at ht
      obtain ⟨_, _, et, hu, he⟩ := ht
      refine out_pure (v' := .pointer (some ⟨k, off + m * e.size, none⟩)) ?_ (by simp only [VV]) hb rfl
      simp [execOp, ho, h1, hv, Instr.indexAt, asIntOf, run_underlying hu, Instr.sureAddr, run_size he, addr_add, hm]
    · exact h.elim
  · rename_i e k off n ht
    have ht := hE.ty _ _ ht
    obtain ⟨kk, m, hv, hm, h⟩ := atIndex_Y h2 h
    have := val_Y h; subst this
    simp only [VV] at h1
    obtain ⟨b, cap, hk, _, h1⟩ := h1
    simp only [TyRep] at ht
    obtain ⟨_, et, hu, he⟩ := ht
    refine out_pure (v' := .pointer (some ⟨b, off + m * e.size, none⟩)) ?_ (by simp only [VV]; exact ⟨b, hk, rfl⟩) hb rfl
    simp [execOp, ho, h1, hv, Instr.indexAt, asIntOf, run_underlying hu, run_size he, addr_add, hm]
  · rename_i e l ht
    have ht := hE.ty _ _ ht
    split at h
    · rename_i hse
      simp only [Bool.and_eq_true, blt_iff] at hse
      obtain ⟨kk, m, hv, hm, h⟩ := atIndex_Y h2 h
      have := val_Y h; subst this
      simp only [VV] at h1
      obtain ⟨cells, hc, b0, cap, h1, _, hsl⟩ := h1
      simp only [TyRep] at ht
      obtain ⟨_, et, hu, he⟩ := ht
      obtain ⟨c1, c2, c3, hcs, hlen, hvc, hne⟩ := im_part hse.1 hse.2 hc hm
      rcases hsl with hnil | ⟨b, off, rfl, hap, hcell⟩
      · subst hcs; simp at hnil; exact absurd hnil.2.1 hne
      · refine out_pure (v' := .pointer (some ⟨b, off + m * e.size, none⟩)) ?_ (by simp only [VV]; exact ⟨c2, hvc, b, off + m * e.size, rfl, hap, hne, fun i hi => by
          have := hcell (m * e.size + i) (by subst hcs; simp; omega)
          rw [show off + m * e.size + i = off + (m * e.size + i) by omega, this, hcs, List.append_assoc, List.getElem?_append_right (by omega), List.getElem?_append_left (by omega)]
          congr 1; omega⟩) hb rfl
        simp [execOp, ho, h1, hv, Instr.indexAt, asIntOf, run_underlying hu, run_size he, addr_add, hm]
    · exact h.elim
  · rename_i e j l ht
    have ht := hE.ty _ _ ht
    split at h
    · rename_i k kk i lit hek hi
      split at h
      · rename_i hk
        have := ekEq_eq hk; subst this
        have := ekOf_ty hek; subst this
        obtain ⟨hin, h⟩ := h
        have := val_Y h; subst this
        obtain ⟨_, hv⟩ := VV_int hi h2
        simp only [VV] at h1
        obtain ⟨hall, a0, cap, h1, _, hsl⟩ := h1
        simp only [TyRep] at ht
        obtain ⟨_, et, hu, he⟩ := ht
        have hin : 0 ≤ i ∧ i < (l.length : Int) := hin
        obtain ⟨m, rfl⟩ := Int.eq_ofNat_of_zero_le hin.1
        have hm : m < l.length := by omega
        have hget : l.getD m 0 = l[m] := by simp [List.getD_eq_getElem?_getD, hm]
        rcases hsl with hnil | ⟨b, off, rfl, hap, hcell⟩
        · simp at hnil; subst hnil; simp at hm
        · refine out_pure (v' := .pointer (some ⟨b, off + m, none⟩)) ?_ (by
            simp only [VV]
            refine ⟨[k.cell (real.nthI l m)], VC_elV (hall _ ?_), b, off + m, rfl, hap, by simp, fun i hi => ?_⟩
            · show l.getD (m : Int).toNat 0 ∈ l
              simp only [Int.toNat_natCast]; rw [hget]; exact List.getElem_mem hm
            · have : i = 0 := by simpa using hi
              subst this
              rw [Nat.add_zero, hcell m (by simpa using hm)]
              show _ = some (k.cell (l.getD (m : Int).toNat 0))
              simp only [Int.toNat_natCast]; rw [hget]; simp [hm]) hb rfl
          have hm' : m < l.length := hm
          have hsz := EK.ty_size k
          simp [execOp, ho, h1, hv, Instr.indexAt, asIntOf, run_underlying hu, run_size he, addr_add, hm', hsz]
      · exact h.elim
    · exact h.elim
  · rename_i l ht
    have ht := hE.ty _ _ ht
    split at h
    · rename_i kk i lit hi
      obtain ⟨hin, h⟩ := h
      have := val_Y h; subst this
      obtain ⟨_, hv⟩ := VV_int hi h2
      simp only [VV] at h1
      obtain ⟨a0, cap, h1, _, hsl⟩ := h1
      simp only [TyRep] at ht
      obtain ⟨_, et, hu, he⟩ := ht
      have hin : 0 ≤ i ∧ i < (l.length : Int) := hin
      obtain ⟨m, rfl⟩ := Int.eq_ofNat_of_zero_le hin.1
      have hm : m < l.length := by omega
      have hget : l.getD m 0#128 = l[m] := by simp [List.getD_eq_getElem?_getD, hm]
      have hfl := words_at l m hm
      have hfl0 := words_len l
      rcases hsl with hnil | ⟨b, off, rfl, hap, hcell⟩
      · rw [hnil] at hfl0; simp at hfl0; omega
      · refine out_pure (v' := .pointer (some ⟨b, off + m * 2, none⟩)) ?_ (by
          simp only [VV, VC]
          refine ⟨wordCells (real.nthW l m), rfl, b, off + m * 2, rfl, hap, by simp [wordCells], fun i hi => ?_⟩
          have hi2 : i < 2 := by simpa [wordCells] using hi
          rw [show off + m * 2 + i = off + (m * 2 + i) by omega, hcell _ (by rw [hfl0]; omega), hfl i hi2]
          show _ = (wordCells (l.getD (m : Int).toNat 0#128))[i]?
          simp only [Int.toNat_natCast]; rw [hget]) hb rfl
        have hm' : m < l.length := hm
        have hsz : Ty.size (.struct [.int .u64, .int .u64]) = 2 := rfl
        have he' : TyRep P (.struct [.int .u64, .int .u64]) et := by simp only [TyRep]; exact he
        simp [execOp, ho, h1, hv, Instr.indexAt, asIntOf, run_underlying hu, run_size he', addr_add, hm', hsz]
    · exact h.elim
  · rename_i k n ht
    have ht := hE.ty _ _ ht
    split at h
    · rename_i kk i lit hk hi
      have := kindEq_eq hk; subst this
      obtain ⟨hin, h⟩ := h
      have := val_Y h; subst this
      obtain ⟨_, hv⟩ := VV_int hi h2
      simp only [VV] at h1
      obtain ⟨a0, cap, h1, _, hsl⟩ := h1
      simp only [TyRep] at ht
      obtain ⟨_, et, hu, he⟩ := ht
      have hin : 0 ≤ i ∧ i < ((dig n).length : Int) := hin
      obtain ⟨m, rfl⟩ := Int.eq_ofNat_of_zero_le hin.1
      have hm : m < (dig n).length := by omega
      have hget : (dig n).getD m 0 = (dig n)[m] := by simp [List.getD_eq_getElem?_getD, hm]
      rcases hsl with hnil | ⟨b, off, rfl, hap, hcell⟩
      · simp at hnil; rw [hnil] at hm; simp at hm
      · refine out_pure (v' := .pointer (some ⟨b, off + m, none⟩)) ?_ (by
          simp only [VV, VC]
          refine ⟨[.int .u32 (real.digI n m)], ⟨?_, rfl⟩, b, off + m, rfl, hap, by simp, fun i hi => ?_⟩
          · show inK .u32 ((dig n).getD (m : Int).toNat 0)
            simp only [Int.toNat_natCast]; rw [hget]; exact dig_inK n _ (List.getElem_mem hm)
          · have : i = 0 := by simpa using hi
            subst this
            rw [Nat.add_zero, hcell m (by simpa using hm)]
            show _ = some (Value.int .u32 ((dig n).getD (m : Int).toNat 0))
            simp only [Int.toNat_natCast]; rw [hget]; simp [hm]) hb rfl
        have he' : TyRep P (.int .u32) et := by simp only [TyRep]; exact he
        have hsz : Ty.size (.int .u32) = 1 := rfl
        simp [execOp, ho, h1, hv, Instr.indexAt, asIntOf, run_underlying hu, run_size he', addr_add, hm, hsz]
    · exact h.elim
  · rename_i e j l ht
    have ht := hE.ty _ _ ht
    split at h
    · rename_i k kk i lit hek hi
      split at h
      · rename_i hk
        have := ekEq_eq hk; subst this
        have := ekOf_ty hek; subst this
        obtain ⟨hin, h⟩ := h
        have := val_Y h; subst this
        obtain ⟨_, hv⟩ := VV_int hi h2
        simp only [VV] at h1
        simp only [TyRep] at ht
        obtain ⟨_, et, hu, he⟩ := ht
        have hin : 0 ≤ i ∧ i < (l.length : Int) := hin
        obtain ⟨m, rfl⟩ := Int.eq_ofNat_of_zero_le hin.1
        have hm : m < l.length := by omega
        have hown := h1
        obtain ⟨g1, g2, ⟨e, g3⟩, g4⟩ := h1
        rcases g3.2 with ⟨_, hn⟩ | ⟨b, cap, cur, h1, _, _, _⟩
        · omega
        · refine out_pure (v' := .pointer (some ⟨b, m, none⟩)) ?_ (by
            simp only [VV]
            exact ⟨_, b, hown, by rw [h1]; rfl, hin, by simp⟩) hb rfl
          have hsz := EK.ty_size k
          simp [execOp, ho, h1, hv, Instr.indexAt, asIntOf, run_underlying hu, run_size he, addr_add, hm, hsz]
      · exact h.elim
    · exact h.elim
  · exact h.elim

theorem shapeEl_shapes {e : Ty} : ∀ (ps : List LV), shapeEl e ps = true → shapes (reps ps.length e) ps = true
  | [], _ => rfl
  | p :: ps, h => by
    simp only [shapeEl, Bool.and_eq_true] at h
    simp only [List.length_cons, reps, shapes, h.1, shapeEl_shapes ps h.2, Bool.and_self]
theorem offsetOf_reps {e : Ty} : ∀ (n i : Nat), i < n → offsetOf (reps n e) i = some (i * e.size) ∧ (reps n e)[i]? = some e
  | 0, i, h => by omega
  | n + 1, 0, _ => by simp [reps, offsetOf]
  | n + 1, i + 1, h => by
    obtain ⟨h1, h2⟩ := offsetOf_reps (e := e) n i (by omega)
    refine ⟨by simp [reps, offsetOf, h1, Nat.add_mul, Nat.add_comm], by simpa [reps] using h2⟩

theorem op_index {t : TypeId} {x ix : Operand} {lx li : LV} (ho : o.op = .index t x ix) (hE : EnvOk P E) (hb : BR ρ w bx)
    (h : (match look E.ty t with
    | some (.arr n e) => match shape (.arr n e) lx, partsOf real lx with
      | true, some ps => atIndex real n li fun j => match nth ps j with
        | .undef => .fail
        | v => val v
      | _, _ => .fail
    | some .str => match lx, asInt li with
      | .slit s, some (_, i, true) => match decide (0 ≤ i ∧ i < s.size) with
        | true => val (.lit .u8 (byteOf s i))
        | false => .fail
      | .slit s, some (_, i, false) => .req (real.inS i s) (val (.int .u8 (real.byteAt s i)))
      | .str s, some (_, i, _) => .req (real.inS i s) (val (.int .u8 (real.byteAt s i)))
      | _, _ => .fail
    | _ => .fail).Y r) (h1 : VV ρ w lx (a.eval x)) (h2 : VV ρ w li (a.eval ix)) : OpOut P o a ρ w bx lab r := by
  split at h
  · rename_i n e ht
    have ht := hE.ty _ _ ht
    split at h
    · rename_i ps hs hp
      obtain ⟨hl, hse⟩ := parts_arr hp hs
      obtain ⟨cs, hv, hc⟩ := agg_cells hs rfl h1
      have hcs := parts_VCs hp hc
      obtain ⟨kk, m, hvi, hm, h⟩ := atIndex_Y h2 h
      have hss := shapeEl_shapes ps hse
      rw [hl] at hss
      obtain ⟨hd, he⟩ := offsetOf_reps (e := e) n m hm
      obtain ⟨ty, pre, c, post, g1, rfl, g3, g4, g5, g6⟩ := parts_nth _ ps m _ cs hss hcs hd
      rw [he] at g1; cases g1
      have hr : r = ⟨nth ps m, .no, none⟩ := by
        split at h
        · exact h.elim
        · exact val_Y h
      subst hr
      simp only [TyRep] at ht
      obtain ⟨_, _, et, hu, het⟩ := ht
      have hne : e.isAgg = false → c ≠ [] := fun hag hcn => by
        subst hcn
        cases e <;> simp [Ty.isAgg, Ty.size] at hag g6
      have hp := run_part (P := P) het w (pre := pre) (c := c) (post := post) g6 hne
      refine out_pure (v' := valOf e c) ?_ (valOf_VV g4 g5) hb rfl
      rw [g3, List.append_assoc] at hp
      simp only [List.append_assoc] at hv
      simp [execOp, ho, Instr.index, asIntOf, run_underlying hu, hv, hvi, hm, run_size het, hp]
    · exact h.elim
  · rename_i ht
    have ht := hE.ty _ _ ht
    have key : ∀ (s : ByteArray) (i : Int) (k : IntKind), 0 ≤ i → i < (s.size : Int) → a.eval x = .string s → a.eval ix = .int k i → (execOp a.eval o).run P w = .ok (.value (.int .u8 (byteOf s i))) w ∧ inK .u8 (byteOf s i) := by
      intro s i k hp1 hp2 h1 h2
      simp only [TyRep] at ht
      have hlt : i.toNat < s.size := by omega
      have hd : byteOf s i = s[i.toNat].toNat := by
        show (((s.data.toList.getD i.toNat 0).toNat : Nat) : Int) = _
        congr 2
        have : s.data.size = s.size := rfl
        rw [List.getD_eq_getElem?_getD, List.getElem?_eq_getElem (by simpa using hlt)]
        rfl
      rw [hd]
      refine ⟨?_, ?_⟩
      · simp [execOp, ho, Instr.index, asIntOf, run_underlying ht.2, h1, h2, hp1, hlt]
      · have := s[i.toNat].toNat_lt
        unfold inK
        rw [IntKind.wrap_u8]
        omega
    split at h
    · rename_i s k i e
      obtain ⟨_, h2⟩ := VV_int e h2
      simp only [VV] at h1
      split at h
      · rename_i hp
        have hp := of_decide_eq_true hp
        have := val_Y h; subst this
        obtain ⟨g1, g2⟩ := key s i _ hp.1 hp.2 h1.2 h2
        exact out_pure g1 (by simp only [VV]; exact ⟨g2, trivial⟩) hb rfl
      · exact h.elim
    · rename_i s k i e
      obtain ⟨_, h2⟩ := VV_int e h2
      simp only [VV] at h1
      obtain ⟨hp, h⟩ := h
      have hp : 0 ≤ i ∧ i < (s.size : Int) := hp
      have := val_Y h; subst this
      obtain ⟨g1, g2⟩ := key s i _ hp.1 hp.2 h1.2 h2
      exact out_pure g1 (by simp only [VV]; exact ⟨g2, rfl⟩) hb rfl
    · rename_i s k i l e
      obtain ⟨_, h2⟩ := VV_int e h2
      simp only [VV] at h1
      obtain ⟨hp, h⟩ := h
      have hp : 0 ≤ i ∧ i < (s.size : Int) := hp
      have := val_Y h; subst this
      obtain ⟨g1, g2⟩ := key s i _ hp.1 hp.2 h1.2 h2
      exact out_pure g1 (by simp only [VV]; exact ⟨g2, rfl⟩) hb rfl
    · exact h.elim
  · exact h.elim

theorem op_slice {t : TypeId} {x : Operand} {lx : LV} (ho : o.op = .slice t x none none none) (hE : EnvOk P E) (h1 : VV ρ w lx (a.eval x)) (hb : BR ρ w bx)
    (h : (match look E.ty t, lx with
    | some (.arr n _), .ptr k off => match natLt n 1000000 with
      | true => val (.sl k off n)
      | false => .fail
    | _, _ => .fail).Y r) : OpOut P o a ρ w bx lab r := by
  split at h
  · rename_i n e k off ht
    have ht := hE.ty _ _ ht
    split at h
    · rename_i hn
      have hn := (blt_iff _ _).1 hn
      have := val_Y h; subst this
      simp only [VV] at h1
      obtain ⟨b, hk, h1⟩ := h1
      simp only [TyRep] at ht
      obtain ⟨_, _, et, hu, he⟩ := ht
      refine out_pure (v' := .slice (some ⟨b, off, none⟩) n n) ?_ (by simp only [VV]; exact ⟨b, n, hk, ⟨by omega, Nat.le_refl _⟩, rfl⟩) hb rfl
      simp [execOp, ho, Instr.sliceAt, run_underlying hu, Instr.sureAddr, h1, Instr.sliceBounds, run_size he, addr_add]
    · exact h.elim
  · exact h.elim

theorem evEq_lit {x : LV} {h : Int} (e : evEq x h = true) : ∃ k, asInt x = some (k, h, true) := by
  unfold evEq at e
  split at e
  · rename_i k m hx; exact ⟨k, by rw [hx, of_decide_eq_true e]⟩
  · cases e

theorem op_sliceHi {t : TypeId} {x hi : Operand} {mx : Option Operand} {lx lh : LV} {em : Operand → LV} (ho : o.op = .slice t x none (some hi) mx) (hE : EnvOk P E) (h1 : VV ρ w lx (a.eval x)) (h2 : VV ρ w lh (a.eval hi)) (h3 : ∀ m, mx = some m → VV ρ w (em m) (a.eval m)) (hb : BR ρ w bx)
    (h : (match look E.ty t, lx with
    | some (.slice _), .sl k off n => match asInt lh with
      | some (_, h, true) => match (match mx with | some m => evEq (em m) h | none => true) && decide (0 ≤ h) && natLe h.toNat n with
        | true => val (.sl k off h.toNat)
        | false => .fail
      | _ => .fail
    | some (.arr n _), .ptr k off => match (generalizing := false) mx, asInt lh with
      | none, some (_, h, true) => match decide (0 ≤ h) && natLe h.toNat n && natLt n 1000000 with
        | true => val (.sl k off h.toNat)
        | false => .fail
      | _, _ => .fail
    | some (.slice e), .ints j l => match (generalizing := false) mx, (match ekOf e with | some k => ekEq k j | none => false), asInt lh with
      | none, true, some (_, h, _) => .req (real.toI h l) (val (.ints j (real.takeI l h)))
      | some m, true, some (_, h, _) => match asInt (em m) with
        | some (_, c, _) => .req (real.toI h l) (.req (c = h) (val (.ints j (real.takeI l h))))
        | none => .fail
      | _, _, _ => .fail
    | _, _ => .fail).Y r) : OpOut P o a ρ w bx lab r := by
  split at h
  · rename_i e k off n ht
    have ht := hE.ty _ _ ht
    split at h
    · rename_i kk hh hlit
      obtain ⟨_, h2⟩ := VV_int hlit h2
      split at h
      · rename_i hc
        simp only [Bool.and_eq_true, decide_eq_true_eq, natLe_iff] at hc
        obtain ⟨⟨hm, h0⟩, hn⟩ := hc
        have := val_Y h; subst this
        simp only [VV] at h1
        obtain ⟨b, cap, hk, ⟨hl, hcap⟩, h1⟩ := h1
        simp only [TyRep] at ht
        obtain ⟨_, et, hu, he⟩ := ht
        obtain ⟨m, rfl⟩ := Int.eq_ofNat_of_zero_le h0
        have hn : m ≤ n := by simpa using hn
        have hmc : m ≤ cap := by omega
        cases mx with
        | none =>
          refine out_pure (v' := .slice (some ⟨b, off, none⟩) m cap) ?_ (by simp only [VV]; exact ⟨b, cap, hk, ⟨by simp; omega, by simpa using hmc⟩, by simp⟩) hb rfl
          simp [execOp, ho, Instr.sliceAt, Instr.slice, run_underlying hu, h1, h2, Instr.sliceBounds, Instr.sliceBound, asIntOf, hmc, run_size he, addr_add]
        | some mm =>
          obtain ⟨k3, h4⟩ := evEq_lit hm
          obtain ⟨_, h3⟩ := VV_int h4 (h3 mm rfl)
          refine out_pure (v' := .slice (some ⟨b, off, none⟩) m m) ?_ (by simp only [VV]; exact ⟨b, m, hk, ⟨by simp; omega, by simp⟩, by simp⟩) hb rfl
          simp [execOp, ho, Instr.sliceAt, Instr.slice, run_underlying hu, h1, h2, h3, Instr.sliceBounds, Instr.sliceBound, asIntOf, hmc, run_size he, addr_add]
      · exact h.elim
    · exact h.elim
  · rename_i n e k off ht
    have ht := hE.ty _ _ ht
    cases mx with
    | some m => exact h.elim
    | none =>
      split at h
      · rename_i kk hh _ hlit
        obtain ⟨_, h2⟩ := VV_int hlit h2
        split at h
        · rename_i hc
          simp only [Bool.and_eq_true, decide_eq_true_eq, natLe_iff] at hc
          obtain ⟨⟨h0, hn⟩, hm⟩ := hc
          have := val_Y h; subst this
          simp only [VV] at h1
          obtain ⟨b, hk, h1⟩ := h1
          simp only [TyRep] at ht
          obtain ⟨_, _, et, hu, he⟩ := ht
          obtain ⟨m, rfl⟩ := Int.eq_ofNat_of_zero_le h0
          have hn : m ≤ n := by simpa using hn
          refine out_pure (v' := .slice (some ⟨b, off, none⟩) m n) ?_ (by simp only [VV]; exact ⟨b, n, hk, ⟨by simp; omega, by simpa using hn⟩, by simp⟩) hb rfl
          simp [execOp, ho, Instr.sliceAt, run_underlying hu, Instr.sureAddr, h1, h2, Instr.sliceBounds, Instr.sliceBound, asIntOf, hn, run_size he, addr_add]
        · exact h.elim
      · exact h.elim
  · rename_i e k l ht
    have ht := hE.ty _ _ ht
    have hek : ∀ (b : Bool), (match ekOf e with | some j => ekEq j k | none => false) = b → b = true → e = k.ty := fun b hb0 hbt => by
      subst hbt
      split at hb0
      · rename_i j hj; rw [ekOf_ty hj, ekEq_eq hb0]
      · cases hb0
    generalize (match ekOf e with | some j => ekEq j k | none => false) = bk at *
    cases hlit : asInt lh with
    | none => rw [hlit] at h; cases mx <;> cases bk <;> exact h.elim
    | some p =>
    obtain ⟨kk, hh, lit⟩ := p
    rw [hlit] at h
    cases hbk : bk with
    | false => rw [hbk] at h; cases mx <;> exact h.elim
    | true =>
      rw [hbk] at h
      have := hek _ rfl hbk; subst this
      obtain ⟨_, h2⟩ := VV_int hlit h2
      have hmx : ∃ c, (∀ m, mx = some m → ∃ km lm, asInt (em m) = some (km, hh, lm)) ∧ c = () ∧ real.toI hh l ∧ (val (.ints k (real.takeI l hh))).Y r := by
        cases mx with
        | none => exact ⟨(), fun m hm => (by cases hm), rfl, h.1, h.2⟩
        | some m =>
          simp only at h
          split at h
          · rename_i km c lm hc
            obtain ⟨q1, q2, q3⟩ := h
            subst q2
            exact ⟨(), fun m' hm' => (by cases hm'; exact ⟨km, lm, hc⟩), rfl, q1, q3⟩
          · exact h.elim
      obtain ⟨_, hmx, _, hin, h⟩ := hmx
      have := val_Y h; subst this
      simp only [VV] at h1
      obtain ⟨hall, a0, cap, h1, ⟨hl, hcap⟩, hsl⟩ := h1
      simp only [TyRep] at ht
      obtain ⟨_, et, hu, he⟩ := ht
      have he' := he
      have hin : 0 ≤ hh ∧ hh ≤ (l.length : Int) := hin
      obtain ⟨m, rfl⟩ := Int.eq_ofNat_of_zero_le hin.1
      have hmc : m ≤ cap := by omega
      have hml : m ≤ l.length := by omega
      have hout : ∀ cap', m ≤ cap' → VV ρ w (.ints k (real.takeI l m)) (.slice a0 m cap') := fun cap' hc' => by
        simp only [VV]
        have ht : real.takeI l m = l.take m := by simp [real]
        rw [ht]
        refine ⟨fun n hn => hall n (List.mem_of_mem_take hn), a0, cap', by simp [Nat.min_eq_left hml], ⟨by simp; omega, by simp; omega⟩, ?_⟩
        rcases hsl with hnil | ⟨b, off, hb0, hap, hcell⟩
        · left
          have : l = [] := by simpa using hnil
          simp [this]
        · right
          refine ⟨b, off, hb0, hap, fun i hi => ?_⟩
          have hi : i < m := by simp at hi; omega
          rw [hcell i (by simp; omega)]
          simp [List.getElem?_take, hi]
      have hsz := EK.ty_size k
      cases mx with
      | none =>
        refine out_pure (v' := .slice a0 m cap) ?_ (hout cap hmc) hb rfl
        cases a0 <;> simp [execOp, ho, Instr.sliceAt, Instr.slice, run_underlying hu, h1, h2, Instr.sliceBounds, Instr.sliceBound, asIntOf, hmc, run_size he', Addr.add, hsz]
      | some mm =>
        obtain ⟨km, lm, hem⟩ := hmx mm rfl
        obtain ⟨_, h3⟩ := VV_int hem (h3 mm rfl)
        refine out_pure (v' := .slice a0 m m) ?_ (hout m (Nat.le_refl _)) hb rfl
        cases a0 <;> simp [execOp, ho, Instr.sliceAt, Instr.slice, run_underlying hu, h1, h2, h3, Instr.sliceBounds, Instr.sliceBound, asIntOf, hmc, run_size he', Addr.add, hsz]
  · exact h.elim
theorem op_sliceS {t : TypeId} {x lo hi : Operand} {lx ll lh : LV} (ho : o.op = .slice t x (some lo) (some hi) none) (hE : EnvOk P E) (h1 : VV ρ w lx (a.eval x)) (h2 : VV ρ w ll (a.eval lo)) (h3 : VV ρ w lh (a.eval hi)) (hb : BR ρ w bx)
    (h : ((match (generalizing := false) look E.ty t, strOf lx, asInt ll, asInt lh with
    | some .str, some s, some (_, l, _), some (_, h, _) => R.req (real.cutOk l h s) (val (.str (real.strCut s l h)))
    | _, _, _, _ => R.fail) : R OR).Y r) : OpOut P o a ρ w bx lab r := by
  split at h
  · rename_i s kl l _ kh hh _ ht e0 e1 e2
    have ht := hE.ty _ _ ht
    simp only [TyRep] at ht
    obtain ⟨hp, h⟩ := h
    have hp : 0 ≤ l ∧ l ≤ hh ∧ hh ≤ (s.size : Int) := hp
    obtain ⟨_, g2⟩ := VV_int e1 h2
    obtain ⟨_, g3⟩ := VV_int e2 h3
    have := val_Y h; subst this
    have h1 : inK .i64 s.size ∧ a.eval x = .string s := by
      cases lx <;> simp only [strOf, Option.some.injEq, reduceCtorEq] at e0
      · subst e0; simpa only [VV] using h1
      · subst e0; simpa only [VV] using h1
    obtain ⟨p1, p2, p3⟩ := hp
    obtain ⟨m, rfl⟩ := Int.eq_ofNat_of_zero_le p1
    obtain ⟨k, rfl⟩ := Int.eq_ofNat_of_zero_le (Int.le_trans p1 p2)
    have q2 : m ≤ k := by omega
    have q3 : k ≤ s.size := by omega
    refine out_pure (v' := .string (s.extract m k)) ?_ (by show VV ρ w (.str (s.extract m k)) _; simp only [VV]; exact ⟨by have := h1.1; unfold inK at this ⊢; rw [IntKind.wrap_i64] at this ⊢; rw [ByteArray.size_extract]; omega, trivial⟩) hb rfl
    simp [execOp, ho, Instr.sliceAt, Instr.slice, run_underlying ht.2, h1.2, g2, g3, Instr.sliceBounds, Instr.sliceBound, asIntOf, q2, q3, p1, p2]
  · exact h.elim
theorem op_sliceLo {t : TypeId} {x lo : Operand} {lx ll : LV} (ho : o.op = .slice t x (some lo) none none) (hE : EnvOk P E) (h1 : VV ρ w lx (a.eval x)) (h2 : VV ρ w ll (a.eval lo)) (hb : BR ρ w bx)
    (h : ((match (generalizing := false) look E.ty t, lx with
    | some (.slice e), .ints j l => match (match ekOf e with | some k => ekEq k j | none => false), asInt ll with
      | true, some (_, h, _) => R.req (real.toI h l) (val (.ints j (real.dropI l h)))
      | _, _ => R.fail
    | some (.arr n e), .ptr k off => match asInt ll with
      | some (_, h, true) => match decide (0 ≤ h) && natLt h.toNat n && natLt n 1000000 && natEq e.size 1 with
        | true => val (.sl k (off + h.toNat) (n - h.toNat))
        | false => R.fail
      | _ => R.fail
    | _, _ => R.fail) : R OR).Y r) : OpOut P o a ρ w bx lab r := by
  split at h
  · rename_i e k l ht
    have ht := hE.ty _ _ ht
    have hek : ∀ (b : Bool), (match ekOf e with | some j => ekEq j k | none => false) = b → b = true → e = k.ty := fun b hb0 hbt => by
      subst hbt
      split at hb0
      · rename_i j hj; rw [ekOf_ty hj, ekEq_eq hb0]
      · cases hb0
    generalize (match ekOf e with | some j => ekEq j k | none => false) = bk at *
    split at h
    · rename_i kk hh lit hlit
      have := hek true rfl rfl; subst this
      obtain ⟨_, h2⟩ := VV_int hlit h2
      obtain ⟨hin, h⟩ := h
      have := val_Y h; subst this
      simp only [VV] at h1
      obtain ⟨hall, a0, cap, h1, ⟨hl, hcap⟩, hsl⟩ := h1
      simp only [TyRep] at ht
      obtain ⟨_, et, hu, he⟩ := ht
      have hin : 0 ≤ hh ∧ hh ≤ (l.length : Int) := hin
      obtain ⟨m, rfl⟩ := Int.eq_ofNat_of_zero_le hin.1
      have hml : m ≤ l.length := by omega
      have hsz := EK.ty_size k
      have hd : real.dropI l m = l.drop m := by simp [real]
      have hlc : m ≤ cap := by omega
      have hout : VV ρ w (.ints k (real.dropI l m)) (.slice (if cap = m then a0 else a0.map (·.add (m * 1))) (l.length - m) (cap - m)) := by
        simp only [VV]
        rw [hd]
        refine ⟨fun n hn => hall n (List.mem_of_mem_drop hn), (if cap = m then a0 else a0.map (·.add (m * 1))), cap - m, by simp, ⟨by simp; omega, by simp; omega⟩, ?_⟩
        rcases hsl with hnil | ⟨b, off, hb0, hap, hcell⟩
        · left
          have : l = [] := by simpa using hnil
          simp [this]
        · by_cases hcm : cap = m
          · left
            have : l.length ≤ m := by omega
            simp [this]
          · right
            refine ⟨b, off + m, ?_, hap, fun i hi => ?_⟩
            · rw [if_neg hcm, hb0]; simp [Addr.add]
            · have hi : i < l.length - m := by simpa using hi
              rw [show off + m + i = off + (m + i) by omega, hcell (m + i) (by simp; omega)]
              simp [List.getElem?_drop]
      refine out_pure (v' := .slice (if cap = m then a0 else a0.map (·.add (m * 1))) (l.length - m) (cap - m)) ?_ hout hb rfl
      have hml' : m ≤ l.length := hml
      simp [execOp, ho, Instr.sliceAt, Instr.slice, run_underlying hu, h1, h2, Instr.sliceBounds, Instr.sliceBound, asIntOf, hml', run_size he, hsz]
    · exact h.elim
  · rename_i n e k off ht
    have ht := hE.ty _ _ ht
    split at h
    · rename_i kk hh hlit
      obtain ⟨_, h2⟩ := VV_int hlit h2
      split at h
      · rename_i hc
        simp only [Bool.and_eq_true, decide_eq_true_eq] at hc
        obtain ⟨⟨⟨h0, hn⟩, hm⟩, hs⟩ := hc
        have hs := natEq_true hs
        have := val_Y h; subst this
        simp only [VV] at h1
        obtain ⟨b, hk, h1⟩ := h1
        simp only [TyRep] at ht
        obtain ⟨_, _, et, hu, he⟩ := ht
        obtain ⟨m, rfl⟩ := Int.eq_ofNat_of_zero_le h0
        have hn : m < n := by simpa using hn
        have hne : n ≠ m := by omega
        have hle : m ≤ n := by omega
        refine out_pure (v' := .slice (some ⟨b, off + m, none⟩) (n - m) (n - m)) ?_ (by simp only [VV]; exact ⟨b, n - m, hk, ⟨by simp; omega, by simp⟩, by simp⟩) hb rfl
        simp [execOp, ho, Instr.sliceAt, run_underlying hu, Instr.sureAddr, h1, h2, Instr.sliceBounds, Instr.sliceBound, asIntOf, hle, hne, run_size he, addr_add, hs, Addr.add]
      · exact h.elim
    · exact h.elim
  · exact h.elim
end
end Go.LE
namespace Go.LE
open Go Go.RowKit

theorem fill_one (off : Nat) : ∀ (vs : List Value) (k : Nat) (cells : Array Value), off + k + vs.length ≤ cells.size →
    ((vs.zipIdx k).foldl (fun (cs : Array Value) (x : Value × Nat) => cs.setIfInBounds (off + x.2) x.1) cells).toList = cells.toList.take (off + k) ++ vs ++ cells.toList.drop (off + k + vs.length)
  | [], k, cells, _ => by simp
  | v :: vs, k, cells, h => by
    simp only [List.zipIdx_cons, List.foldl_cons]
    rw [fill_one off vs (k + 1) _ (by simp at h ⊢; omega)]
    have e := list_seg_step cells.toList (off + k) v vs (by simp at h ⊢; omega)
    simpa [Array.toList_setIfInBounds, Nat.add_assoc] using e
theorem fill_arr (off : Nat) (vs cells : Array Value) (h : off + vs.size ≤ cells.size) :
    (vs.zipIdx.foldl (fun (cs : Array Value) (x : Value × Nat) => cs.setIfInBounds (off + x.2) x.1) cells).toList = cells.toList.take off ++ vs.toList ++ cells.toList.drop (off + vs.toList.length) := by
  rw [← Array.foldl_toList, Array.toList_zipIdx]
  simpa using fill_one off vs.toList 0 cells (by simpa using h)

section
variable {P : Program} {E : Env} {o : Oper} {a : Act} {ρ : Nat → Option Nat} {w : World} {bx : Bx} {lab : Nat} {r : OR}

theorem setTy_sound : ∀ (fs : List Ty) (ps : List LV) (i : Nat) (v : LV) (ps' : List LV) (cs vs : List Value), setTy fs ps i v = some ps' → shapes fs ps = true → VCs ρ w ps cs → VC ρ w v vs →
    ∃ d ty, offsetOf fs i = some d ∧ fs[i]? = some ty ∧ shape ty v = true ∧ shapes fs ps' = true ∧ VCs ρ w ps' (cs.take d ++ vs ++ cs.drop (d + vs.length)) ∧ vs.length = ty.size ∧ d + vs.length ≤ cs.length
  | [], _, _, _, _, _, _, h, _, _, _ => by simp [setTy] at h
  | _ :: _, [], _, _, _, _, _, h, _, _, _ => by simp [setTy] at h
  | f :: fs, p :: ps, 0, v, ps', cs, vs, h, hs, hc, hv => by
    unfold setTy at h
    split at h
    · rename_i hsv
      cases h
      simp only [shapes, Bool.and_eq_true] at hs
      simp only [VCs] at hc
      obtain ⟨c1, c2, rfl, h1, h2⟩ := hc
      have hl : c1.length = f.size := by rw [VC_size _ _ h1, shape_size _ _ hs.1]
      have hl' : vs.length = f.size := by rw [VC_size _ _ hv, shape_size _ _ hsv]
      refine ⟨0, f, rfl, rfl, hsv, by simp [shapes, hsv, hs.2], ?_, hl', by simp; omega⟩
      simp only [VCs]
      refine ⟨vs, c2, ?_, hv, h2⟩
      rw [List.take_zero, List.nil_append, Nat.zero_add, hl', ← hl, List.drop_left]
    · cases h
  | f :: fs, p :: ps, i + 1, v, ps', cs, vs, h, hs, hc, hv => by
    unfold setTy at h
    split at h
    · rename_i l hl0
      cases h
      simp only [shapes, Bool.and_eq_true] at hs
      simp only [VCs] at hc
      obtain ⟨c1, c2, rfl, h1, h2⟩ := hc
      have hl : c1.length = f.size := by rw [VC_size _ _ h1, shape_size _ _ hs.1]
      obtain ⟨d, ty, g1, g2, g3, g4, g5, g6, g7⟩ := setTy_sound fs ps i v l c2 vs hl0 hs.2 h2 hv
      refine ⟨f.size + d, ty, by simp [offsetOf, g1], by simpa using g2, g3, by simp [shapes, hs.1, g4], ?_, g6, by simp; omega⟩
      simp only [VCs]
      refine ⟨c1, _, ?_, h1, g5⟩
      rw [List.take_append, List.take_of_length_le (by omega), List.drop_append, List.drop_eq_nil_of_le (by omega), hl, show f.size + d - f.size = d by omega, show f.size + d + vs.length - f.size = d + vs.length by omega]
      simp [List.append_assoc]
    · cases h

/-- a literal's parts, laid into its cells -/
theorem fill_sound {fs : List Ty} {place : Nat → Option (Nat × Nat)} (hpl : ∀ i d ty, offsetOf fs i = some d → fs[i]? = some ty → place i = some (d, ty.size)) : ∀ (xs : List (Nat × Operand)) (ev : Operand → LV) (ps ps' : List LV) (cells : Array Value),
    (∀ x ∈ xs, VV ρ w (ev x.2) (a.eval x.2)) → buildS fs ps (xs.map fun p => (p.1, ev p.2)) = some ps' → shapes fs ps = true → VCs ρ w ps cells.toList →
    ∃ cells', Instr.fill place cells (xs.map fun p => (p.1, a.eval p.2)) = some cells' ∧ shapes fs ps' = true ∧ VCs ρ w ps' cells'.toList
  | [], ev, ps, ps', cells, _, h, hs, hc => by
    simp only [List.map_nil, buildS, Option.some.injEq] at h
    subst h
    exact ⟨cells, rfl, hs, hc⟩
  | (i, x) :: xs, ev, ps, ps', cells, hx, h, hs, hc => by
    simp only [List.map_cons, buildS] at h
    split at h
    · rename_i l hl
      have hv := hx (i, x) (by simp)
      have hsh : ∃ ty, shape ty (ev x) = true := by
        have key : ∀ (fs : List Ty) (ps : List LV) (i : Nat) (l : List LV), setTy fs ps i (ev x) = some l → ∃ ty, shape ty (ev x) = true := by
          intro fs
          induction fs with
          | nil => intro ps i l h; simp [setTy] at h
          | cons f fs ih =>
            intro ps i l h
            cases ps with
            | nil => simp [setTy] at h
            | cons p ps =>
              cases i with
              | zero =>
                unfold setTy at h
                split at h
                · rename_i hh; exact ⟨f, hh⟩
                · cases h
              | succ i =>
                unfold setTy at h
                split at h
                · rename_i l' hl'; exact ih ps i l' hl'
                · cases h
        exact key fs ps i l hl
      obtain ⟨ty0, hsh⟩ := hsh
      have hvc := VV_typed hsh hv
      obtain ⟨d, ty, g1, g2, g3, g4, g5, g6, g7⟩ := setTy_sound fs ps i (ev x) l _ _ hl hs hc hvc
      have hp := hpl i d ty g1 g2
      have hn : (a.eval x).cells.size = ty.size := by simpa using g6
      have hfit : d + (a.eval x).cells.size ≤ cells.size := by simpa using g7
      have hf := fill_arr d (a.eval x).cells cells hfit
      obtain ⟨cells', e1, e2, e3⟩ := fill_sound hpl xs ev l ps' _ (fun y hy => hx y (by simp [hy])) h g4 (by rw [hf]; exact g5)
      refine ⟨cells', ?_, e2, e3⟩
      simp only [List.map_cons, Instr.fill, hp, hn]
      rw [if_neg (by simp; omega)]
      exact e1
    · cases h

theorem reps_len {α : Type} (n : Nat) (a : α) : (reps n a).length = n := by
  induction n with
  | zero => rfl
  | succ n ih => simp [reps, ih]
theorem shapes_reps {e : Ty} : ∀ (n : Nat) (ps : List LV), shapes (reps n e) ps = true → ps.length = n ∧ shapeEl e ps = true
  | 0, [], _ => ⟨rfl, rfl⟩
  | n + 1, p :: ps, h => by
    simp only [reps, shapes, Bool.and_eq_true] at h
    obtain ⟨h1, h2⟩ := shapes_reps n ps h.2
    exact ⟨by simp [h1], by simp [shapeEl, h.1, h2]⟩
  | 0, _ :: _, h => by simp [reps, shapes] at h
  | n + 1, [], h => by simp [reps, shapes] at h
theorem zero_reps (ρ : Nat → Option Nat) (w : World) (e : Ty) : ∀ n, shapes (reps n e) (repsLV n e.zero) = true ∧ VCs ρ w (repsLV n e.zero) (List.replicate n e.zc).flatten
  | 0 => ⟨rfl, by simp [repsLV, VCs]⟩
  | n + 1 => by
    obtain ⟨h1, h2⟩ := zero_reps ρ w e n
    obtain ⟨h3, h4⟩ := zero_ok (ρ := ρ) (w := w) e
    refine ⟨by simp [reps, repsLV, shapes, h1, h3], ?_⟩
    rw [List.replicate_succ, List.flatten_cons]
    simp only [repsLV, VCs]
    exact ⟨_, _, rfl, h4, h2⟩

theorem places_of : ∀ (fs : List Ty) (fields : List Field) (off : Nat), TyReps P fs fields off → ∃ places, fields.mapM (fun f => (P.info? f.type).map fun i => (f.offset, i.size)) = some places ∧
    ∀ i d ty, offsetOf fs i = some d → fs[i]? = some ty → places[i]? = some (off + d, ty.size)
  | [], fields, off, h => by
    simp only [TyReps] at h
    subst h
    exact ⟨[], by simp, fun i d ty h => by simp [offsetOf] at h⟩
  | t :: ts, fields, off, h => by
    simp only [TyReps] at h
    obtain ⟨f, fl, rfl, h1, _, _, h2, h3⟩ := h
    obtain ⟨places, hp, hpl⟩ := places_of ts fl _ h3
    obtain ⟨i, z, hi, hs, _⟩ := h2.inf
    refine ⟨(off, t.size) :: places, by simp [List.mapM_cons, hi, hs, h1, hp], fun i d ty hd ht => ?_⟩
    cases i with
    | zero =>
      simp only [offsetOf, Option.some.injEq] at hd; subst hd
      simp at ht; subst ht
      simp
    | succ i =>
      simp only [offsetOf] at hd
      obtain ⟨d', hd', rfl⟩ := Option.map_eq_some_iff.1 hd
      have := hpl i d' ty hd' (by simpa using ht)
      simpa [Nat.add_assoc] using this

theorem op_build {t : TypeId} {ps : Array (Nat × Operand)} {ev : Operand → LV} (ho : o.op = .build t ps) (hE : EnvOk P E) (h1 : ∀ x ∈ ps.toList, VV ρ w (ev x.2) (a.eval x.2)) (hb : BR ρ w bx)
    (h : (match look E.ty t with
    | some (.struct fs) => match buildS fs (Ty.zeros fs) (ps.toList.map fun p : Nat × Operand => (p.1, ev p.2)) with
      | some l => val (.agg l)
      | none => .fail
    | some (.arr n e) => match buildS (reps n e) (repsLV n e.zero) (ps.toList.map fun p : Nat × Operand => (p.1, ev p.2)) with
      | some l => val (.agg l)
      | none => .fail
    | _ => .fail).Y r) : OpOut P o a ρ w bx lab r := by
  have hmap : (ps.map fun (i, x) => (i, a.eval x)).toList = ps.toList.map fun p => (p.1, a.eval p.2) := by simp
  split at h
  · rename_i fs ht
    have ht := hE.ty _ _ ht
    split at h
    · rename_i l hl
      have := val_Y h; subst this
      have ht' := ht
      simp only [TyRep] at ht
      obtain ⟨_, _, _, fields, hu, hf⟩ := ht
      obtain ⟨i, z, hi, hsz, hz, hzc, _⟩ := ht'.inf
      obtain ⟨places, hp, hpl⟩ := places_of fs fields.toList 0 hf
      obtain ⟨z1, z2⟩ := zeros_ok (ρ := ρ) (w := w) fs
      obtain ⟨cells, e1, e2, e3⟩ := fill_sound (ρ := ρ) (w := w) (a := a) (fs := fs) (place := (places.toArray[·]?)) (fun i d ty hd ht => by simpa using hpl i d ty hd ht) ps.toList ev _ l z.cells h1 hl z1 (by rw [hzc]; exact z2)
      have hbuilt : P.built t (ps.map fun (i, x) => (i, a.eval x)).toList = some cells := by
        unfold Program.built
        simp only [hi, hu, hz, hp, hmap]
        exact e1
      have hrun := run_build w t _ _ hbuilt
      refine out_pure (v' := .agg cells) (by simp [execOp, ho, hrun]) ?_ hb rfl
      simp only [VV]
      exact ⟨cells.toList, by simp, e3⟩
    · exact h.elim
  · rename_i n e ht
    have ht := hE.ty _ _ ht
    split at h
    · rename_i l hl
      have := val_Y h; subst this
      have ht' := ht
      simp only [TyRep] at ht
      obtain ⟨_, _, et, hu, he⟩ := ht
      obtain ⟨i, z, hi, hsz, hz, hzc, _⟩ := ht'.inf
      obtain ⟨ie, ze, hie, hse, _⟩ := he.inf
      obtain ⟨z1, z2⟩ := zero_reps ρ w e n
      obtain ⟨cells, e1, e2, e3⟩ := fill_sound (ρ := ρ) (w := w) (a := a) (fs := reps n e) (place := fun i => some (i * ie.size, ie.size)) (fun i d ty hd ht => by
        have hlt : i < n := by
          have := (List.getElem?_eq_some_iff.1 ht).1
          rwa [reps_len] at this
        obtain ⟨g1, g2⟩ := offsetOf_reps (e := e) n i hlt
        rw [g1] at hd; rw [g2] at ht
        cases hd; cases ht
        rw [hse]) ps.toList ev _ l z.cells h1 hl z1 (by rw [hzc]; exact z2)
      have hbuilt : P.built t (ps.map fun (i, x) => (i, a.eval x)).toList = some cells := by
        unfold Program.built
        simp only [hi, hu, hz, hie, hmap]
        exact e1
      have hrun := run_build w t _ _ hbuilt
      refine out_pure (v' := .agg cells) (by simp [execOp, ho, hrun]) ?_ hb rfl
      simp only [VV]
      exact ⟨cells.toList, by simp, e3⟩
    · exact h.elim
  · exact h.elim

theorem zrow (z : List Value) (hz : z ≠ []) : ∀ n, ((List.range (n * z.length)).map fun i => z.toArray[i % z.length]!) = (List.replicate n z).flatten
  | 0 => by simp
  | n + 1 => by
    rw [List.replicate_succ', List.flatten_append, ← zrow z hz n, Nat.add_mul, Nat.one_mul, List.range_add, List.map_append]
    congr 1
    simp only [List.flatten_cons, List.flatten_nil, List.append_nil, List.map_map]
    apply List.ext_getElem?
    intro j
    by_cases hj : j < z.length
    · simp [hj, Nat.mod_eq_of_lt hj]
    · simp [hj]

theorem op_buildSlice {t : TypeId} {n : Nat} {ps : Array (Nat × Operand)} {ev : Operand → LV} (ho : o.op = .buildSlice t n ps) (hE : EnvOk P E) (h1 : ∀ x ∈ ps.toList, VV ρ w (ev x.2) (a.eval x.2)) (hb : BR ρ w bx)
    (h : (match look E.ty t with
    | some (.slice e) => match natLt n 1000 && natLt (n * e.size) 1000, buildS (reps n e) (repsLV n e.zero) (ps.toList.map fun p : Nat × Operand => (p.1, ev p.2)) with
      | true, some l => val (.im l)
      | _, _ => .fail
    | _ => .fail).Y r) : OpOut P o a ρ w bx lab r := by
  have hmap : (ps.map fun (i, x) => (i, a.eval x)).toList = ps.toList.map fun p => (p.1, a.eval p.2) := by simp
  split at h
  · rename_i e ht
    have ht := hE.ty _ _ ht
    split at h
    · rename_i l hn hl
      simp only [Bool.and_eq_true, blt_iff] at hn
      obtain ⟨hn1, hn⟩ := hn
      have := val_Y h; subst this
      simp only [TyRep] at ht
      obtain ⟨_, et, hu, he⟩ := ht
      obtain ⟨z1, z2⟩ := zero_reps ρ w e n
      obtain ⟨z, hz, hzc⟩ := run_zero he w
      have hlz : e.zc.length = e.size := by
        obtain ⟨g1, g2⟩ := zero_ok (ρ := ρ) (w := w) e
        rw [VC_size _ _ g2, shape_size _ _ g1]
      obtain ⟨zero, hz1, hz2, hrow⟩ : ∃ zero : Array Value, (n * e.size = 0 → zero = #[]) ∧ (n * e.size ≠ 0 → zero = z.cells) ∧ ((Array.range (n * e.size)).map (zero[· % zero.size]!)).toList = (List.replicate n e.zc).flatten := by
        by_cases h0 : n * e.size = 0
        · refine ⟨#[], fun _ => rfl, fun h => absurd h0 h, ?_⟩
          have : ((List.replicate n e.zc).flatten).length = 0 := by simp [hlz, h0]
          rw [List.eq_nil_of_length_eq_zero this]
          simp [h0]
        · refine ⟨z.cells, fun h => absurd h h0, fun _ => rfl, ?_⟩
          have hne : e.zc ≠ [] := fun hn => by rw [hn] at hlz; simp at hlz; rw [← hlz] at h0; simp at h0
          have := zrow e.zc hne n
          rw [hlz, ← hzc] at this
          rw [← hzc, ← this]
          have hsz : z.cells.size = e.size := by rw [← hlz, ← hzc]; simp
          simp [hsz]
      obtain ⟨cells, e1, e2, e3⟩ := fill_sound (ρ := ρ) (w := w) (a := a) (fs := reps n e) (place := fun i => some (i * e.size, e.size)) (fun i d ty hd ht => by
        have hlt : i < n := by
          have := (List.getElem?_eq_some_iff.1 ht).1
          rwa [reps_len] at this
        obtain ⟨g1, g2⟩ := offsetOf_reps (e := e) n i hlt
        rw [g1] at hd; rw [g2] at ht
        cases hd; cases ht
        rfl) ps.toList ev _ l ((Array.range (n * e.size)).map (zero[· % zero.size]!)) h1 hl z1 (by rw [hrow]; exact z2)
      have hll := (shapes_reps n l e2).1
      have hbel : Below w.heap.size w (w.alloc (.cells cells et)) := (Below.refl _ _).alloc (Nat.le_refl _) _
      refine ⟨.value (.slice (some ⟨w.heap.size, 0, none⟩) n n), w.alloc (.cells cells et), ρ, _, ?_, .inl rfl, ?_, .of_below hbel, by simpa [updB] using hb.below hbel, fun _ _ => rfl⟩
      · have h24 : ¬ n * e.size > 2 ^ 24 := by omega
        by_cases h0 : n * e.size = 0
        · have e0 : ∀ f : Nat → Value, Array.map f (Array.range 0) = #[] := fun f => by simp
          rw [h0, e0] at e1
          simp only [execOp, ho, Instr.buildSlice, Sem.run_bind, run_underlying hu, Result.andThen_ok, run_size he, hmap, h0, if_true, Sem.run_pure, e0, newRow, Nat.not_lt_zero, gt_iff_lt, if_false, pure_bind, e1, run_newObj, World.alloc_eq]
        · rw [hz2 h0] at e1
          simp only [execOp, ho, Instr.buildSlice, Sem.run_bind, run_underlying hu, Result.andThen_ok, run_size he, if_neg h24, hmap, if_neg h0, hz, Sem.run_pure, e1, newRow, run_newObj, World.alloc_eq]
      · simp only [VV]
        have e3' := VCs_adv (Adv.of_below (ρ := ρ) hbel).weak _ _ e3
        refine ⟨cells.toList, e3', some ⟨w.heap.size, 0, none⟩, n, by rw [hll], by rw [hll]; omega, ?_⟩
        refine .inr ⟨w.heap.size, 0, rfl, fun k hk => by have := hb.lt hk; omega, fun i hi => ?_⟩
        rw [Nat.zero_add]
        simp
    · exact h.elim
  · exact h.elim
end
end Go.LE
namespace Go.LE
open Go Go.RowKit

section
variable {P : Program} {E : Env} {o : Oper} {a : Act} {ρ : Nat → Option Nat} {w : World} {bx : Bx} {lab : Nat} {r : OR}

theorem inK_len {n : Nat} (h : (n : Int) < 4611686018427387904) : inK .i64 n := by
  unfold inK; rw [IntKind.wrap_i64]; omega

theorem run_builtin {b : Builtin} {args : Array Operand} {ts : Array TypeId} (ho : o.op = .call { callee := .builtin b, args := args, argTypes := ts }) :
    ∃ cs : Array Bool, (execOp a.eval o).run P w = (builtin b ts o.type cs (args.map a.eval)).run P w := by
  refine ⟨args.map fun | .const _ => true | _ => false, ?_⟩
  unfold execOp
  rw [ho]
  rfl

theorem op_len {x : Operand} {t : TypeId} {ts : List TypeId} {ty : Ty} {lx : LV} (ho : o.op = .call { callee := .builtin .len, args := #[x], argTypes := (t :: ts).toArray }) (ht : TyRep P ty t)
    (h1 : VV ρ w lx (a.eval x)) (hb : BR ρ w bx) (h : (lenR real ty lx).Y r) : OpOut P o a ρ w bx lab r := by
  have key : ∀ (n : Nat) (e : TypeId) (b : Option Addr) (c : Nat), P.underlying t = some (.slice e) → a.eval x = .slice b n c → (execOp a.eval o).run P w = .ok (.value (.int .i64 n)) w := by
    intro n e b c hu hv
    obtain ⟨cs, hr⟩ := run_builtin (P := P) (w := w) (a := a) ho
    rw [hr]
    simp [builtin, Builtin.len_, hv, run_underlying hu, goInt]
  have keys : ∀ (s : ByteArray), P.underlying t = some .string → a.eval x = .string s → (execOp a.eval o).run P w = .ok (.value (.int .i64 s.size)) w := by
    intro s hu hv
    obtain ⟨cs, hr⟩ := run_builtin (P := P) (w := w) (a := a) ho
    rw [hr]
    simp [builtin, Builtin.len_, hv, run_underlying hu, goInt]
  unfold lenR at h
  split at h
  all_goals first | exact h.elim | skip
  all_goals (have := val_Y h; subst this; simp only [TyRep] at ht; simp only [VV] at h1)
  · obtain ⟨_, et, hu, _⟩ := ht
    obtain ⟨b, c, _, hl, hv⟩ := h1
    exact out_pure (key _ et _ c hu hv) (by simp only [VV]; exact ⟨inK_len hl.1, trivial⟩) hb rfl
  · obtain ⟨_, et, hu, _⟩ := ht
    exact out_pure (key 0 et _ 0 hu h1) (by simp only [VV]; exact ⟨inK_len (n := 0) (by simp), rfl⟩) hb rfl
  · obtain ⟨_, et, hu, _⟩ := ht
    obtain ⟨cells, _, b, c, hv, hl, _⟩ := h1
    exact out_pure (key _ et _ c hu hv) (by simp only [VV]; exact ⟨inK_len hl.1, trivial⟩) hb rfl
  · obtain ⟨_, et, hu, _⟩ := ht
    obtain ⟨b, c, hv, hl, _⟩ := h1
    exact out_pure (key _ et _ c hu hv) (by simp only [VV]; exact ⟨inK_len hl.1, rfl⟩) hb rfl
  · obtain ⟨_, et, hu, _⟩ := ht
    obtain ⟨_, b, c, hv, hl, _⟩ := h1
    exact out_pure (key _ et _ c hu hv) (by simp only [VV]; exact ⟨inK_len hl.1, rfl⟩) hb rfl
  · obtain ⟨_, et, hu, _⟩ := ht
    obtain ⟨_, hl, ⟨e, _, h3⟩, _⟩ := h1
    rcases h3 with ⟨hv, h0⟩ | ⟨g, cap, cur, hv, _⟩
    · exact out_pure (key 0 et _ 0 hu hv) (by simp only [VV]; exact ⟨inK_len hl, by simp only [real]; rw [h0]⟩) hb rfl
    · exact out_pure (key _ et _ cap hu hv) (by simp only [VV]; exact ⟨inK_len hl, rfl⟩) hb rfl
  · obtain ⟨_, et, hu, _⟩ := ht
    obtain ⟨b, c, hv, hl, _⟩ := h1
    exact out_pure (key _ et _ c hu hv) (by simp only [VV]; exact ⟨inK_len hl.1, rfl⟩) hb rfl
  · exact out_pure (keys _ ht.2 h1.2) (by simp only [VV]; exact ⟨h1.1, rfl⟩) hb rfl
  · exact out_pure (keys _ ht.2 h1.2) (by simp only [VV]; exact ⟨h1.1, trivial⟩) hb rfl

theorem VV_pair {ev : Operand → LV} {x y : LV} {args : Array Operand} (hev : ∀ z ∈ args.toList, VV ρ w (ev z) (a.eval z)) (he : args.toList.map ev = [x, y]) :
    ∃ p q, args = #[p, q] ∧ VV ρ w x (a.eval p) ∧ VV ρ w y (a.eval q) := by
  obtain ⟨l⟩ := args
  match l, he with
  | [p, q], he =>
    simp at he
    obtain ⟨rfl, rfl⟩ := he
    exact ⟨p, q, rfl, hev p (by simp), hev q (by simp)⟩
theorem VV_single {ev : Operand → LV} {x : LV} {args : Array Operand} (hev : ∀ z ∈ args.toList, VV ρ w (ev z) (a.eval z)) (he : args.toList.map ev = [x]) :
    ∃ p, args = #[p] ∧ VV ρ w x (a.eval p) := by
  obtain ⟨l⟩ := args
  match l, he with
  | [p], he =>
    simp at he
    subst he
    exact ⟨p, rfl, hev p (by simp)⟩

theorem inK_pick {k : IntKind} {x y : Int} {c : Prop} [Decidable c] (hx : inK k x) (hy : inK k y) : inK k (if c then y else x) := by
  split
  · exact hy
  · exact hx

theorem op_builtin {b : Builtin} {args : Array Operand} {ts : Array TypeId} {ev : Operand → LV} (ho : o.op = .call { callee := .builtin b, args := args, argTypes := ts }) (hE : EnvOk P E)
    (hev : ∀ z ∈ args.toList, VV ρ w (ev z) (a.eval z)) (hb : BR ρ w bx) (h : (builtinR real E b ts.toList (args.toList.map ev)).Y r) : OpOut P o a ρ w bx lab r := by
  unfold builtinR at h
  split at h
  · rename_i x he
    obtain ⟨p, rfl, hv⟩ := VV_single hev he
    split at h
    · rename_i t ts' hts
      split at h
      · rename_i ty hty
        have : ts = (t :: ts').toArray := by rw [← hts]
        subst this
        exact op_len ho (hE.ty _ _ hty) hv hb h
      · exact h.elim
    · exact h.elim
  · rename_i x y he
    obtain ⟨p, q, rfl, hx, hy⟩ := VV_pair hev he
    split at h
    · rename_i k m lm j n ln e1 e2
      obtain ⟨i1, v1⟩ := VV_int e1 hx
      obtain ⟨i2, v2⟩ := VV_int e2 hy
      have hr : (execOp a.eval o).run P w = .ok (.value (.int k (if n > m then n else m))) w := by
        obtain ⟨cs, hr⟩ := run_builtin (P := P) (w := w) (a := a) ho
        rw [hr]
        simp [builtin, Builtin.max_, Builtin.max2, v1, v2]
      split at h
      · rename_i hk _
        have := kindEq_eq hk; subst this
        have := val_Y h; subst this
        exact out_pure hr (by simp only [VV]; exact ⟨inK_pick i1 i2, trivial⟩) hb rfl
      · rename_i hk _
        have := kindEq_eq hk; subst this
        have := val_Y h; subst this
        exact out_pure hr (by simp only [VV]; exact ⟨inK_pick i1 i2, rfl⟩) hb rfl
      · exact h.elim
    · exact h.elim
  · rename_i x y he
    obtain ⟨p, q, rfl, hx, hy⟩ := VV_pair hev he
    split at h
    · rename_i k m lm j n ln e1 e2
      obtain ⟨i1, v1⟩ := VV_int e1 hx
      obtain ⟨i2, v2⟩ := VV_int e2 hy
      have hr : (execOp a.eval o).run P w = .ok (.value (.int k (if n < m then n else m))) w := by
        obtain ⟨cs, hr⟩ := run_builtin (P := P) (w := w) (a := a) ho
        rw [hr]
        simp [builtin, Builtin.min_, Builtin.min2, v1, v2]
      split at h
      · rename_i hk _
        have := kindEq_eq hk; subst this
        have := val_Y h; subst this
        exact out_pure hr (by simp only [VV]; exact ⟨inK_pick i1 i2, trivial⟩) hb rfl
      · rename_i hk _
        have := kindEq_eq hk; subst this
        have := val_Y h; subst this
        exact out_pure hr (by simp only [VV]; exact ⟨inK_pick i1 i2, rfl⟩) hb rfl
      · exact h.elim
    · exact h.elim
  · exact h.elim

theorem cpy_ok {j : IntKind} : ∀ (ps : List LV) (xs : List Int) (cs : List Value), shapeEl (.int j) ps = true → VCs ρ w ps cs → (∀ x ∈ xs, inK j x) →
    shapeEl (.int j) (cpyL j ps xs) = true ∧ (cpyL j ps xs).length = ps.length ∧ VCs ρ w (cpyL j ps xs) ((xs.take ps.length).map (.int j ·) ++ cs.drop (xs.take ps.length).length) ∧ cs.length = ps.length
  | [], xs, cs, hs, hc, _ => by
    simp only [VCs] at hc; subst hc
    cases xs <;> exact ⟨rfl, rfl, by simp [cpyL, VCs], rfl⟩
  | p :: ps, [], cs, hs, hc, _ => by
    have hl : cs.length = (p :: ps).length := by
      have := VCs_size _ _ hc
      rw [this]
      have : ∀ (l : List LV), shapeEl (.int j) l = true → LV.sizes l = l.length := by
        intro l
        induction l with
        | nil => intro _; rfl
        | cons q l ih =>
          intro h
          simp only [shapeEl, Bool.and_eq_true] at h
          have := shape_size _ _ h.1
          simp only [LV.sizes, List.length_cons, ih h.2, this, Ty.size]; omega
      exact this _ hs
    exact ⟨hs, rfl, by simpa [cpyL] using hc, hl⟩
  | p :: ps, x :: xs, cs, hs, hc, hx => by
    simp only [shapeEl, Bool.and_eq_true] at hs
    simp only [VCs] at hc
    obtain ⟨c1, c2, rfl, h1, h2⟩ := hc
    obtain ⟨g1, g2, g3, g4⟩ := cpy_ok ps xs c2 hs.2 h2 (fun y hy => hx y (by simp [hy]))
    have hl : c1.length = 1 := by rw [VC_size _ _ h1, shape_size _ _ hs.1]; rfl
    refine ⟨by simp [cpyL, shapeEl, shape, kindEq_refl, g1], by simp [cpyL, g2], ?_, by simp [hl, g4]; omega⟩
    simp only [cpyL, VCs]
    refine ⟨[.int j x], _, ?_, by simp only [VC]; exact ⟨hx x (by simp), trivial⟩, g3⟩
    match c1, hl with
    | [c], _ => simp
theorem op_copy {args : Array Operand} {ts : Array TypeId} {ev : Operand → LV} (ho : o.op = .call { callee := .builtin .copy, args := args, argTypes := ts }) (hE : EnvOk P E)
    (hev : ∀ z ∈ args.toList, VV ρ w (ev z) (a.eval z)) (hb : BR ρ w bx) {bx0 : Bx} (hrd : ∀ k, r.rd = some k → bx k = bx0 k) (h : (copyR real E bx0 ts.toList (args.toList.map ev)).Y r) : OpOut P o a ρ w bx lab r := by
  unfold copyR at h
  split at h
  · rename_i t t' k off n j x l hts he
    obtain ⟨p, q, rfl, hp, hq⟩ := VV_pair hev he
    split at h
    · rename_i kd m ke c ht hbx
      have ht := hE.ty _ _ ht
      split at h
      · rename_i ps hc hpar
        cases h
        simp only [Bool.and_eq_true] at hc
        obtain ⟨⟨⟨h1, h2⟩, h3⟩, h4⟩ := hc
        have := kindEq_eq h1; subst this
        have := kindEq_eq h2; subst this
        have := natEq_true h3; subst this
        have := natEq_true h4; subst this
        have : ts = #[t, t'] := by apply Array.ext'; simpa using hts
        subst this
        simp only [VV] at hp hq
        obtain ⟨b, cap, hk, ⟨hl, _⟩, hp⟩ := hp
        obtain ⟨hall, a1, cap2, hq, hl2, hsl⟩ := hq
        obtain ⟨ty2, lv2, cs, et, e1, ⟨e2, e2n⟩, e3, e4⟩ := hb.cont k b hk
        rw [hrd k rfl, hbx] at e1
        cases e1
        obtain ⟨hlen, hse⟩ := parts_arr hpar e2
        obtain ⟨g1, g2, g3, g4⟩ := cpy_ok ps (x :: l) cs hse (parts_VCs hpar e3) hall
        simp only [TyRep] at ht
        obtain ⟨_, et2, hu, he2⟩ := ht
        have hsz : (P.info? et2).map (·.size) = some 1 := by
          obtain ⟨i, z, i1, i2, _⟩ := he2.1
          rw [i1]; simp [i2, Ty.size]
        rcases hsl with hnil | ⟨b2, off2, rfl, hap, hcell⟩
        · simp at hnil
        · have hrow := run_copy_row (P := P) w t t' o.type et2 b 0 n cap ⟨b2, off2, none⟩ (x :: l).length cap2 cs.toArray et (((x :: l).take ps.length).map (Value.int ke ·)) hu hsz e4
            (by rw [List.length_map, List.length_take, hlen]; exact Nat.min_comm _ _)
            (fun i v hi => by
              have hi' := (List.getElem?_eq_some_iff.1 hi).1
              rw [List.length_map, List.length_take] at hi'
              rw [addr_add, hcell i (by simp at hi' ⊢; omega)]
              rw [List.getElem?_map] at hi ⊢
              rw [List.getElem?_take, if_pos (by omega)] at hi
              exact hi)
            (by rw [List.length_map, List.length_take]; simp only [Nat.zero_add, List.size_toArray]; omega)
            (by intro v hv; obtain ⟨z, _, rfl⟩ := List.mem_map.1 hv; rfl)
          obtain ⟨cs0, hr⟩ := run_builtin (P := P) (w := w) (a := a) ho
          have hargs : Array.map a.eval #[p, q] = #[.slice (some ⟨b, 0, none⟩) n cap, .slice (some ⟨b2, off2, none⟩) (x :: l).length cap2] := by simp [hp, hq]
          rw [hargs] at hr
          have ha := adv_put (w := w) (w' := w.setRow b (cs.toArray.toList.take 0 ++ ((x :: l).take ps.length).map (Value.int ke ·) ++ cs.toArray.toList.drop (0 + (((x :: l).take ps.length).map (Value.int ke ·)).length)).toArray) hk (hb.apart hk) rfl rfl rfl (by simp) (fun i hi => setRow_other w b i _ hi)
          refine ⟨.value (.int .i64 (Nat.min (x :: l).length n : Nat)), _, ρ, _, ?_, .inl rfl, by simp only [VV]; exact ⟨inK_len (by have := Nat.min_le_left (x :: l).length n; show ((Nat.min (x :: l).length n : Nat) : Int) < _; have h9 : (x :: l).length.min n ≤ (x :: l).length := this; omega), trivial⟩, ha, ?_, fun _ _ => rfl⟩
          · rw [hr]
            simp only [builtin, Sem.run_bind, hrow, Result.andThen_ok, Sem.run_pure]
            rw [List.length_map, List.length_take, hlen, Nat.min_comm]
            rfl
          · refine br_put (w := w) (cs := ((x :: l).take ps.length).map (Value.int ke ·) ++ cs.drop ((x :: l).take ps.length).length) (t := et) hb hk ha (fun i hi => setRow_other w b i _ hi) ⟨by simp only [shape, g1, g2, hlen]; simp, e2n⟩ (by simp only [VC]; exact g3) ?_
            rw [setRow_heap w b _ _ et _ e4]
            simp
      · exact h.elim
    · exact h.elim
  · exact h.elim

/-- ONE OPERATION -/
theorem opR_sound (hE : EnvOk P E) (hD : ∀ t ty, look E.ty t = some ty → ty.deep ≤ 10000) (hG : GR E.globs ρ w) {ev : Operand → LV} (hev : ∀ x ∈ o.op.operands.toList, VV ρ w (ev x) (a.eval x)) (hb : BR ρ w bx) {bx0 : Bx}
    (hrd : ∀ k, r.rd = some k → bx k = bx0 k) (hlab : ρ (lab + 1) = none) (h : (opR real E o.op ev bx0 lab).Y r) : OpOut P o a ρ w bx lab r := by
  generalize hop : o.op = op at h hev
  cases op
  case move x =>
    simp only [opR] at h
    have := val_Y h; subst this
    exact op_move hop (hev x (by simp [Op.operands])) rfl hb
  case assign x =>
    simp only [opR] at h
    have := val_Y h; subst this
    exact op_assign hop (hev x (by simp [Op.operands])) rfl hb
  case nilCheck x => exact op_nilCheck hop (hev x (by simp [Op.operands])) hb h
  case pick c x y => exact op_pick hop (hev c (by simp [Op.operands])) (hev x (by simp [Op.operands])) (hev y (by simp [Op.operands])) hb h
  case alloc t =>
    simp only [opR] at h
    split at h
    · rename_i ty ht
      split at h
      · rename_i hu; cases h; exact op_alloc hop (hE.ty _ _ ht) hu hlab hb
      · exact h.elim
    · exact h.elim
  case box t x =>
    simp only [opR] at h
    split at h
    · rename_i ty ht
      split at h
      · rename_i hs; cases h
        simp only [Bool.and_eq_true] at hs
        exact op_box hop (hev x (by simp [Op.operands])) hs.2 hs.1 hlab hb
      · exact h.elim
    · exact h.elim
  case build t ps => exact op_build hop hE (fun x hx => hev x.2 (by simp [Op.operands]; exact ⟨x.1, by simpa using hx⟩)) hb h
  case buildSlice t n ps => exact op_buildSlice hop hE (fun x hx => hev x.2 (by simp [Op.operands]; exact ⟨x.1, by simpa using hx⟩)) hb h
  case load t x => exact op_load hop hE hG (hev x (by simp [Op.operands])) hb hrd h
  case store t x y => exact op_store hop hE (hev x (by simp [Op.operands])) (hev y (by simp [Op.operands])) hb hrd h
  case binOp op t x y t' => exact op_bin hop hE hD (hev x (by simp [Op.operands])) (hev y (by simp [Op.operands])) hb h
  case unOp op t x => exact op_un hop (hev x (by simp [Op.operands])) hb h
  case convert s d x => exact op_convert hop hE (hev x (by simp [Op.operands])) hb h
  case makeFunc fn fi cs =>
    cases fn <;> simp only [opR] at h
    case func f =>
      split at h
      · rename_i hfi
        split at h
        · rename_i htm
          have := val_Y h; subst this
          exact op_makeFunc hop (by apply Array.ext'; simpa using hfi) (fun x hx => hev x (by simp [Op.operands]; right; simpa using hx)) htm hb
        · exact h.elim
      · exact h.elim
    all_goals exact h.elim
  case fieldAddr t x i => exact op_fieldAddr hop hE (hev x (by simp [Op.operands])) hb h
  case field t x i => exact op_field hop hE (hev x (by simp [Op.operands])) hb h
  case indexAddr t x ix => exact op_indexAddr hop hE (hev x (by simp [Op.operands])) (hev ix (by simp [Op.operands])) hb h
  case index t x ix => exact op_index hop hE hb h (hev x (by simp [Op.operands])) (hev ix (by simp [Op.operands]))
  case slice t x lo hi mx =>
    cases lo <;> cases hi <;> cases mx <;> simp only [opR] at h
    case none.none.none => exact op_slice hop hE (hev x (by simp [Op.operands])) hb h
    case none.some.none hi => exact op_sliceHi (em := ev) hop hE (hev x (by simp [Op.operands])) (hev hi (by simp [Op.operands])) (fun m hm => by cases hm) hb h
    case none.some.some hi mx => exact op_sliceHi (em := ev) hop hE (hev x (by simp [Op.operands])) (hev hi (by simp [Op.operands])) (fun m hm => by cases hm; exact hev mx (by simp [Op.operands])) hb h
    case some.some.none lo hi => exact op_sliceS hop hE (hev x (by simp [Op.operands])) (hev lo (by simp [Op.operands])) (hev hi (by simp [Op.operands])) hb h
    case some.none.none lo => exact op_sliceLo hop hE (hev x (by simp [Op.operands])) (hev lo (by simp [Op.operands])) hb h
    all_goals exact h.elim
  case extract x i => exact op_extract hop (hev x (by simp [Op.operands])) hb h
  case call c =>
    obtain ⟨callee, args, ts⟩ := c
    cases callee <;> simp only [opR] at h
    case builtin b =>
      split at h
      · rename_i hcp
        cases b <;> simp only [isCopy, Bool.false_eq_true] at hcp
        exact op_copy hop hE (fun z hz => hev z (by simp [Op.operands, Call.operands]; simpa using hz)) hb hrd h
      · exact op_builtin hop hE (fun z hz => hev z (by simp [Op.operands, Call.operands]; simpa using hz)) hb h
    all_goals exact h.elim
  all_goals (simp only [opR] at h; exact h.elim)
end
end Go.LE
namespace Go.LE
open Go Go.RowKit

/-! ## frames -/
structure TR (ρ : Nat → Option Nat) (w : World) (t : List LV) (tm : Array Value) : Prop where
  size : tm.size = t.length
  at_ : ∀ i, VV ρ w (nth t i) (tm.getD i undef)

structure StR (G : List (Nat × Ty × LV)) (ρ : Nat → Option Nat) (st : St) (a : Act) (w : World) : Prop where
  tmps : TR ρ w st.tmps a.tmps
  defers : a.defers = []
  bx : BR ρ w st.bx
  free : ∀ k, st.next ≤ k → ρ (k + 1) = none
  gr : GR G ρ w

theorem nth_setN : ∀ (t : List LV) (i j : Nat) (v : LV), nth (setN t i v) j = if j = i ∧ i < t.length then v else nth t j
  | [], i, j, v => by simp [setN, nth]
  | x :: xs, 0, 0, v => by simp [setN, nth]
  | x :: xs, 0, j + 1, v => by simp [setN, nth]
  | x :: xs, i + 1, 0, v => by simp [setN, nth]
  | x :: xs, i + 1, j + 1, v => by simp [setN, nth, nth_setN xs i j v]
theorem len_setN : ∀ (t : List LV) (i : Nat) (v : LV), (setN t i v).length = t.length
  | [], i, v => rfl
  | x :: xs, 0, v => rfl
  | x :: xs, i + 1, v => by simp [setN, len_setN xs i v]

theorem TR.set {ρ : Nat → Option Nat} {w : World} {t : List LV} {tm : Array Value} (h : TR ρ w t tm) {i : Nat} {lv : LV} {v : Value} (hv : VV ρ w lv v) : TR ρ w (setN t i lv) (tm.setIfInBounds i v) where
  size := by simp [h.size, len_setN]
  at_ j := by
    rw [nth_setN]
    by_cases hj : j = i ∧ i < t.length
    · rw [if_pos hj]
      obtain ⟨rfl, hlt⟩ := hj
      have : (tm.setIfInBounds j v).getD j undef = v := by
        simp [Array.getD_eq_getD_getElem?, h.size, hlt]
      rw [this]; exact hv
    · rw [if_neg hj]
      have : (tm.setIfInBounds i v).getD j undef = tm.getD j undef := by
        simp only [Array.getD_eq_getD_getElem?, Array.getElem?_setIfInBounds]
        by_cases e : i = j
        · subst e
          have : ¬ i < tm.size := by rw [h.size]; exact fun hh => hj ⟨rfl, hh⟩
          simp [this]
        · simp [e]
      rw [this]; exact h.at_ j
/-- the slot is known better -/
theorem TR.know {ρ : Nat → Option Nat} {w : World} {t : List LV} {tm : Array Value} (h : TR ρ w t tm) {i : Nat} {lv : LV} (hv : VV ρ w lv (tm.getD i undef)) : TR ρ w (setN t i lv) tm where
  size := by simp [h.size, len_setN]
  at_ j := by
    rw [nth_setN]
    by_cases hj : j = i ∧ i < t.length
    · rw [if_pos hj, hj.1]; exact hv
    · rw [if_neg hj]; exact h.at_ j
theorem TR.put {ρ : Nat → Option Nat} {w : World} {t : List LV} {a : Act} (h : TR ρ w t a.tmps) {d : Option Nat} {lv : LV} {v : Value} (hv : VV ρ w lv v) : TR ρ w (putT t d lv) (a.put d v).tmps := by
  cases d with
  | none => exact h
  | some i => simp only [putT, setF_eq]; exact h.set hv
theorem TR.adv {ρ ρ' : Nat → Option Nat} {w w' : World} {t : List LV} {tm : Array Value} (h : TR ρ w t tm) (ha : Adv ρ w ρ' w') : TR ρ' w' t tm := ⟨h.size, fun i => VV_adv ha _ _ (h.at_ i)⟩
theorem kills_len : ∀ (t : List LV), (kills t).length = t.length
  | [] => rfl
  | v :: l => by simp [kills, kills_len l]
theorem kills_nth : ∀ (t : List LV) (i : Nat), nth (kills t) i = kill (nth t i)
  | [], i => by simp [kills, nth, kill, tame]
  | v :: l, 0 => rfl
  | v :: l, i + 1 => by simp only [kills, nth]; exact kills_nth l i
theorem tames_nth : ∀ (t : List LV), tames t = true → ∀ i, tame (nth t i) = true
  | [], _, i => by simp [nth, tame]
  | v :: l, h, 0 => by simp only [tames, Bool.and_eq_true] at h; exact h.1
  | v :: l, h, i + 1 => by simp only [tames, Bool.and_eq_true] at h; simp only [nth]; exact tames_nth l h.2 i
theorem TR.advW {ρ ρ' : Nat → Option Nat} {w w' : World} {t : List LV} {tm : Array Value} (h : TR ρ w t tm) (ht : tames t = true) (ha : AdvW ρ w ρ' w') : TR ρ' w' t tm := ⟨h.size, fun i => VV_advW ha _ _ (tames_nth t ht i) (h.at_ i)⟩
theorem TR.kills {ρ ρ' : Nat → Option Nat} {w w' : World} {t : List LV} {tm : Array Value} (h : TR ρ w t tm) (ha : AdvW ρ w ρ' w') : TR ρ' w' (kills t) tm := ⟨by rw [kills_len]; exact h.size, fun i => by
  rw [kills_nth]
  unfold kill
  split
  · rename_i hk; exact VV_advW ha _ _ hk (h.at_ i)
  · simp only [VV]⟩
theorem TR.keep {ρ : Nat → Option Nat} {w : World} {t : List LV} {tm : Array Value} (h : TR ρ w t tm) (bx : Bx) (r : LV) : TR ρ w (keepT bx r t) tm := by
  unfold keepT
  split
  · exact h
  · split
    · exact h
    · exact h.kills (AdvW.refl _ _)
theorem put_defers (a : Act) (d : Option Nat) (v : Value) : (a.put d v).defers = a.defers := by cases d <;> rfl

theorem VV_ofVal {ρ : Nat → Option Nat} {w : World} (v : Value) : VV ρ w (ofVal v) v := by
  unfold ofVal
  split
  · split
    · rename_i h; simp only [VV]; unfold inK; exact ⟨of_decide_eq_true h, trivial⟩
    · simp only [VV]
  · simp only [VV]
  · split
    · rename_i h
      have := (blt_iff _ _).1 h
      simp only [VV]
      exact ⟨inK_len (by omega), trivial⟩
    · simp only [VV]
  · simp only [VV]
  · simp only [VV]
theorem VV_evL {ρ : Nat → Option Nat} {w : World} {t : List LV} {a : Act} (h : TR ρ w t a.tmps) (x : Operand) : VV ρ w (evL t x) (a.eval x) := by
  cases x with
  | tmp i => simp only [evL, nthF_eq]; exact h.at_ i
  | const v => exact VV_ofVal v
  | global g => simp only [evL, VV, Act.eval]
  | func f => simp only [evL, VV, Act.eval, VVs]; exact ⟨[], rfl, rfl, rfl⟩

theorem testW_sound {ρ : Nat → Option Nat} {w : World} {t : List LV} {a : Act} {x : Operand} {K : Bool → List LV → Prop} (h : TR ρ w t a.tmps) (hK : testW t x K) :
    ∃ b t', K b t' ∧ a.eval x = .bool b ∧ TR ρ w t' a.tmps := by
  unfold testW at hK
  simp only [nthF_eq, setF_eq] at hK
  split at hK
  · rename_i i
    split at hK
    · rename_i b hb
      have := h.at_ i
      rw [hb] at this
      simp only [VV] at this
      exact ⟨b, t, hK, this, h⟩
    · rename_i b hb
      have := h.at_ i
      rw [hb] at this
      simp only [VV] at this
      cases b with
      | true => exact ⟨true, _, hK.1.resolve_left (by simp), this, h.know (by simp only [VV]; exact this)⟩
      | false => exact ⟨false, _, hK.2.resolve_left (by simp), this, h.know (by simp only [VV]; exact this)⟩
    · exact hK.elim
  · rename_i b
    exact ⟨b, t, hK, rfl, h⟩
  · exact hK.elim

theorem isNoV_val {ρ : Nat → Option Nat} {w : World} {x : LV} {v : Value} (h : isNoV x = true) (hv : VV ρ w x v) : v = undef := by
  unfold isNoV at h
  split at h
  · simp only [VV] at hv
    obtain ⟨vs, rfl, h2⟩ := hv
    cases vs with
    | nil => rfl
    | cons a l => simp [VVs] at h2
  · cases h
theorem VV_noV (ρ : Nat → Option Nat) (w : World) : VV ρ w (.tup []) undef := by
  simp only [VV]
  exact ⟨[], rfl, by simp [VVs]⟩
theorem guardW_sound {ρ : Nat → Option Nat} {w : World} {st : St} {a : Act} {o : Oper} {ops : Array Oper} {yes no : St → Prop} (h : TR ρ w st.tmps a.tmps) (hK : guardW (ops.toList.map (·.dst)) o st yes no) :
    ∃ t', TR ρ w t' a.tmps ∧ ((Region.wanted o (yielded ops a.tmps) = true ∧ yes ⟨t', st.bx, st.next⟩) ∨ (Region.wanted o (yielded ops a.tmps) = false ∧ no ⟨t', st.bx, st.next⟩)) := by
  unfold guardW at hK
  split at hK
  · rename_i hg
    exact ⟨st.tmps, h, .inl ⟨by simp [Region.wanted, hg], hK⟩⟩
  · rename_i j want hg
    split at hK
    · rename_i d hd
      have h1 : (ops[j]?).bind (·.dst) = some d := by
        rw [List.getElem?_map] at hd
        cases ho : ops[j]? with
        | none => rw [Array.getElem?_toList, ho] at hd; cases hd
        | some oj => rw [Array.getElem?_toList, ho] at hd; simpa using hd
      split at hK
      · rename_i hn
        have hv := h.at_ d
        rw [nthF_eq] at hn
        have hy : yielded ops a.tmps j = none := by
          unfold yielded
          rw [h1, Option.bind_some]
          have := isNoV_val hn hv
          rw [Array.getD_eq_getD_getElem?] at this
          cases hh : a.tmps[d]? with
          | none => rfl
          | some x => rw [hh] at this; simp at this; rw [this]; rfl
        exact ⟨st.tmps, h, .inr ⟨by simp [Region.wanted, hg, hy], hK⟩⟩
      obtain ⟨b, t', hK, hv, ht⟩ := testW_sound h hK
      have hy : yielded ops a.tmps j = some b := by
        unfold yielded
        have h2 : a.tmps[d]? = some (.bool b) := by
          have : a.tmps.getD d undef = .bool b := hv
          rw [Array.getD_eq_getD_getElem?] at this
          cases hh : a.tmps[d]? with
          | none => rw [hh] at this; simp [undef] at this
          | some x => rw [hh] at this; simp at this; rw [this]
        rw [h1, Option.bind_some, h2]
      refine ⟨t', ht, ?_⟩
      simp only [Region.wanted, hg, hy]
      split at hK
      · rename_i he
        exact .inl ⟨by simpa using he, hK⟩
      · rename_i he
        exact .inr ⟨by simpa using he, hK⟩
    · exact hK.elim

/-! ## calls -/
/-- a function of the program, with a body -/
def Entered (P : Program) (f : FuncId) : Prop := ∃ fn c, P.funcs[f]? = some fn ∧ fn.body = some c ∧ (fn.name == "runtime.NumGoroutine") = false
theorem Entered.run {P : Program} {f : FuncId} (h : Entered P f) (w : World) (args : Array Value) : (callFunc f args).run P w = .ok (.enter f args) w := by
  obtain ⟨fn, c, h1, h2, h3⟩ := h
  simp only [callFunc, Sem.run_bind, run_program, Result.andThen_ok, h1, h3, h2]
  simp

def none' : Nat → Option Nat := fun _ => none
def SpecOk (P : Program) (G : List (Nat × Ty × LV)) (f : FuncId) (s : Spec) : Prop :=
  Entered P f ∧ ∀ args r, (s args).Y r → ∀ (w : World) (vals : List Value), VVs none' w args vals → GR G none' w →
    Calls P f vals.toArray w fun e w' => ∃ v, e = .returned v ∧ VV none' w' r v ∧ Below w.heap.size w w'
def ExtOk (P : Program) (f : FuncId) (s : Spec) : Prop :=
  ∀ args r, (s args).Y r → ∀ (ρ : Nat → Option Nat) (w : World) (vals : List Value), VVs ρ w args vals → ∃ v, (callFunc f vals.toArray).run P w = .ok (.value v) w ∧ VV ρ w r v
def InlOk (P : Program) (f : FuncId) (c : Code) (m : Nat) (res : List ResultVar) : Prop :=
  ∃ fn, P.funcs[f]? = some fn ∧ fn.body = some c ∧ fn.ntmps = m ∧ fn.results.toList = res ∧ (fn.name == "runtime.NumGoroutine") = false

def FnOk (P : Program) (G : List (Nat × Ty × LV)) (f : FuncId) : FnE → Prop
  | .spec s => SpecOk P G f s
  | .ext s => ExtOk P f s
  | .inl c m res => InlOk P f c m res

def CallPost (G : List (Nat × Ty × LV)) (ρ : Nat → Option Nat) (w : World) (next : Nat) (K : LV → Bx → Nat → Prop) (e : Ending) (w' : World) : Prop :=
  ∃ v lv bx' next' ρ', e = .returned v ∧ K lv bx' next' ∧ VV ρ' w' lv v ∧ BR ρ' w' bx' ∧ (∀ k, next' ≤ k → ρ' (k + 1) = none) ∧ AdvW ρ w ρ' w' ∧ GR G ρ' w' ∧ next ≤ next' ∧ (∀ k, k < next → ρ' (k + 1) = ρ (k + 1))
def CallOk (P : Program) (G : List (Nat × Ty × LV)) (call : CallW) : Prop :=
  ∀ f args bx next K, call f args bx next K → ∀ (ρ : Nat → Option Nat) (w : World) (vals : List Value), VVs ρ w args vals → BR ρ w bx → (∀ k, next ≤ k → ρ (k + 1) = none) → GR G ρ w →
    Calls P f vals.toArray w (CallPost G ρ w next K)

structure EnvFull (P : Program) (E : Env) : Prop where
  ok : EnvOk P E
  deep : ∀ t ty, look E.ty t = some ty → ty.deep ≤ 10000
  fns : ∀ f e, look E.fns f = some e → FnOk P E.globs f e
  mixed : P.follows .mixedOrders = true

/-! ### what is not the call's own -/
theorem SlC_none {ρ : Nat → Option Nat} {w : World} {v : Value} {n : Nat} {cs : List Value} (h : SlC ρ w v n cs) : SlC none' w v n cs := by
  obtain ⟨a, cap, h1, h2, h3⟩ := h
  exact ⟨a, cap, h1, h2, h3.imp id fun ⟨b, off, g1, _, g3⟩ => ⟨b, off, g1, fun k => by simp [none'], g3⟩⟩
theorem CellC_none {ρ : Nat → Option Nat} {w : World} {v : Value} {cs : List Value} (h : CellC ρ w v cs) : CellC none' w v cs := by
  obtain ⟨b, off, g1, _, g3, g4⟩ := h
  exact ⟨b, off, g1, fun k => by simp [none'], g3, g4⟩
mutual
theorem VC_none {ρ : Nat → Option Nat} {w : World} : ∀ (lv : LV) (cs : List Value), plain lv = true → VC ρ w lv cs → VC none' w lv cs
  | .int .., cs, _, h | .lit .., cs, _, h | .str .., cs, _, h | .slit .., cs, _, h | .bool .., cs, _, h | .blit .., cs, _, h | .nils, cs, _, h | .nilf, cs, _, h | .gptr .., cs, _, h | .wide _, cs, _, h | .word _, cs, _, h => by
    simp only [VC] at h ⊢ <;> exact h
  | .undef, cs, hp, h | .own .., cs, hp, h | .oel .., cs, hp, h | .ptr .., cs, hp, h | .sl .., cs, hp, h => by simp [plain] at hp
  | .agg ps, cs, hp, h => by simp only [VC] at h ⊢; exact VCs_none ps cs (by simpa [plain] using hp) h
  | .tup _, cs, _, h => by simp [VC] at h
  | .fn f ps, cs, hp, h => by simp only [VC] at h ⊢; obtain ⟨vs, h0, h1, h2⟩ := h; exact ⟨vs, h0, VVs_none ps vs (by simpa [plain] using hp) h1, h2⟩
  | .im l, cs, hp, h => by simp only [VC] at h ⊢; obtain ⟨v, c, h1, h2, h3⟩ := h; exact ⟨v, c, h1, VCs_none l c (by simpa [plain] using hp) h2, SlC_none h3⟩
  | .cell l, cs, hp, h => by simp only [VC] at h ⊢; obtain ⟨v, c, h1, h2, h3⟩ := h; exact ⟨v, c, h1, VC_none l c (by simpa [plain] using hp) h2, CellC_none h3⟩
  | .big _, cs, _, h => by simp only [VC] at h ⊢; obtain ⟨v, h1, h3⟩ := h; exact ⟨v, h1, SlC_none h3⟩
  | .words _, cs, _, h => by simp only [VC] at h ⊢; obtain ⟨v, h1, h3⟩ := h; exact ⟨v, h1, SlC_none h3⟩
  | .ints .., cs, _, h => by simp only [VC] at h ⊢; obtain ⟨v, h1, h2, h3⟩ := h; exact ⟨v, h1, h2, SlC_none h3⟩
theorem VCs_none {ρ : Nat → Option Nat} {w : World} : ∀ (ps : List LV) (cs : List Value), plains ps = true → VCs ρ w ps cs → VCs none' w ps cs
  | [], cs, _, h => by simp only [VCs] at h ⊢; exact h
  | p :: ps, cs, hp, h => by
    simp only [plains, Bool.and_eq_true] at hp
    simp only [VCs] at h ⊢
    obtain ⟨c1, c2, h0, h1, h2⟩ := h
    exact ⟨c1, c2, h0, VC_none p c1 hp.1 h1, VCs_none ps c2 hp.2 h2⟩
theorem VV_none {ρ : Nat → Option Nat} {w : World} : ∀ (lv : LV) (v : Value), plain lv = true → VV ρ w lv v → VV none' w lv v
  | .int .., v, _, h | .lit .., v, _, h | .str .., v, _, h | .slit .., v, _, h | .bool .., v, _, h | .blit .., v, _, h | .nils, v, _, h | .nilf, v, _, h | .gptr .., v, _, h | .wide _, v, _, h | .word _, v, _, h => by
    simp only [VV] at h ⊢ <;> exact h
  | .undef, v, hp, h | .own .., v, hp, h | .oel .., v, hp, h | .ptr .., v, hp, h | .sl .., v, hp, h => by simp [plain] at hp
  | .agg ps, v, hp, h => by simp only [VV] at h ⊢; obtain ⟨cs, h0, h1⟩ := h; exact ⟨cs, h0, VCs_none ps cs (by simpa [plain] using hp) h1⟩
  | .tup ps, v, hp, h => by simp only [VV] at h ⊢; obtain ⟨vs, h0, h1⟩ := h; exact ⟨vs, h0, VVs_none ps vs (by simpa [plain] using hp) h1⟩
  | .fn f ps, v, hp, h => by simp only [VV] at h ⊢; obtain ⟨vs, h0, h1, h2⟩ := h; exact ⟨vs, h0, VVs_none ps vs (by simpa [plain] using hp) h1, h2⟩
  | .im l, v, hp, h => by simp only [VV] at h ⊢; obtain ⟨c, h2, h3⟩ := h; exact ⟨c, VCs_none l c (by simpa [plain] using hp) h2, SlC_none h3⟩
  | .cell l, v, hp, h => by simp only [VV] at h ⊢; obtain ⟨c, h2, h3⟩ := h; exact ⟨c, VC_none l c (by simpa [plain] using hp) h2, CellC_none h3⟩
  | .big _, v, _, h => by simp only [VV] at h ⊢; exact SlC_none h
  | .words _, v, _, h => by simp only [VV] at h ⊢; exact SlC_none h
  | .ints .., v, _, h => by simp only [VV] at h ⊢; exact ⟨h.1, SlC_none h.2⟩
theorem VVs_none {ρ : Nat → Option Nat} {w : World} : ∀ (ps : List LV) (vs : List Value), plains ps = true → VVs ρ w ps vs → VVs none' w ps vs
  | [], vs, _, h => by simp only [VVs] at h ⊢; exact h
  | p :: ps, vs, hp, h => by
    simp only [plains, Bool.and_eq_true] at hp
    simp only [VVs] at h ⊢
    obtain ⟨v, vs', h0, h1, h2⟩ := h
    exact ⟨v, vs', h0, VV_none p v hp.1 h1, VVs_none ps vs' hp.2 h2⟩
end

/-- no value of the cells is a uint32 -/
def noU32c (v : Value) : Prop := ∀ n, v ≠ .int .u32 n
mutual
theorem shape_noU32 {ρ : Nat → Option Nat} {w : World} : ∀ (ty : Ty) (lv : LV) (cs : List Value), ty.noU32 = true → shape ty lv = true → VC ρ w lv cs → ∀ v ∈ cs, noU32c v
  | ty, .int k n, cs, hn, hs, h | ty, .lit k n, cs, hn, hs, h => by
    simp only [VC] at h
    obtain ⟨_, rfl⟩ := h
    intro v hv m e
    simp at hv; subst hv
    cases e
    cases ty <;> simp [shape] at hs
    rename_i j
    cases j <;> simp [kindEq, Ty.noU32, Ty.isU32] at hs hn
  | ty, .bool .., cs, _, _, h | ty, .blit .., cs, _, _, h | ty, .nils, cs, _, _, h | ty, .nilf, cs, _, _, h | ty, .gptr .., cs, _, _, h => by
    simp only [VC] at h; subst h; intro v hv m e; simp at hv; rw [hv] at e; cases e
  | ty, .str .., cs, _, _, h | ty, .slit .., cs, _, _, h => by
    simp only [VC] at h; obtain ⟨_, rfl⟩ := h; intro v hv m e; simp at hv; rw [hv] at e; cases e
  | ty, .wide _, cs, _, _, h => by
    simp only [VC] at h; subst h; intro v hv m e; rw [e] at hv; simp [wideCells] at hv
  | ty, .word _, cs, _, _, h => by
    simp only [VC] at h; subst h; intro v hv m e; rw [e] at hv; simp [wordCells] at hv
  | ty, .agg ps, cs, hn, hs, h => by
    simp only [VC] at h
    cases ty <;> simp only [shape, Bool.and_eq_true, Bool.false_eq_true] at hs
    case struct fs => exact shapes_noU32 fs ps cs (by simpa [Ty.noU32] using hn) hs h
    case arr n e => exact shapeEl_noU32 e ps cs (by simpa [Ty.noU32] using hn) hs.2 h
  | ty, .tup _, cs, _, _, h => by simp [VC] at h
  | ty, .ptr .., cs, _, _, h => by simp only [VC] at h; obtain ⟨b, _, rfl⟩ := h; intro v hv m e; simp at hv; rw [hv] at e; cases e
  | ty, .sl .., cs, _, _, h => by simp only [VC] at h; obtain ⟨b, c, _, _, rfl⟩ := h; intro v hv m e; simp at hv; rw [hv] at e; cases e
  | ty, .fn .., cs, _, _, h => by simp only [VC] at h; obtain ⟨b, _, _, rfl⟩ := h; intro v hv m e; simp at hv; rw [hv] at e; cases e
  | ty, .im _, cs, _, _, h => by simp only [VC] at h; obtain ⟨u, c, rfl, _, a, cap, rfl, _⟩ := h; intro v hv m e; simp at hv; rw [hv] at e; cases e
  | ty, .cell _, cs, _, _, h => by simp only [VC] at h; obtain ⟨u, c, rfl, _, a, cap, rfl, _⟩ := h; intro v hv m e; simp at hv; rw [hv] at e; cases e
  | ty, .big _, cs, _, _, h => by simp only [VC] at h; obtain ⟨u, rfl, a, cap, rfl, _⟩ := h; intro v hv m e; simp at hv; rw [hv] at e; cases e
  | ty, .words _, cs, _, _, h => by simp only [VC] at h; obtain ⟨u, rfl, a, cap, rfl, _⟩ := h; intro v hv m e; simp at hv; rw [hv] at e; cases e
  | ty, .ints .., cs, _, _, h => by simp only [VC] at h; obtain ⟨u, rfl, _, a, cap, rfl, _⟩ := h; intro v hv m e; simp at hv; rw [hv] at e; cases e
  | ty, .undef, cs, _, _, h | ty, .own .., cs, _, _, h | ty, .oel .., cs, _, _, h => by simp [VC] at h
theorem shapes_noU32 {ρ : Nat → Option Nat} {w : World} : ∀ (fs : List Ty) (ps : List LV) (cs : List Value), Ty.noU32s fs = true → shapes fs ps = true → VCs ρ w ps cs → ∀ v ∈ cs, noU32c v
  | [], [], cs, _, _, h => by simp only [VCs] at h; subst h; simp
  | [], _ :: _, _, _, hs, _ => by simp [shapes] at hs
  | _ :: _, [], _, _, hs, _ => by simp [shapes] at hs
  | f :: fs, p :: ps, cs, hn, hs, h => by
    simp only [Ty.noU32s, Bool.and_eq_true] at hn
    simp only [shapes, Bool.and_eq_true] at hs
    simp only [VCs] at h
    obtain ⟨c1, c2, rfl, h1, h2⟩ := h
    intro v hv
    rcases List.mem_append.1 hv with hv | hv
    · exact shape_noU32 f p c1 hn.1 hs.1 h1 v hv
    · exact shapes_noU32 fs ps c2 hn.2 hs.2 h2 v hv
theorem shapeEl_noU32 {ρ : Nat → Option Nat} {w : World} : ∀ (e : Ty) (ps : List LV) (cs : List Value), e.noU32 = true → shapeEl e ps = true → VCs ρ w ps cs → ∀ v ∈ cs, noU32c v
  | e, [], cs, _, _, h => by simp only [VCs] at h; subst h; simp
  | e, p :: ps, cs, hn, hs, h => by
    simp only [shapeEl, Bool.and_eq_true] at hs
    simp only [VCs] at h
    obtain ⟨c1, c2, rfl, h1, h2⟩ := h
    intro v hv
    rcases List.mem_append.1 hv with hv | hv
    · exact shape_noU32 e p c1 hn hs.1 h1 v hv
    · exact shapeEl_noU32 e ps c2 hn hs.2 h2 v hv
end

theorem SlC_big {ρ : Nat → Option Nat} {w : World} {bx : Bx} (hb : BR ρ w bx) (hz : ρ 0 = none) {v : Value} {k : Nat} {l : List Int} (h : SlC none' w v k (l.map (.int .u32 ·))) : SlC ρ w v k (l.map (.int .u32 ·)) := by
  obtain ⟨a, cap, h1, h2, h3⟩ := h
  refine ⟨a, cap, h1, h2, ?_⟩
  rcases h3 with h3 | ⟨b, off, g1, _, g3⟩
  · exact .inl h3
  · by_cases he : l = []
    · exact .inl (by rw [he]; rfl)
    · refine .inr ⟨b, off, g1, fun j hj => ?_, g3⟩
      cases j with
      | zero => rw [hz] at hj; cases hj
      | succ j =>
      obtain ⟨ty, lv, cs, t, _, ⟨e1, e2⟩, e3, e4⟩ := hb.cont j b hj
      have hpos := List.length_pos_iff.2 he
      have := g3 0 (by simpa using hpos)
      rw [List.getElem?_map, List.getElem?_eq_getElem hpos] at this
      simp only [Option.map_some] at this
      have hc : cs[off]? = some (.int .u32 l[0]) := by
        simpa [World.cell?, e4] using this
      exact shape_noU32 ty lv cs e2 e1 e3 _ (List.mem_of_getElem? hc) _ rfl

mutual
theorem VC_back {ρ : Nat → Option Nat} {w : World} {bx : Bx} (hb : BR ρ w bx) (hz : ρ 0 = none) : ∀ (lv : LV) (cs : List Value), rigid lv = true → VC none' w lv cs → VC ρ w lv cs
  | .int .., cs, _, h | .lit .., cs, _, h | .str .., cs, _, h | .slit .., cs, _, h | .bool .., cs, _, h | .blit .., cs, _, h | .nils, cs, _, h | .nilf, cs, _, h | .gptr .., cs, _, h | .wide _, cs, _, h | .word _, cs, _, h => by
    simp only [VC] at h ⊢ <;> exact h
  | .undef, cs, hp, h | .own .., cs, hp, h | .oel .., cs, hp, h | .ptr .., cs, hp, h | .sl .., cs, hp, h | .im _, cs, hp, h | .cell _, cs, hp, h | .words _, cs, hp, h | .ints .., cs, hp, h => by simp [rigid] at hp
  | .agg ps, cs, hp, h => by simp only [VC] at h ⊢; exact VCs_back hb hz ps cs (by simpa [rigid] using hp) h
  | .tup _, cs, _, h => by simp [VC] at h
  | .fn f ps, cs, hp, h => by simp only [VC] at h ⊢; obtain ⟨vs, h0, h1, h2⟩ := h; exact ⟨vs, h0, VVs_back hb hz ps vs (by simpa [rigid] using hp) h1, h2⟩
  | .big _, cs, _, h => by simp only [VC] at h ⊢; obtain ⟨v, h1, h3⟩ := h; exact ⟨v, h1, SlC_big hb hz h3⟩
theorem VCs_back {ρ : Nat → Option Nat} {w : World} {bx : Bx} (hb : BR ρ w bx) (hz : ρ 0 = none) : ∀ (ps : List LV) (cs : List Value), rigids ps = true → VCs none' w ps cs → VCs ρ w ps cs
  | [], cs, _, h => by simp only [VCs] at h ⊢; exact h
  | p :: ps, cs, hp, h => by
    simp only [rigids, Bool.and_eq_true] at hp
    simp only [VCs] at h ⊢
    obtain ⟨c1, c2, h0, h1, h2⟩ := h
    exact ⟨c1, c2, h0, VC_back hb hz p c1 hp.1 h1, VCs_back hb hz ps c2 hp.2 h2⟩
theorem VV_back {ρ : Nat → Option Nat} {w : World} {bx : Bx} (hb : BR ρ w bx) (hz : ρ 0 = none) : ∀ (lv : LV) (v : Value), rigid lv = true → VV none' w lv v → VV ρ w lv v
  | .int .., v, _, h | .lit .., v, _, h | .str .., v, _, h | .slit .., v, _, h | .bool .., v, _, h | .blit .., v, _, h | .nils, v, _, h | .nilf, v, _, h | .gptr .., v, _, h | .wide _, v, _, h | .word _, v, _, h => by
    simp only [VV] at h ⊢ <;> exact h
  | .undef, v, hp, h | .own .., v, hp, h | .oel .., v, hp, h | .ptr .., v, hp, h | .sl .., v, hp, h | .im _, v, hp, h | .cell _, v, hp, h | .words _, v, hp, h | .ints .., v, hp, h => by simp [rigid] at hp
  | .agg ps, v, hp, h => by simp only [VV] at h ⊢; obtain ⟨cs, h0, h1⟩ := h; exact ⟨cs, h0, VCs_back hb hz ps cs (by simpa [rigid] using hp) h1⟩
  | .tup ps, v, hp, h => by simp only [VV] at h ⊢; obtain ⟨vs, h0, h1⟩ := h; exact ⟨vs, h0, VVs_back hb hz ps vs (by simpa [rigid] using hp) h1⟩
  | .fn f ps, v, hp, h => by simp only [VV] at h ⊢; obtain ⟨vs, h0, h1, h2⟩ := h; exact ⟨vs, h0, VVs_back hb hz ps vs (by simpa [rigid] using hp) h1, h2⟩
  | .big _, v, _, h => by simp only [VV] at h ⊢; exact SlC_big hb hz h
theorem VVs_back {ρ : Nat → Option Nat} {w : World} {bx : Bx} (hb : BR ρ w bx) (hz : ρ 0 = none) : ∀ (ps : List LV) (vs : List Value), rigids ps = true → VVs none' w ps vs → VVs ρ w ps vs
  | [], vs, _, h => by simp only [VVs] at h ⊢; exact h
  | p :: ps, vs, hp, h => by
    simp only [rigids, Bool.and_eq_true] at hp
    simp only [VVs] at h ⊢
    obtain ⟨v, vs', h0, h1, h2⟩ := h
    exact ⟨v, vs', h0, VV_back hb hz p v hp.1 h1, VVs_back hb hz ps vs' hp.2 h2⟩
end

mutual
theorem rigid_plain : ∀ (lv : LV), rigid lv = true → plain lv = true
  | .int .., _ | .lit .., _ | .str .., _ | .slit .., _ | .bool .., _ | .blit .., _ | .nils, _ | .nilf, _ | .gptr .., _ | .wide _, _ | .word _, _ | .big _, _ => rfl
  | .undef, hp | .own .., hp | .oel .., hp | .ptr .., hp | .sl .., hp | .im _, hp | .cell _, hp | .words _, hp | .ints .., hp => by simp [rigid] at hp
  | .agg ps, hp | .tup ps, hp | .fn _ ps, hp => by simp only [plain]; exact rigids_plains ps (by simpa [rigid] using hp)
theorem rigids_plains : ∀ (ps : List LV), rigids ps = true → plains ps = true
  | [], _ => rfl
  | p :: ps, h => by
    simp only [rigids, Bool.and_eq_true] at h
    simp only [plains, rigid_plain p h.1, rigids_plains ps h.2, Bool.and_self]
end

theorem noOwn_spec {bx : Bx} : ∀ (n : Nat), noOwn bx n = true → ∀ k, k < n → bx k = none
  | 0, _, k, h => by omega
  | n + 1, hn, k, h => by
    simp only [noOwn, Bool.and_eq_true, Option.isNone_iff_eq_none] at hn
    by_cases e : k = n
    · subst e; exact hn.1
    · exact noOwn_spec n hn.2 k (by omega)
theorem noOwn_none {ρ : Nat → Option Nat} {w : World} {bx : Bx} {next : Nat} (hb : BR ρ w bx) (hz : ρ 0 = none) (hfree : ∀ k, next ≤ k → ρ (k + 1) = none) (h : noOwn bx next = true) : ρ = none' := by
  funext k
  cases k with
  | zero => exact hz
  | succ k =>
  rcases Nat.lt_or_ge k next with hk | hk
  · cases hr : ρ (k + 1) with
    | none => rfl
    | some b =>
      obtain ⟨ty, lv, cs, t, h1, _⟩ := hb.cont k b hr
      rw [noOwn_spec next h k hk] at h1; cases h1
  · exact hfree k hk
theorem bxR_some {bx : Bx} {k : Nat} {c : Ty × LV} (h : bxR bx k = some c) : bx k = some c := by
  unfold bxR at h; split at h
  · cases h
  · exact h

theorem derefP_sound {ρ : Nat → Option Nat} {w : World} {bx0 bx : Bx} (hb : BR ρ w bx0) (hsub : ∀ k c, bxR bx k = some c → bx0 k = some c) {x : LV} {v : Value} (h : VV ρ w x v) (hp : plain (derefP bx x) = true) : VV none' w (derefP bx x) v := by
  unfold derefP at hp ⊢
  split
  · rename_i k off
    simp only [VV] at h
    obtain ⟨b, hk, rfl⟩ := h
    split
    · rename_i ty0 c hbx
      split
      · rename_i hc
        simp only [Bool.and_eq_true] at hc
        obtain ⟨⟨ho, hr⟩, hz⟩ := hc
        have := natEq_true ho; subst this
        obtain ⟨ty, lv, cs, t, e1, ⟨e2, _⟩, e3, e4⟩ := hb.cont k b hk
        rw [hsub _ _ hbx] at e1; cases e1
        have hne : cs ≠ [] := by
          intro h0
          have h1 := VC_size c cs e3
          rw [h0] at h1
          have h2 := (blt_iff _ _).1 hz
          simp only [List.length_nil] at h1
          omega
        simp only [VV]
        exact ⟨cs, VC_none c cs (rigid_plain c hr) e3, b, 0, rfl, fun j => by simp [none'], hne, fun i hi => by simp [World.cell?, e4]⟩
      · simp only [VV]
    · simp only [VV]
  · rename_i hy
    have hd : derefP bx x = x := by
      unfold derefP
      split
      · rename_i k off; exact absurd rfl (hy k off)
      · rfl
    refine VV_none x v ?_ h
    have hp' : plain (derefP bx x) = true := hp
    rw [hd] at hp'
    exact hp'
theorem derefPs_sound {ρ : Nat → Option Nat} {w : World} {bx0 bx : Bx} (hb : BR ρ w bx0) (hsub : ∀ k c, bxR bx k = some c → bx0 k = some c) : ∀ (xs : List LV) (vs : List Value), VVs ρ w xs vs → plains (xs.map (derefP bx)) = true → VVs none' w (xs.map (derefP bx)) vs
  | [], vs, h, _ => by simp only [VVs, List.map_nil] at h ⊢; exact h
  | x :: xs, vs, h, hp => by
    simp only [List.map_cons, plains, Bool.and_eq_true] at hp
    simp only [VVs, List.map_cons] at h ⊢
    obtain ⟨v, vs', rfl, h1, h2⟩ := h
    exact ⟨v, vs', rfl, derefP_sound hb hsub h1 hp.1, derefPs_sound hb hsub xs vs' h2 hp.2⟩
theorem derefP_tame {bx : Bx} {x : LV} (h : tame x = true) : tame (derefP bx x) = true := by
  unfold derefP
  split
  · split
    · split <;> rfl
    · rfl
  · exact h
theorem derefPs_tame {bx : Bx} : ∀ (xs : List LV), tames xs = true → tames (xs.map (derefP bx)) = true
  | [], _ => rfl
  | x :: xs, h => by
    simp only [tames, Bool.and_eq_true] at h
    simp only [List.map_cons, tames, derefP_tame h.1, derefPs_tame xs h.2, Bool.and_self]
theorem OwnC_slc {ρ : Nat → Option Nat} {w : World} {v : Value} {k : EK} {l : List Int} (h : OwnC ρ w v k l) : (∀ n ∈ l, inE k n) ∧ SlC none' w v l.length (l.map k.cell) := by
  obtain ⟨h1, h2, ⟨e, h3⟩, _⟩ := h
  refine ⟨h1, ?_⟩
  have hc := @World.ownsRow.cells _ _ _ _ _ _ _ h3
  rcases h3.2 with ⟨rfl, h0⟩ | ⟨g, cap, cur, rfl, _, hg, hcap, _⟩
  · have : l = [] := List.eq_nil_of_length_eq_zero h0
    subst this
    exact ⟨none, 0, rfl, ⟨by simp, Nat.le_refl _⟩, .inl rfl⟩
  · refine ⟨_, cap, rfl, ⟨h2, hcap⟩, .inr ⟨g, 0, rfl, fun k => by simp [none'], fun i hi => ?_⟩⟩
    obtain ⟨u, hu⟩ : ∃ u, (l.map k.cell)[i]? = some u := ⟨_, List.getElem?_eq_getElem hi⟩
    rw [hu]
    have := hc (g := g) rfl i u hu
    rwa [addr_add] at this
theorem VCs_len1 {ρ : Nat → Option Nat} {w : World} {e : Ty} (h1 : e.size = 1) : ∀ (ps : List LV) (cs : List Value), shapeEl e ps = true → VCs ρ w ps cs → cs.length = ps.length
  | [], cs, _, h => by simp only [VCs] at h; rw [h]; rfl
  | p :: ps, cs, hs, h => by
    simp only [VCs] at h
    obtain ⟨c1, c2, rfl, g1, g2⟩ := h
    simp only [shapeEl, Bool.and_eq_true] at hs
    have := VC_size p c1 g1
    have := shape_size e p hs.1
    have := VCs_len1 h1 ps c2 hs.2 g2
    simp
    omega
theorem VCs_part {ρ : Nat → Option Nat} {w : World} {e : Ty} (h1 : e.size = 1) : ∀ (k n : Nat) (ps : List LV) (cs : List Value), shapeEl e ps = true → VCs ρ w ps cs → VCs ρ w ((ps.drop k).take n) ((cs.drop k).take n)
  | _, _, [], cs, _, h => by simp only [VCs] at h; subst h; simp [VCs]
  | 0, 0, p :: ps, cs, _, _ => by simp [VCs]
  | 0, n + 1, p :: ps, cs, hs, h => by
    simp only [VCs] at h
    obtain ⟨c1, c2, rfl, g1, g2⟩ := h
    simp only [shapeEl, Bool.and_eq_true] at hs
    have e1 := VC_size p c1 g1
    have e2 := shape_size e p hs.1
    match c1, (by omega : c1.length = 1), g1 with
    | [v], _, g1 =>
      have := VCs_part h1 0 n ps c2 hs.2 g2
      simp only [List.drop_zero] at this
      simp only [List.drop_zero, List.take_succ_cons, List.cons_append, List.nil_append, VCs]
      exact ⟨[v], _, rfl, g1, this⟩
  | k + 1, n, p :: ps, cs, hs, h => by
    simp only [VCs] at h
    obtain ⟨c1, c2, rfl, g1, g2⟩ := h
    simp only [shapeEl, Bool.and_eq_true] at hs
    have e1 := VC_size p c1 g1
    have e2 := shape_size e p hs.1
    match c1, (by omega : c1.length = 1), g1 with
    | [v], _, g1 =>
      have := VCs_part h1 k n ps c2 hs.2 g2
      simpa only [List.drop_succ_cons, List.cons_append, List.nil_append] using this
theorem deref_sound {ρ : Nat → Option Nat} {w : World} {bx0 bx : Bx} (hb : BR ρ w bx0) (hsub : ∀ k c, bxR bx k = some c → bx0 k = some c) {x : LV} {v : Value} (h : VV ρ w x v) (hp : plain (deref real bx x) = true) : VV none' w (deref real bx x) v := by
  unfold deref at hp ⊢
  split
  · simp only [VV] at h ⊢
    exact OwnC_slc h
  · rename_i k off n
    simp only [VV] at h
    obtain ⟨b, cap, hk, ⟨hl, hlc⟩, rfl⟩ := h
    split
    · rename_i m e c hbx
      split
      · rename_i ps hc hpar
        simp only [Bool.and_eq_true] at hc
        obtain ⟨⟨ho, hn⟩, hr⟩ := hc
        have := natEq_true ho; subst this
        have := natEq_true hn; subst this
        split
        · rename_i hse
          obtain ⟨ty, lv, cs, t, e1, ⟨e2, _⟩, e3, e4⟩ := hb.cont k b hk
          rw [hsub _ _ hbx] at e1; cases e1
          obtain ⟨hlen, _⟩ := parts_arr hpar e2
          have hcs := parts_VCs hpar (VC_none c cs (rigid_plain c hr) e3)
          simp only [VV]
          exact ⟨cs, hcs, some ⟨b, 0, none⟩, cap, by rw [hlen], by rw [hlen]; exact ⟨hl, hlc⟩, .inr ⟨b, 0, rfl, fun j => by simp [none'], fun i hi => by simp [World.cell?, e4]⟩⟩
        · simp only [VV]
      · rename_i ps hc hpar
        split
        · rename_i hq
          simp only [Bool.and_eq_true] at hq
          obtain ⟨⟨⟨hse, hn⟩, h1⟩, hr⟩ := hq
          have hn := natLe_true hn
          have h1 := natEq_true h1
          obtain ⟨ty, lv, cs, t, e1, ⟨e2, _⟩, e3, e4⟩ := hb.cont k b hk
          rw [hsub _ _ hbx] at e1; cases e1
          obtain ⟨hlen, _⟩ := parts_arr hpar e2
          have hcs := parts_VCs hpar (VC_none c cs (rigid_plain c hr) e3)
          have hl2 : ((ps.drop off).take n).length = n := by rw [List.length_take, List.length_drop]; omega
          simp only [VV]
          refine ⟨(cs.drop off).take n, VCs_part h1 off n ps cs hse hcs, some ⟨b, off, none⟩, cap, by rw [hl2], by rw [hl2]; exact ⟨hl, hlc⟩, .inr ⟨b, off, rfl, fun j => by simp [none'], fun i hi => ?_⟩⟩
          have hcl := VCs_len1 h1 ps cs hse hcs
          rw [List.length_take, List.length_drop] at hi
          have hi : i < n := by omega
          simp [World.cell?, e4, List.getElem?_take, hi]
        · simp only [VV]
      · simp only [VV]
    · simp only [VV]
  · exact derefP_sound hb hsub h hp
  · rename_i f cs
    simp only [VV] at h ⊢
    obtain ⟨vs, h0, h1, rfl⟩ := h
    exact ⟨vs, derefPs_tame cs h0, derefPs_sound hb hsub cs vs h1 (by simpa only [plain] using hp), rfl⟩
  · rename_i ho hx hy hz
    have hd : deref real bx x = x := by
      unfold deref
      split
      · rename_i k l; exact absurd rfl (ho k l)
      · rename_i k off n; exact absurd rfl (hx k off n)
      · rename_i k off; exact absurd rfl (hy k off)
      · rename_i f cs; exact absurd rfl (hz f cs)
      · rfl
    refine VV_none x v ?_ h
    have hp' : plain (deref real bx x) = true := hp
    rw [hd] at hp'
    exact hp'
theorem derefs_sound {ρ : Nat → Option Nat} {w : World} {bx0 bx : Bx} (hb : BR ρ w bx0) (hsub : ∀ k c, bxR bx k = some c → bx0 k = some c) : ∀ (xs : List LV) (vs : List Value), VVs ρ w xs vs → plains (xs.map (deref real bx)) = true → VVs none' w (xs.map (deref real bx)) vs
  | [], vs, h, _ => by simp only [VVs, List.map_nil] at h ⊢; exact h
  | x :: xs, vs, h, hp => by
    simp only [List.map_cons, plains, Bool.and_eq_true] at hp
    simp only [VVs, List.map_cons] at h ⊢
    obtain ⟨v, vs', rfl, h1, h2⟩ := h
    exact ⟨v, vs', rfl, deref_sound hb hsub h1 hp.1, derefs_sound hb hsub xs vs' h2 hp.2⟩

/-- what a specification tells, at a call -/
def SpecY (O : Prim) (dm : Option Bx) (s : Spec) (args : List LV) (bx : Bx) (next : Nat) (r : LV) : Prop :=
  plains (args.map (deref O (dm.getD bx))) = true ∧ (s (args.map (deref O (dm.getD bx)))).Y r ∧ (plain r && (rigid r || (dm.isNone && noOwn bx next)) && flagOk dm ((dm.getD bx) RF) r) = true
theorem specW_Y {O : Prim} {dm : Option Bx} {s : Spec} {args : List LV} {bx : Bx} {next : Nat} {K : LV → Prop} (h : specW O dm s args bx next K) : ∃ r, SpecY O dm s args bx next r ∧ K r := by
  unfold specW at h
  split at h
  · rename_i hp
    obtain ⟨r, hr, hk⟩ := R.wp_Y _ h
    split at hk
    · rename_i hq; exact ⟨r, ⟨hp, hr, hq⟩, hk⟩
    · exact hk.elim
  · exact h.elim
theorem SpecY_draw {O : Prim} {s : Spec} {args : List LV} {b bx bx' : Bx} {next next' : Nat} {r : LV} (h : SpecY O (some b) s args bx next r) : SpecY O (some b) s args bx' next' r := h

/-- without its list -/
def clr (ρ : Nat → Option Nat) : Nat → Option Nat := fun k => match k with | 0 => none | k + 1 => ρ (k + 1)
theorem adv_clr (ρ : Nat → Option Nat) (w : World) : AdvW ρ w (clr ρ) w where
  os := rfl
  tape := rfl
  output := rfl
  size := Nat.le_refl _
  old _ _ _ := rfl
  ext k b h := h
  fresh k b h := by cases k with | zero => cases h | succ k => exact .inl h
theorem BR.clr {ρ : Nat → Option Nat} {w : World} {bx : Bx} (h : BR ρ w bx) : BR (clr ρ) w bx where
  cont k b hk := by
    obtain ⟨ty, lv, cs, t, h1, h2, h3, h4⟩ := h.cont k b hk
    exact ⟨ty, lv, cs, t, h1, h2, VC_adv (adv_clr ρ w) _ _ h3, h4⟩
  inj i j b hi hj := by
    cases i with
    | zero => cases hi
    | succ i => cases j with
      | zero => cases hj
      | succ j => exact h.inj _ _ b hi hj
  row b hb := by cases hb
  flag _ := rfl
mutual
theorem VV_flat {ρ ρ' : Nat → Option Nat} {w w' : World} (lv : LV) (v : Value) (hf : flat lv = true) (h : VV ρ w lv v) : VV ρ' w' lv v := by
  cases lv <;> simp only [flat, Bool.false_eq_true] at hf <;> simp only [VV] at h ⊢ <;> try exact h
  case agg ps =>
    obtain ⟨cs, h0, h1⟩ := h
    exact ⟨cs, h0, VCs_flat ps cs hf h1⟩
end
theorem VVs_flat {ρ ρ' : Nat → Option Nat} {w w' : World} : ∀ (ps : List LV) (vs : List Value), flats ps = true → VVs ρ w ps vs → VVs ρ' w' ps vs
  | [], vs, _, h => by simp only [VVs] at h ⊢; exact h
  | p :: ps, vs, hf, h => by
    simp only [flats, Bool.and_eq_true] at hf
    simp only [VVs] at h ⊢
    obtain ⟨v, vs', h0, h1, h2⟩ := h
    exact ⟨v, vs', h0, VV_flat p v hf.1 h1, VVs_flat ps vs' hf.2 h2⟩
theorem VV_flatV {ρ ρ' : Nat → Option Nat} {w w' : World} {lv : LV} {v : Value} (hf : flatV lv = true) (h : VV ρ w lv v) : VV ρ' w' lv v := by
  unfold flatV at hf
  split at hf
  · simp only [VV] at h ⊢
    obtain ⟨vs, h0, h1⟩ := h
    exact ⟨vs, h0, VVs_flat _ vs hf h1⟩
  · exact VV_flat _ v hf h

theorem SpecY_sound {P : Program} {G : List (Nat × Ty × LV)} {f : FuncId} {dm : Option Bx} {s : Spec} (hs : SpecOk P G f s) {args : List LV} {bx : Bx} {next : Nat} {r : LV} (hY : SpecY real dm s args bx next r) {ρ : Nat → Option Nat} {w : World} {vals : List Value} (hv : VVs ρ w args vals)
    (hb : BR ρ w bx) (hfree : ∀ k, next ≤ k → ρ (k + 1) = none) (hg : GR G ρ w) (hsub : ∀ k c, bxR (dm.getD bx) k = some c → bx k = some c) (hfl : (dm.getD bx) RF = none → ρ 0 = none) :
    Calls P f vals.toArray w fun e w' => ∃ v, e = .returned v ∧ Below w.heap.size w w' ∧ ∃ ρ', VV ρ' w' r v ∧ ((ρ' = ρ) ∨ (dm = none ∧ ρ' = clr ρ ∧ bx RF ≠ none ∧ flatV r = false)) := by
  obtain ⟨h1, h2, h3⟩ := hY
  have hvals : VVs none' w (args.map (deref real (dm.getD bx))) vals := derefs_sound hb hsub args vals hv h1
  refine (hs.2 _ r h2 w vals hvals hg.none).mono fun e w' ⟨v, he, hvv, hbel⟩ => ⟨v, he, hbel, ?_⟩
  simp only [Bool.and_eq_true, Bool.or_eq_true] at h3
  have main : ∀ ρ1, BR ρ1 w bx → (∀ k, next ≤ k → ρ1 (k + 1) = none) → ρ1 0 = none → VV ρ1 w' r v := fun ρ1 hb1 hf1 hz => by
    rcases h3.1.2 with hr | ⟨_, hn⟩
    · exact VV_back (hb1.below hbel) hz r v hr hvv
    · rw [noOwn_none hb1 hz hf1 hn]; exact hvv
  cases hq : (dm.getD bx) RF with
  | none => exact ⟨ρ, main ρ hb hfree (hfl hq), .inl rfl⟩
  | some c =>
    have h4 := h3.2
    rw [hq] at h4
    simp only [flagOk, Bool.or_eq_true] at h4
    cases hfv : flatV r with
    | true => exact ⟨ρ, VV_flatV hfv hvv, .inl rfl⟩
    | false =>
      rw [hfv] at h4
      cases dm with
      | some b => simp at h4
      | none => exact ⟨clr ρ, main _ hb.clr (fun k hk => hfree k hk) rfl, .inr ⟨rfl, rfl, by simp only [Option.getD_none] at hq; rw [hq]; simp, rfl⟩⟩

theorem SlC_sub {ρ ρ' : Nat → Option Nat} {w : World} (hs : ∀ k b, ρ' k = some b → ρ k = some b) {v : Value} {n : Nat} {cs : List Value} (h : SlC ρ w v n cs) : SlC ρ' w v n cs := by
  obtain ⟨a, cap, h1, h2, h3⟩ := h
  exact ⟨a, cap, h1, h2, h3.imp id fun ⟨b, off, g1, g2, g3⟩ => ⟨b, off, g1, fun k hk => g2 k (hs k b hk), g3⟩⟩
theorem CellC_sub {ρ ρ' : Nat → Option Nat} {w : World} (hs : ∀ k b, ρ' k = some b → ρ k = some b) {v : Value} {cs : List Value} (h : CellC ρ w v cs) : CellC ρ' w v cs := by
  obtain ⟨b, off, g1, g2, g3, g4⟩ := h
  exact ⟨b, off, g1, fun k hk => g2 k (hs k b hk), g3, g4⟩
mutual
theorem VC_sub {ρ ρ' : Nat → Option Nat} {w : World} (hs : ∀ k b, ρ' k = some b → ρ k = some b) : ∀ (lv : LV) (cs : List Value), plain lv = true → VC ρ w lv cs → VC ρ' w lv cs
  | .int .., cs, _, h | .lit .., cs, _, h | .str .., cs, _, h | .slit .., cs, _, h | .bool .., cs, _, h | .blit .., cs, _, h | .nils, cs, _, h | .nilf, cs, _, h | .gptr .., cs, _, h | .wide _, cs, _, h | .word _, cs, _, h => by
    simp only [VC] at h ⊢ <;> exact h
  | .undef, cs, hp, h | .own .., cs, hp, h | .oel .., cs, hp, h | .ptr .., cs, hp, h | .sl .., cs, hp, h => by simp [plain] at hp
  | .agg ps, cs, hp, h => by simp only [VC] at h ⊢; exact VCs_sub hs ps cs (by simpa [plain] using hp) h
  | .tup _, cs, _, h => by simp [VC] at h
  | .fn f ps, cs, hp, h => by simp only [VC] at h ⊢; obtain ⟨vs, h0, h1, h2⟩ := h; exact ⟨vs, h0, VVs_sub hs ps vs (by simpa [plain] using hp) h1, h2⟩
  | .im l, cs, hp, h => by simp only [VC] at h ⊢; obtain ⟨v, c, h1, h2, h3⟩ := h; exact ⟨v, c, h1, VCs_sub hs l c (by simpa [plain] using hp) h2, SlC_sub hs h3⟩
  | .cell l, cs, hp, h => by simp only [VC] at h ⊢; obtain ⟨v, c, h1, h2, h3⟩ := h; exact ⟨v, c, h1, VC_sub hs l c (by simpa [plain] using hp) h2, CellC_sub hs h3⟩
  | .big _, cs, _, h => by simp only [VC] at h ⊢; obtain ⟨v, h1, h3⟩ := h; exact ⟨v, h1, SlC_sub hs h3⟩
  | .words _, cs, _, h => by simp only [VC] at h ⊢; obtain ⟨v, h1, h3⟩ := h; exact ⟨v, h1, SlC_sub hs h3⟩
  | .ints .., cs, _, h => by simp only [VC] at h ⊢; obtain ⟨v, h1, h2, h3⟩ := h; exact ⟨v, h1, h2, SlC_sub hs h3⟩
theorem VCs_sub {ρ ρ' : Nat → Option Nat} {w : World} (hs : ∀ k b, ρ' k = some b → ρ k = some b) : ∀ (ps : List LV) (cs : List Value), plains ps = true → VCs ρ w ps cs → VCs ρ' w ps cs
  | [], cs, _, h => by simp only [VCs] at h ⊢; exact h
  | p :: ps, cs, hp, h => by
    simp only [plains, Bool.and_eq_true] at hp
    simp only [VCs] at h ⊢
    obtain ⟨c1, c2, h0, h1, h2⟩ := h
    exact ⟨c1, c2, h0, VC_sub hs p c1 hp.1 h1, VCs_sub hs ps c2 hp.2 h2⟩
theorem VV_sub {ρ ρ' : Nat → Option Nat} {w : World} (hs : ∀ k b, ρ' k = some b → ρ k = some b) : ∀ (lv : LV) (v : Value), plain lv = true → VV ρ w lv v → VV ρ' w lv v
  | .int .., v, _, h | .lit .., v, _, h | .str .., v, _, h | .slit .., v, _, h | .bool .., v, _, h | .blit .., v, _, h | .nils, v, _, h | .nilf, v, _, h | .gptr .., v, _, h | .wide _, v, _, h | .word _, v, _, h => by
    simp only [VV] at h ⊢ <;> exact h
  | .undef, v, hp, h | .own .., v, hp, h | .oel .., v, hp, h | .ptr .., v, hp, h | .sl .., v, hp, h => by simp [plain] at hp
  | .agg ps, v, hp, h => by simp only [VV] at h ⊢; obtain ⟨cs, h0, h1⟩ := h; exact ⟨cs, h0, VCs_sub hs ps cs (by simpa [plain] using hp) h1⟩
  | .tup ps, v, hp, h => by simp only [VV] at h ⊢; obtain ⟨vs, h0, h1⟩ := h; exact ⟨vs, h0, VVs_sub hs ps vs (by simpa [plain] using hp) h1⟩
  | .fn f ps, v, hp, h => by simp only [VV] at h ⊢; obtain ⟨vs, h0, h1, h2⟩ := h; exact ⟨vs, h0, VVs_sub hs ps vs (by simpa [plain] using hp) h1, h2⟩
  | .im l, v, hp, h => by simp only [VV] at h ⊢; obtain ⟨c, h2, h3⟩ := h; exact ⟨c, VCs_sub hs l c (by simpa [plain] using hp) h2, SlC_sub hs h3⟩
  | .cell l, v, hp, h => by simp only [VV] at h ⊢; obtain ⟨c, h2, h3⟩ := h; exact ⟨c, VC_sub hs l c (by simpa [plain] using hp) h2, CellC_sub hs h3⟩
  | .big _, v, _, h => by simp only [VV] at h ⊢; exact SlC_sub hs h
  | .words _, v, _, h => by simp only [VV] at h ⊢; exact SlC_sub hs h
  | .ints .., v, _, h => by simp only [VV] at h ⊢; exact ⟨h.1, SlC_sub hs h.2⟩
theorem VVs_sub {ρ ρ' : Nat → Option Nat} {w : World} (hs : ∀ k b, ρ' k = some b → ρ k = some b) : ∀ (ps : List LV) (vs : List Value), plains ps = true → VVs ρ w ps vs → VVs ρ' w ps vs
  | [], vs, _, h => by simp only [VVs] at h ⊢; exact h
  | p :: ps, vs, hp, h => by
    simp only [plains, Bool.and_eq_true] at hp
    simp only [VVs] at h ⊢
    obtain ⟨v, vs', h0, h1, h2⟩ := h
    exact ⟨v, vs', h0, VV_sub hs p v hp.1 h1, VVs_sub hs ps vs' hp.2 h2⟩
end

/-! ### what a hidden call sees -/
def hidden (bx : Bx) (k : Nat) : Bool := match bx k with
  | some (_, c) => !flat c
  | none => false
def clrH (bx : Bx) (ρ : Nat → Option Nat) : Nat → Option Nat := fun k => match k with
  | 0 => none
  | k + 1 => match hidden bx k with
    | true => none
    | false => ρ (k + 1)
theorem clrH_sub {bx : Bx} {ρ : Nat → Option Nat} : ∀ k b, clrH bx ρ k = some b → ρ k = some b := fun k b h => by
  cases k with
  | zero => cases h
  | succ k =>
    unfold clrH at h
    simp only at h
    split at h
    · cases h
    · exact h
theorem clrH_at {bx : Bx} {ρ : Nat → Option Nat} {k : Nat} (h : hidden bx k = false) : clrH bx ρ (k + 1) = ρ (k + 1) := by
  unfold clrH
  simp only
  rw [h]
theorem clrH_no {bx : Bx} {ρ : Nat → Option Nat} {k : Nat} (h : hidden bx k = true) : clrH bx ρ (k + 1) = none := by
  unfold clrH
  simp only
  rw [h]
theorem hidA_sound {ρ : Nat → Option Nat} {w : World} {bx : Bx} (hb : BR ρ w bx) {x : LV} {v : Value} (h : VV ρ w x v) : VV (clrH bx ρ) w (hidA bx x) v := by
  unfold hidA
  split
  · rename_i k off
    simp only [VV] at h
    obtain ⟨b, hk, rfl⟩ := h
    split
    · rename_i ty0 c hbx
      split
      · rename_i hf
        simp only [VV]
        refine ⟨b, ?_, rfl⟩
        rw [clrH_at (by unfold hidden; rw [hbx]; simp [hf])]
        exact hk
      · rename_i hf
        split
        · rename_i hc
          simp only [Bool.and_eq_true] at hc
          obtain ⟨⟨ho, hr⟩, hz⟩ := hc
          have := natEq_true ho; subst this
          obtain ⟨ty, lv, cs, t, e1, ⟨e2, _⟩, e3, e4⟩ := hb.cont k b hk
          rw [hbx] at e1; cases e1
          have hne : cs ≠ [] := by
            intro h0
            have h1 := VC_size c cs e3
            rw [h0] at h1
            have h2 := (blt_iff _ _).1 hz
            simp only [List.length_nil] at h1
            omega
          simp only [VV]
          refine ⟨cs, VC_sub clrH_sub c cs hr e3, b, 0, rfl, fun j hj => ?_, hne, fun i hi => by simp [World.cell?, e4]⟩
          have hj2 := clrH_sub j b hj
          have := hb.inj _ _ b hj2 hk
          subst this
          rw [clrH_no (by unfold hidden; rw [hbx]; simp [hf])] at hj
          cases hj
        · simp only [VV]
    · simp only [VV]
  · split
    · rename_i hp
      exact VV_sub clrH_sub _ v hp h
    · simp only [VV]
theorem hidAs_sound {ρ : Nat → Option Nat} {w : World} {bx : Bx} (hb : BR ρ w bx) : ∀ (xs : List LV) (vs : List Value), VVs ρ w xs vs → VVs (clrH bx ρ) w (xs.map (hidA bx)) vs
  | [], vs, h => by simp only [List.map_nil, VVs] at h ⊢; exact h
  | x :: xs, vs, h => by
    simp only [List.map_cons, VVs] at h ⊢
    obtain ⟨v, vs', h0, h1, h2⟩ := h
    exact ⟨v, vs', h0, hidA_sound hb h1, hidAs_sound hb xs vs' h2⟩
theorem BR.hide {ρ : Nat → Option Nat} {w : World} {bx : Bx} (hb : BR ρ w bx) : BR (clrH bx ρ) w (hideB bx) where
  cont k b hk := by
    obtain ⟨ty, lv, cs, t, e1, e2, e3, e4⟩ := hb.cont k b (clrH_sub _ b hk)
    have hf : flat lv = true := by
      cases hh : flat lv with
      | true => rfl
      | false => rw [clrH_no (by unfold hidden; rw [e1]; simp [hh])] at hk; cases hk
    exact ⟨ty, lv, cs, t, by unfold hideB; rw [e1]; simp [hf], e2, VC_flat lv cs hf e3, e4⟩
  inj i j b hi hj := hb.inj i j b (clrH_sub _ b hi) (clrH_sub _ b hj)
  row b hb' := by cases hb'
  flag _ := rfl
theorem GR.hide {G : List (Nat × Ty × LV)} {ρ : Nat → Option Nat} {w : World} {bx : Bx} (h : GR G ρ w) : GR G (clrH bx ρ) w where
  cont g ty c hl := by
    obtain ⟨cs, t, fr, h1, h2, h3, h4⟩ := h.cont g ty c hl
    exact ⟨cs, t, fr, h1, VC_flat _ _ h4 h2, h3, h4⟩
  apart g ty c k hl hk := h.apart g ty c k hl (clrH_sub _ g hk)
theorem okM_at {bx bx' : Bx} : ∀ (n : Nat), okM bx bx' n = true → ∀ k, k < n → ∀ ty c, bx k = some (ty, c) → flat c = true → ∃ ty' c', bx' k = some (ty', c') ∧ flat c' = true
  | 0, _, k, hk, _, _, _, _ => by omega
  | n + 1, h, k, hk, ty, c, hc, hf => by
    unfold okM at h
    rw [Bool.and_eq_true] at h
    rcases Nat.lt_or_ge k n with h1 | h1
    · exact okM_at n h.2 k h1 ty c hc hf
    · have : k = n := by omega
      subst this
      have h2 := h.1
      rw [hc] at h2
      simp only [hf] at h2
      split at h2
      · rename_i ty' c' hh
        exact ⟨ty', c', hh, h2⟩
      · cases h2
/-- behind a hidden call: the caller's own list and all that leads anywhere stand as they stood -/
theorem hid_back {G : List (Nat × Ty × LV)} {ρ ρ' : Nat → Option Nat} {w w' : World} {bx bx' : Bx} {next : Nat} (hb : BR ρ w bx) (hfree : ∀ k, next ≤ k → ρ (k + 1) = none) (hg : GR G ρ w) (hrf : next < RF)
    (hb' : BR ρ' w' bx') (ha : AdvW (clrH bx ρ) w ρ' w') (hsame : ∀ k, k < next → ρ' (k + 1) = clrH bx ρ (k + 1)) (hok : okM bx bx' next = true) : Adv ρ w ρ w' ∧ BR ρ w' (mergeB bx bx' next) := by
  have hrow : ∀ b, ρ 0 = some b → w'.heap[b]? = w.heap[b]? := fun b h0 => ha.old b (hb.row b h0) fun k hk => by
    have := hb.inj _ _ b (clrH_sub k b hk) h0
    subst this
    cases hk
  have hadv : Adv ρ w ρ w' := ⟨ha.os, ha.tape, ha.output, ha.size, fun b hlt hn => ha.old b hlt fun k hk => hn k (clrH_sub k b hk), fun _ _ h => h, fun _ _ h => .inl h, rfl, fun b _ h0 => hrow b h0⟩
  refine ⟨hadv, ?_, hb.inj, fun b h0 => Nat.lt_of_lt_of_le (hb.row b h0) ha.size, fun hf => ?_⟩
  · intro k b hk
    have hkn : k < next := by
      rcases Nat.lt_or_ge k next with h | h
      · exact h
      · rw [hfree k h] at hk; cases hk
    obtain ⟨ty, lv, cs, t, e1, e2, e3, e4⟩ := hb.cont k b hk
    have hlt : natLt k next = true := (blt_iff _ _).2 hkn
    cases hf : flat lv with
    | true =>
      have hh : hidden bx k = false := by unfold hidden; rw [e1]; simp [hf]
      obtain ⟨ty', lv', cs', t', f1, f2, f3, f4⟩ := hb'.cont k b (by rw [hsame k hkn, clrH_at hh]; exact hk)
      obtain ⟨ty2, c2, g1, g2⟩ := okM_at next hok k hkn ty lv e1 hf
      rw [f1] at g1; cases g1
      exact ⟨ty', lv', cs', t', by unfold mergeB; rw [hlt]; simp only; rw [e1]; simp only [hf]; exact f1, f2, VC_flat lv' cs' g2 f3, f4⟩
    | false =>
      have hh : hidden bx k = true := by unfold hidden; rw [e1]; simp [hf]
      refine ⟨ty, lv, cs, t, by unfold mergeB; rw [hlt]; simp only; rw [e1]; simp only [hf], e2, VC_adv hadv.weak lv cs e3, ?_⟩
      rw [ha.old b (hb.lt hk) fun j hj => ?_]
      · exact e4
      · have := hb.inj _ _ b (clrH_sub j b hj) hk
        subst this
        rw [clrH_no hh] at hj
        cases hj
  · refine hb.flag ?_
    have hge : natLt RF next = false := by
      cases hh : natLt RF next with
      | false => rfl
      | true => have := (blt_iff _ _).1 hh; omega
    unfold mergeB at hf
    rw [hge] at hf
    exact hf
section
variable {P : Program} {E : Env}

theorem VVs_append {ρ : Nat → Option Nat} {w : World} : ∀ (xs ys : List LV) (us vs : List Value), VVs ρ w xs us → VVs ρ w ys vs → VVs ρ w (xs ++ ys) (us ++ vs)
  | [], ys, us, vs, h1, h2 => by simp only [VVs] at h1; subst h1; simpa using h2
  | x :: xs, ys, us, vs, h1, h2 => by
    simp only [VVs] at h1
    obtain ⟨u, us', rfl, h3, h4⟩ := h1
    simp only [List.cons_append, VVs]
    exact ⟨u, _, rfl, h3, VVs_append xs ys us' vs h4 h2⟩

/-- a call, by what is told of the one that is called -/
theorem callOp_core (hE : EnvFull P E) {call : CallW} {dm : Option Bx} (hc : CallOk P E.globs call) {o : Oper} {f : Operand} {args : Array Operand} {ts : Array TypeId} (ho : o.op = .call { callee := .value f, args := args, argTypes := ts })
    {a : Act} {w : World} {ρ : Nat → Option Nat} {tm : List LV} {ev : Operand → LV} {bx : Bx} {next : Nat} (hev : ∀ x ∈ o.op.operands.toList, VV ρ w (ev x) (a.eval x)) (hb : BR ρ w bx) (hfree : ∀ k, next ≤ k → ρ (k + 1) = none) (hg : GR E.globs ρ w)
    (hsub : ∀ k c, bxR (dm.getD bx) k = some c → bx k = some c) (hfl : (dm.getD bx) RF = none → ρ 0 = none) {K : LV → Bx → Nat → Prop} (hK : callOpW real E call dm tm (ev f) (args.toList.map ev) bx next K) {nx : Act → World → Prop} {Q : Exit → Act → World → Prop}
    (hn : ∀ v w' lv bx' next' ρ', K lv bx' next' → VV ρ' w' lv v → BR ρ' w' bx' → (∀ k, next' ≤ k → ρ' (k + 1) = none) → GR E.globs ρ' w' → next ≤ next' → (∀ k, k < next → ρ' (k + 1) = ρ (k + 1)) →
      (Adv ρ w ρ' w' ∨ (AdvW ρ w ρ' w' ∧ ((tames tm = true ∧ ∃ f' as', call f' as' bx next K) ∨ (dm = none ∧ bx RF ≠ none ∧ flatV lv = false)))) → nx (a.put o.dst v) w') : o.wp P a w nx Q := by
  unfold callOpW at hK
  split at hK
  · exact hK.elim
  · rename_i f' args' hfn
    rw [ho] at hev
    have hf := hev f (by simp [Op.operands, Call.operands])
    have hargs := VVs_map (ρ := ρ) (w := w) (a := a) (ev := ev) args.toList (fun x hx => hev x (by simp [Op.operands, Call.operands]; right; simpa using hx))
    obtain ⟨cs, vs, hev, hvs, he⟩ : ∃ cs vs, a.eval f = .func (.func f') #[] vs ∧ VVs ρ w cs vs.toList ∧ args' = args.toList.map ev ++ cs := by
      unfold fnOf at hfn
      split at hfn
      · rename_i g ps hh
        cases hfn
        rw [hh] at hf
        simp only [VV] at hf
        obtain ⟨vs, _, h1, h2⟩ := hf
        exact ⟨ps, vs.toArray, h2, by simpa using h1, rfl⟩
      · cases hfn
    subst he
    have hvals := VVs_append _ _ _ _ hargs hvs
    have hrun : (execOp a.eval o).run P w = (callFunc f' (args.toList.map a.eval ++ vs.toList).toArray).run P w := by
      unfold execOp
      rw [ho]
      have : Array.map a.eval args ++ vs = (args.toList.map a.eval ++ vs.toList).toArray := by apply Array.ext'; simp
      simp [resolve, Deferred.ofValue, hev, invoke, this]
    unfold Oper.wp
    rw [hrun]
    split at hK
    · rename_i s hl
      obtain ⟨r, hr, hK⟩ := specW_Y hK
      have hs := hE.fns f' _ hl
      rw [hs.1.run]
      simp only [Oper.upon]
      refine (SpecY_sound hs hr hvals hb hfree hg hsub hfl).mono fun e w' ⟨v, he, hbel, ρ', hv, hρ⟩ => ?_
      subst he
      rcases hρ with rfl | ⟨h1, rfl, h2, h3⟩
      · exact hn v w' r bx next ρ' hK hv (hb.below hbel) hfree (hg.adv (Adv.of_below hbel).weak) (Nat.le_refl _) (fun _ _ => rfl) (.inl (.of_below hbel))
      · have ha := (Adv.of_below (ρ := ρ) hbel).weak.trans (adv_clr ρ w')
        exact hn v w' r bx next (clr ρ) hK hv (hb.below hbel).clr hfree (hg.adv ha) (Nat.le_refl _) (fun _ _ => rfl) (.inr ⟨ha, .inr ⟨h1, h2, h3⟩⟩)
    · rename_i s hl
      obtain ⟨r, hr, hK⟩ := R.wp_Y _ hK
      obtain ⟨v, hv1, hv2⟩ := hE.fns f' _ hl _ r hr ρ w _ hvals
      rw [hv1]
      simp only [Oper.upon]
      exact hn v w r bx next ρ hK hv2 hb hfree hg (Nat.le_refl _) (fun _ _ => rfl) (.inl (Adv.refl _ _))
    · rename_i c m res hl
      obtain ⟨fn, h1, h2, _, _, h3⟩ := hE.fns f' _ hl
      have hent : Entered P f' := ⟨fn, c, h1, h2, h3⟩
      rw [hent.run]
      simp only [Oper.upon]
      split at hK
      · rename_i htm
        refine (hc f' _ bx next K hK ρ w _ hvals hb hfree hg).mono fun e w' hp => ?_
        obtain ⟨v, lv, bx', next', ρ', he, g1, g2, g3, g4, g5, g6, g7, g8⟩ := hp
        subst he
        exact hn v w' lv bx' next' ρ' g1 g2 g3 g4 g6 g7 g8 (.inr ⟨g5, .inl ⟨htm, f', _, hK⟩⟩)
      · split at hK
        · split at hK
          · rename_i hrf
            refine (hc f' _ _ next _ hK (clrH bx ρ) w _ (hidAs_sound hb _ _ hvals) hb.hide (fun k hk => by
              cases hh : clrH bx ρ (k + 1) with
              | none => rfl
              | some b =>
                have hh2 := clrH_sub _ b hh
                rw [hfree k hk] at hh2; cases hh2) hg.hide).mono fun e w' hp => ?_
            obtain ⟨v, lv, bx', next', ρ', he, g1, g2, g3, g4, g5, g6, g7, g8⟩ := hp
            subst he
            unfold hidK at g1
            split at g1
            · rename_i hq
              rw [Bool.and_eq_true] at hq
              obtain ⟨q1, q2⟩ := hid_back hb hfree hg ((blt_iff _ _).1 hrf) g3 g5 g8 hq.2
              exact hn v w' lv _ next ρ g1 (VV_flatV hq.1 g2) q2 hfree (hg.adv q1.weak) (Nat.le_refl _) (fun _ _ => rfl) (.inl q1)
            · exact g1.elim
          · exact hK.elim
        · refine (hc f' _ bx next _ hK ρ w _ hvals hb hfree hg).mono fun e w' hp => ?_
          obtain ⟨v, lv, bx', next', ρ', he, g1, g2, g3, g4, g5, g6, g7, g8⟩ := hp
          subst he
          unfold giveK at g1
          split at g1
          · rename_i hrf hfl2
            exact hn v w' lv bx' next' ρ' g1 g2 g3 g4 g6 g7 g8 (.inr ⟨g5, .inr ⟨rfl, by rw [hrf]; simp, hfl2⟩⟩)
          · exact g1.elim
    · exact hK.elim

/-! ## operations on a list of the call's own -/
theorem row_any {w : World} {e e2 : TypeId} {size : Nat} {v : Value} {n : Nat} {xs : List Value} (h : w.ownsRow 0 e size v n xs) (hn : v = .slice none 0 0) : w.ownsRow w.heap.size e2 size v n xs := by
  subst hn
  rcases h.2 with ⟨_, h0⟩ | ⟨g, cap, cur, hv, _⟩
  · subst h0; exact ⟨h.1, .inl ⟨rfl, rfl⟩⟩
  · cases hv
theorem run_append_row {w : World} (t ty e e' : TypeId) (i : TypeInfo) (z : Value) (ht : P.underlying t = some (.slice e)) (hi : P.info? e = some i) (hz : i.zero = some z)
    (hsize : i.size = 1) (hzs : z.cells.size = 1) (hby : i.bytes ≤ 16)
    (v : Value) (n : Nat) (xs : List Value) (hown : w.ownsRow 0 e' 1 v n xs)
    (a : Addr) (m c : Nat) (news : List Value) (hl : news.length = m) (hnews : ∀ j u, news[j]? = some u → w.cell? (a.add j) = some u) (h1 : ∀ u ∈ news, u.oneCell' = true) (hroom : n + m ≤ 1099511627776) :
    ∃ v' w' e'', (Builtin.append_ #[t, t] ty #[v, .slice (some a) m c]).run P w = .ok v' w' ∧ w'.ownsRow 0 e'' 1 v' (n + m) (xs ++ news) ∧ w.grownBy w' v.ownBlock ∧ (v'.ownBlock = v.ownBlock ∨ ∀ b, v'.ownBlock = some b → w.heap.size ≤ b ∧ b < w'.heap.size) := by
  have h63 : n + m ≤ maxLen := by simp only [maxLen]; omega
  have hbytes : (n + m) * i.bytes ≤ 140737488355328 := Nat.le_trans (Nat.mul_le_mul hroom hby) (by decide)
  have zero_of : ∀ {w2 : World} {b2 : Nat} {e2 : TypeId} {v2 : Value} {k : Nat} {l : List Value}, w2.ownsRow b2 e2 1 v2 k l → w2.ownsRow 0 e2 1 v2 k l := fun h => ⟨h.1, h.2.imp id fun ⟨g, cap, cur, r1, _, r3⟩ => ⟨g, cap, cur, r1, Nat.zero_le _, r3⟩⟩
  by_cases hv : v = .slice none 0 0
  · obtain ⟨v', w', hr, h2, h3, _⟩ := run_append_own (P := P) w w.heap.size t ty e i z 1 i.bytes ht hi hz hsize rfl hzs (by omega) v n xs (row_any hown hv) a m c news (by omega) hnews h1 h63 hbytes (Nat.le_refl _)
    exact ⟨v', w', e, hr, zero_of h2, h3, .inr fun b hb => h2.lt b hb⟩
  · rcases hown.2 with ⟨h0, _⟩ | ⟨g, cap, cur, rfl, hbg, hg, hnc, hcm, hcs, htake⟩
    · exact absurd h0 hv
    · have hlen : (xs ++ news).length = n + m := by rw [List.length_append, hown.1, hl]; omega
      by_cases hrm : n + m ≤ cap
      · have hfc := run_firstCells_some (P := P) w i.size m a m c news (by rw [hsize]; omega) hnews
        have hst := run_storeCells_at P g (n * i.size) e' news 0 cur w hg (by rw [hsize]; omega) h1
        simp only [Nat.add_zero] at hst
        have hr : (Builtin.append_ #[t, t] ty #[.slice (some ⟨g, 0, none⟩) n cap, .slice (some a) m c]).run P w =
            .ok (.slice (some ⟨g, 0, none⟩) (n + m) cap) (w.setRow g (cur.toList.take (n * i.size) ++ news ++ cur.toList.drop (n * i.size + news.length)).toArray) := by
          simp [Builtin.append_, run_underlying ht, sizeOf, typeInfo, hi, Builtin.lenOf, hrm, hfc, Addr.add_lit, hst]
        refine ⟨_, _, e', hr, ⟨by omega, .inr ⟨g, cap, _, rfl, hbg, setRow_heap w g cur _ e' _ hg, hrm, hcm, ?_, ?_⟩⟩, ⟨rfl, rfl, rfl, by simp, fun k _ hk => setRow_other w g k _ (fun e => hk (by simp [Value.ownBlock, e]))⟩, .inl rfl⟩
        · rw [hsize]
          simp only [List.size_toArray, List.length_append, List.length_take, List.length_drop, Array.length_toList]
          omega
        · rw [hsize, htake, Nat.mul_one (n + m), ← hlen]
          exact List.take_left
      · have holds : ∀ j u, xs[j]? = some u → w.cell? ((⟨g, 0, none⟩ : Addr).add j) = some u := hown.cells (g := g) rfl
        have hr := run_append_grow (P := P) w t ty e i z ht hi hz ⟨g, 0, none⟩ n cap xs (by rw [hsize]; exact hown.1) holds a m c news (by rw [hsize]; omega) hnews (by omega) (by simp only [maxLen] at h63; omega) (growslice_fits (by omega) hbytes)
        have hge := grownCap_ge w (n + m) cap e
        have hcm2 : grownCap w (n + m) cap e ≤ maxLen := grownCap_le_maxLen w (n + m) cap e h63
        refine ⟨_, _, e, hr, ⟨by omega, .inr ⟨w.heap.size, _, _, rfl, Nat.zero_le _, heap_alloc_new w.drew _, hge, hcm2, ?_, ?_⟩⟩, ⟨rfl, rfl, rfl, by simp, fun k hk _ => heap_alloc_old w.drew _ k hk⟩, .inr fun b hb => ?_⟩
        · simp only [Array.size_append, List.size_toArray, size_zeroCells, hzs, hl]
          have := hown.1
          omega
        · simp only [Array.toList_append, List.append_assoc]
          rw [← List.append_assoc, Nat.mul_one (n + m), ← hlen]
          exact List.take_left
        · simp only [Value.ownBlock, Option.some.injEq] at hb
          subst hb
          exact ⟨Nat.le_refl _, by simp⟩

section
variable {ρ : Nat → Option Nat} {w : World}
theorem asInt_VC {lv : LV} {k : IntKind} {n : Int} {l : Bool} {cs : List Value} (h : asInt lv = some (k, n, l)) (hv : VC ρ w lv cs) : inK k n ∧ cs = [.int k n] := VC_int h hv
theorem allInts_VC {k : EK} : ∀ (ps : List LV) (l : List Int) (cs : List Value), allInts real k ps = some l → VCs ρ w ps cs → cs = l.map k.cell ∧ l.length = ps.length ∧ ∀ n ∈ l, inE k n
  | [], l, cs, h, hv => by
    simp only [allInts, Option.some.injEq] at h; subst h
    simp only [VCs] at hv; subst hv
    simp
  | p :: ps, l, cs, h, hv => by
    unfold allInts at h
    split at h
    · rename_i n l' e hl
      cases h
      simp only [VCs] at hv
      obtain ⟨c1, c2, rfl, h1, h2⟩ := hv
      obtain ⟨i1, rfl⟩ := numE_VC e h1
      obtain ⟨rfl, g2, g3⟩ := allInts_VC ps l' c2 hl h2
      refine ⟨by simp, by simp [g2], fun m hm => ?_⟩
      rcases List.mem_cons.1 hm with rfl | hm
      · exact i1
      · exact g3 m hm
    · cases h
theorem imOf_sl {k : EK} {y : LV} {m : List Int} {v : Value} (h : imOf real k y = some m) (hv : VV ρ w y v) : (∀ n ∈ m, inE k n) ∧ SlC ρ w v m.length (m.map k.cell) := by
  unfold imOf at h
  split at h
  · rename_i p ps
    simp only [VV] at hv
    obtain ⟨cells, hc, hsl⟩ := hv
    obtain ⟨rfl, hlen, hink⟩ := allInts_VC (p :: ps) m cells h hc
    rw [hlen]
    exact ⟨hink, hsl⟩
  · split at h
    · rename_i hk
      cases h
      have := ekEq_eq hk; subst this
      simpa only [VV] using hv
    · cases h
  · cases h
end
theorem run_append_none {w : World} (t ty e e' : TypeId) (i : TypeInfo) (ht : P.underlying t = some (.slice e)) (hi : P.info? e = some i) (v : Value) (n : Nat) (xs : List Value) (hown : w.ownsRow 0 e' 1 v n xs) (a : Option Addr) (c : Nat) :
    (Builtin.append_ #[t, t] ty #[v, .slice a 0 c]).run P w = .ok v w := by
  have hfc : (Builtin.firstCells i.size 0 (.slice a 0 c)).run P w = .ok #[] w := by
    cases a with
    | none => simp [Builtin.firstCells]
    | some a => exact run_firstCells_some (P := P) w i.size 0 a 0 c [] (by simp) (fun j u h => by simp at h)
  rcases hown.2 with ⟨rfl, _⟩ | ⟨g, cap, cur, rfl, _, _, hnc, _⟩
  · simp [Builtin.append_, run_underlying ht, sizeOf, typeInfo, hi, Builtin.lenOf, hfc]
  · have hnc' : n + 0 ≤ cap := hnc
    simp [Builtin.append_, run_underlying ht, sizeOf, typeInfo, hi, Builtin.lenOf, hfc, hnc, storeCells]
section
variable {ρ : Nat → Option Nat} {w : World}

end
theorem ownOf_row {ρ : Nat → Option Nat} {w : World} {k : EK} {x : LV} {l : List Int} {v : Value} (h : ownOf k x = some l) (hv : VV ρ w x v) : OwnC ρ w v k l := by
  unfold ownOf at h
  split at h
  · cases h
    simp only [VV] at hv
    subst hv
    exact ⟨by simp, by simp, ⟨0, by simpa using World.ownsRow_nil w 0 0 1⟩, fun b hb => by simp [Value.ownBlock] at hb⟩
  · split at h
    · rename_i hk
      cases h
      have := ekEq_eq hk; subst this
      simpa only [VV] using hv
    · cases h
  · cases h
/-- its list in another block, or grown -/
def setO (ρ : Nat → Option Nat) (v : Value) : Nat → Option Nat := fun k => match k with | 0 => v.ownBlock | k + 1 => ρ (k + 1)
theorem adv_own {ρ : Nat → Option Nat} {w w' : World} {v v' : Value} (hg : w.grownBy w' v.ownBlock) (ho : ∀ b, v.ownBlock = some b → ρ 0 = some b) (hn : v'.ownBlock = v.ownBlock ∨ ∀ b, v'.ownBlock = some b → w.heap.size ≤ b ∧ b < w'.heap.size) : AdvW ρ w (setO ρ v') w' where
  os := hg.os
  tape := hg.tape
  output := hg.output
  size := hg.size
  old b hb hρ := hg.block b hb fun e => hρ 0 (ho b e.symm)
  ext _ _ h := h
  fresh k b hk := by
    cases k with
    | zero =>
      rcases hn with hn | hn
      · left; exact ho b (by rw [← hn]; exact hk)
      · right; exact (hn b hk).1
    | succ k => exact .inl hk
theorem flagOn_some {bx : Bx} {k : Nat} {c : Ty × LV} (h : bx k = some c) : flagOn bx k = some c := by
  unfold flagOn
  cases hf : bx RF with
  | some d => simpa using h
  | none =>
    simp only
    rw [Bx.set_other _ _ (fun e => by rw [e, hf] at h; cases h)]; exact h
theorem flagOn_on (bx : Bx) : flagOn bx RF ≠ none := by
  unfold flagOn
  cases hf : bx RF with
  | some d => simp [hf]
  | none => simp only; rw [Bx.set_same]; simp
theorem br_own {ρ : Nat → Option Nat} {w w' : World} {bx : Bx} (hb : BR ρ w bx) {v v' : Value} (hg : w.grownBy w' v.ownBlock) (ho : ∀ b, v.ownBlock = some b → ρ 0 = some b) (hn : v'.ownBlock = v.ownBlock ∨ ∀ b, v'.ownBlock = some b → w.heap.size ≤ b ∧ b < w'.heap.size) : BR (setO ρ v') w' (flagOn bx) where
  cont k b hk := by
    have hk : ρ (k + 1) = some b := hk
    obtain ⟨ty, lv, cs, t, h1, h2, h3, h4⟩ := hb.cont k b hk
    exact ⟨ty, lv, cs, t, flagOn_some h1, h2, VC_adv (adv_own hg ho hn) _ _ h3, by rw [hg.block b (hb.lt hk) fun e => hb.apart hk (ho b e.symm)]; exact h4⟩
  inj i j b hi hj := by
    have key : ∀ j, ρ (j + 1) = some b → v'.ownBlock = some b → False := fun j hj hi => by
      rcases hn with hn | hn
      · have := hb.inj 0 (j + 1) b (ho b (by rw [← hn]; exact hi)) hj
        omega
      · have := (hn b hi).1
        have := hb.lt hj
        omega
    cases i with
    | zero => cases j with
      | zero => rfl
      | succ j => exact (key j hj hi).elim
    | succ i => cases j with
      | zero => exact (key i hi hj).elim
      | succ j => exact hb.inj _ _ b hi hj
  row b hr := by
    have hr : v'.ownBlock = some b := hr
    rcases hn with hn | hn
    · exact Nat.lt_of_lt_of_le (hb.row b (ho b (by rw [← hn]; exact hr))) hg.size
    · exact (hn b hr).2
  flag hf := absurd hf (flagOn_on bx)

theorem setToks_len {k : EK} {i x : Int} : ∀ (t : List LV), (setToks real k i x t).length = t.length
  | [] => rfl
  | v :: l => by simp [setToks, setToks_len l]
theorem setToks_nth {k : EK} {i x : Int} : ∀ (t : List LV) (j : Nat), nth (setToks real k i x t) j = setTok real k i x (nth t j)
  | [], j => by simp [setToks, nth, setTok, kill, tame]
  | v :: l, 0 => rfl
  | v :: l, j + 1 => by simp only [setToks, nth]; exact setToks_nth l j

/-- an element of it, written -/
theorem OwnC_set {ρ : Nat → Option Nat} {w w' : World} {v : Value} {k : EK} {l : List Int} (h : OwnC ρ w v k l) {b i : Nat} {x : Int} {cur : Array Value} {e : TypeId} (hx : inE k x) (hr : ρ 0 = some b) (hcur : w.heap[b]? = some (.cells cur e (0, 0)))
    (hw : w'.heap[b]? = some (.cells (cur.setIfInBounds i (k.cell x)) e (0, 0))) : OwnC ρ w' v k (l.set i x) := by
  obtain ⟨h1, h2, ⟨e', h3⟩, h4⟩ := h
  refine ⟨fun n hn => ?_, by simpa using h2, ⟨e', ?_⟩, h4⟩
  · rcases List.mem_or_eq_of_mem_set hn with hn | rfl
    · exact h1 n hn
    · exact hx
  · refine ⟨by simp, ?_⟩
    rcases h3.2 with ⟨hv, h0⟩ | ⟨g, cap, cur', hv, hbg, hg, hcap, hm, hsz, htk⟩
    · exact .inl ⟨hv, by simpa using h0⟩
    · have : ρ 0 = some g := h4 g (by rw [hv]; rfl)
      rw [hr] at this; cases this
      rw [hcur] at hg; cases hg
      refine .inr ⟨b, cap, cur.setIfInBounds i (k.cell x), by simpa using hv, hbg, hw, by simpa using hcap, hm, by simpa using hsz, ?_⟩
      simp only [List.length_set, Array.toList_setIfInBounds, Nat.mul_one] at htk ⊢
      rw [List.take_set, htk, List.map_set]

theorem own_sound (hE : EnvFull P E) {o : Oper} {st : St} {a : Act} {w : World} {ρ : Nat → Option Nat} (hs : StR E.globs ρ st a w) {m : R OwnU} (h : ownR real E o.op (evL st.tmps) = some m) {u : OwnU} (hY : m.Y u) :
    ∃ n w' ρ' v', (execOp a.eval o).run P w = .ok n w' ∧ (n = .value v' ∨ (n = .skip ∧ v' = undef)) ∧ VV ρ' w' u.v v' ∧ TR ρ' w' (u.upd real st.tmps) a.tmps ∧ AdvW ρ w ρ' w' ∧ BR ρ' w' (flagOn st.bx) ∧ ∀ k, ρ' (k + 1) = ρ (k + 1) := by
  have hev : ∀ x, VV ρ w (evL st.tmps x) (a.eval x) := fun x => VV_evL hs.tmps x
  generalize hop : o.op = op at h
  unfold ownR at h
  split at h
  · rename_i args ts
    split at h
    · rename_i t t2 x y hts hargs
      split at h
      · rename_i e0 htk htt
        have := natEq_true htt; subst this
        split at h
        · rename_i k hek
          have := ekOf_ty hek; subst this
          split at h
          · rename_i l ys hl hys
            cases h
            obtain ⟨hroom, hY⟩ := hY
            have hY : OwnU.new k (real.appI l ys) = u := hY
            subst hY
            have hroom : ((l.length + ys.length : Nat) : Int) ≤ 1099511627776 := hroom
            obtain ⟨cs0, hrun⟩ := run_builtin (P := P) (w := w) (a := a) hop
            have hp := VV_pair (ρ := ρ) (w := w) (a := a) (ev := evL st.tmps) (args := args) (fun z _ => hev z) hargs
            obtain ⟨o1, o2, ha1, hx, hy⟩ := hp
            have ht := hE.ok.ty _ _ htk
            simp only [TyRep] at ht
            obtain ⟨_, et, hu, hte⟩ := ht
            obtain ⟨i, z, hi, hsz, hz, hzc, hby⟩ := hte.inf
            have hown := ownOf_row hl hx
            obtain ⟨hink, ad, cap, hv2, _, hsl⟩ := imOf_sl hys hy
            obtain ⟨g1, g2, ⟨e', g3⟩, g4⟩ := hown
            have hzs : z.cells.size = 1 := by
              have : z.cells.toList.length = 1 := by rw [hzc]; cases k <;> rfl
              simpa using this
            have hsz1 : i.size = 1 := by rw [hsz, EK.ty_size]
            have hb16 : i.bytes ≤ 16 := by have := hby k rfl; omega
            obtain ⟨v', w', e'', hr, hrow, hgr, hblk⟩ : ∃ v' w' e'', (Builtin.append_ #[t, t] o.type #[a.eval o1, .slice ad ys.length cap]).run P w = .ok v' w' ∧ w'.ownsRow 0 e'' 1 v' (l.length + ys.length) (l.map k.cell ++ ys.map k.cell) ∧ w.grownBy w' (a.eval o1).ownBlock ∧ (v'.ownBlock = (a.eval o1).ownBlock ∨ ∀ b, v'.ownBlock = some b → w.heap.size ≤ b ∧ b < w'.heap.size) := by
              rcases hsl with hnil | ⟨b, off, rfl, hap, hcell⟩
              · have hy0 : ys = [] := by simpa using hnil
                subst hy0
                refine ⟨a.eval o1, w, e', run_append_none (P := P) t o.type et e' i hu hi _ _ _ g3 ad cap, by simpa using g3, ⟨rfl, rfl, rfl, Nat.le_refl _, fun _ _ _ => rfl⟩, .inl rfl⟩
              · exact run_append_row (P := P) (w := w) t o.type et e' i z hu hi hz hsz1 hzs hb16 _ _ _ g3
                  ⟨b, off, none⟩ ys.length cap (ys.map k.cell) (by simp) (fun j u hj => by
                    rw [addr_add, hcell j (List.getElem?_eq_some_iff.1 hj).1]; exact hj) (fun u hu => by
                    obtain ⟨n, _, rfl⟩ := List.mem_map.1 hu; cases k <;> rfl) (by omega)
            have hadv := adv_own hgr g4 hblk
            refine ⟨.value v', w', setO ρ v', v', ?_, .inl rfl, ?_, ?_, hadv, br_own hs.bx hgr g4 hblk, fun _ => rfl⟩
            · rw [hrun]
              have he : args.map a.eval = #[a.eval o1, a.eval o2] := by rw [ha1]; simp
              have htse : ts = #[t, t] := by apply Array.ext'; simpa using hts
              rw [he, htse, hv2]
              simp only [builtin]
              rw [Sem.run_bind, hr]
              rfl
            · simp only [OwnU.v, VV]
              refine ⟨fun n hn => ?_, ?_, ⟨e'', ?_⟩, fun b hb => hb⟩
              · rcases List.mem_append.1 hn with hn | hn
                · exact g1 n hn
                · exact hink n hn
              · show ((l ++ ys).length : Int) < _
                rw [List.length_append]; omega
              · show w'.ownsRow 0 e'' 1 v' (l ++ ys).length ((l ++ ys).map k.cell)
                rw [List.length_append, List.map_append]
                exact hrow
            · exact hs.tmps.kills hadv
          · cases h
        · cases h
      · cases h
    · cases h
  · rename_i t n c
    split at h
    · rename_i e0 kn i ln kc j lc htk hn hc
      split at h
      rotate_left
      · cases h
      rename_i k hek
      have := ekOf_ty hek; subst this
      cases h
      obtain ⟨hroom, hij, hY⟩ := hY
      have hY : OwnU.new k (real.zerosI i) = u := hY
      subst hY
      subst hij
      have hroom : 0 ≤ i ∧ i ≤ 1099511627776 := hroom
      obtain ⟨_, hvn⟩ := VV_int hn (hev n)
      obtain ⟨_, hvc⟩ := VV_int hc (hev c)
      have ht := hE.ok.ty _ _ htk
      simp only [TyRep] at ht
      obtain ⟨_, et, hu, hte⟩ := ht
      obtain ⟨inf, z, hi, hsz, hz, hzc, hby⟩ := hte.inf
      have hb8 := hby k rfl
      have hsz1 : inf.size = 1 := by rw [hsz, EK.ty_size]
      have hr := run_make (P := P) w t et inf z hu hi hz kn kc i i hroom.1 (Int.le_refl _) (by
        have : (inf.bytes : Int) * i ≤ 8 * i := Int.mul_le_mul_of_nonneg_right (by omega) hroom.1
        omega) (by omega)
      obtain ⟨m, rfl⟩ := Int.eq_ofNat_of_zero_le hroom.1
      simp only [Int.toNat_natCast] at hr
      have hcells : (madeCells z.cells (m * inf.size)).toList = List.replicate m (k.cell 0) := by
        have hz1 : z.cells = #[k.cell 0] := by apply Array.ext'; rw [hzc]; cases k <;> rfl
        rw [hsz1, hz1, Nat.mul_one]
        apply List.ext_getElem
        · simp [madeCells]
        · intro j h1 h2
          simp [madeCells, Nat.mod_one]
      have hgr : w.grownBy (w.alloc (.cells (madeCells z.cells (m * inf.size)) et)) none := World.grownBy_alloc w _ none
      have hno : ∀ b, Value.ownBlock (.slice none 0 0) = some b → ρ 0 = some b := fun b hb => by simp [Value.ownBlock] at hb
      have hblk : (Value.slice (some ⟨w.heap.size, 0, none⟩) m m).ownBlock = Value.ownBlock (.slice none 0 0) ∨ ∀ b, (Value.slice (some ⟨w.heap.size, 0, none⟩) m m).ownBlock = some b → w.heap.size ≤ b ∧ b < (w.alloc (.cells (madeCells z.cells (m * inf.size)) et)).heap.size := .inr fun b hb => by
        simp only [Value.ownBlock, Option.some.injEq] at hb
        subst hb
        exact ⟨Nat.le_refl _, by simp⟩
      have hadv := adv_own (v := .slice none 0 0) hgr hno hblk
      refine ⟨.value (.slice (some ⟨w.heap.size, 0, none⟩) m m), _, setO ρ _, _, ?_, .inl rfl, ?_, hs.tmps.kills hadv, hadv, br_own (v := .slice none 0 0) hs.bx hgr hno hblk, fun _ => rfl⟩
      · simp only [execOp, hop, hvn, hvc]
        rw [Sem.run_bind, hr]
        rfl
      · simp only [OwnU.v, VV]
        have hl : real.zerosI (m : Int) = List.replicate m 0 := by simp [real]
        rw [hl]
        refine ⟨fun n hn => ?_, by simp; omega, ⟨et, by simp, .inr ⟨w.heap.size, m, madeCells z.cells (m * inf.size), by simp, Nat.zero_le _, heap_alloc_new w _, by simp, by simp only [maxLen]; omega, by rw [size_madeCells, hsz1], ?_⟩⟩, fun b hb => hb⟩
        · rw [(List.mem_replicate.1 hn).2]
          exact inE_zero k
        · rw [hcells]; simp
    · cases h
  · rename_i t x y
    split at h
    · rename_i k l i hx
      split at h
      · rename_i e0 htk
        split at h
        rotate_left
        · cases h
        rename_i j n hek hy
        split at h
        · rename_i hkk
          cases h
          have := ekEq_eq hkk; subst this
          have := ekOf_ty hek; subst this
          have hY : OwnU.put k i n = u := hY
          subst hY
          obtain ⟨hin, hvy⟩ := numE_VV hy (hev y)
          have hvx := hev x
          rw [hx] at hvx
          simp only [VV] at hvx
          obtain ⟨s, b, hown, hsb, ⟨hi0, hi1⟩, hvx⟩ := hvx
          have hrb : ρ 0 = some b := hown.2.2.2 b hsb
          obtain ⟨e, g3⟩ := hown.2.2.1
          rcases g3.2 with ⟨_, h0⟩ | ⟨g, cap, cur, hv, _, hg, hcap, _, hsz, _⟩
          · omega
          · have : g = b := by rw [hv] at hsb; simpa [Value.ownBlock] using hsb
            subst this
            have ht := hE.ok.ty _ _ htk
            have hit : i.toNat < cur.size := by omega
            have hst := run_storeVar_at (P := P) (w := w) (v := k.cell n) (off := i.toNat) (cs := cur.toList) (b := g) (et := e) ht (by simpa using hg) (by rw [EK.ty_size, EK.cells]; rfl) (by rw [EK.cells]; simp; omega) (by rw [EK.cells]; simp; cases k <;> rfl)
            have hrow : (cur.toList.take i.toNat ++ (k.cell n).cells.toList ++ cur.toList.drop (i.toNat + (k.cell n).cells.toList.length)).toArray = cur.setIfInBounds i.toNat (k.cell n) := by
              apply Array.ext'
              simp only [EK.cells, Array.toList_setIfInBounds]
              rw [List.set_eq_take_append_cons_drop]
              rw [if_pos (by simpa using hit)]
              simp
            rw [hrow] at hst
            have hadv : AdvW ρ w ρ (w.setRow g (cur.setIfInBounds i.toNat (k.cell n))) := ⟨rfl, rfl, rfl, by simp, fun c _ hc => setRow_other w g c _ (fun e => hc 0 (e ▸ hrb)), fun _ _ h => h, fun _ _ h => .inl h⟩
            have hw' := setRow_heap w g cur (cur.setIfInBounds i.toNat (k.cell n)) e _ hg
            refine ⟨.skip, _, ρ, undef, ?_, .inr ⟨rfl, rfl⟩, by simp only [OwnU.v, VV], ⟨by simp only [OwnU.upd]; rw [setToks_len]; exact hs.tmps.size, fun q => ?_⟩, hadv, ?_, fun _ => rfl⟩
            · simp [execOp, hop, Instr.storeAt, Instr.sureAddr, hvx, hvy, hst]
            · simp only [OwnU.upd]
              rw [setToks_nth]
              have hq := hs.tmps.at_ q
              generalize nth st.tmps q = lv at hq
              unfold setTok
              split
              · split
                · rename_i hkj
                  have := ekEq_eq hkj; subst this
                  simp only [VV] at hq ⊢
                  exact OwnC_set hq hin hrb hg hw'
                · simp only [VV]
              · split
                · rename_i hkj
                  have := ekEq_eq hkj; subst this
                  simp only [VV] at hq ⊢
                  obtain ⟨s2, b2, q1, q2, q3, q4⟩ := hq
                  exact ⟨s2, b2, OwnC_set q1 hin hrb hg hw', q2, by simpa [real] using q3, q4⟩
                · simp only [VV]
              · unfold kill
                split
                · rename_i hk; exact VV_advW hadv _ _ hk hq
                · simp only [VV]
            · exact ⟨fun c b' hc => by
                obtain ⟨ty, lv, cs, t', h1, h2, h3, h4⟩ := hs.bx.cont c b' hc
                exact ⟨ty, lv, cs, t', flagOn_some h1, h2, VC_adv hadv _ _ h3, by rw [setRow_other w g b' _ (fun e => hs.bx.apart hc (e ▸ hrb))]; exact h4⟩,
                hs.bx.inj, fun b' hb' => by simpa using hs.bx.row b' hb', fun hf => absurd hf (flagOn_on _)⟩
        · cases h
      · cases h
    · cases h
  · rename_i t x hi mx
    split at h
    · rename_i k l hx
      split at h
      · rename_i e0 kh hh lit htk hhi
        have hek : ∀ (b : Bool), (match ekOf e0 with | some j => ekEq j k | none => false) = b → b = true → e0 = k.ty := fun b hb0 hbt => by
          subst hbt
          split at hb0
          · rename_i j hj; rw [ekOf_ty hj, ekEq_eq hb0]
          · cases hb0
        split at h
        · rename_i hbk
          have := hek true hbk rfl; subst this
          have hmx : ∃ (c : Unit), (∀ m, mx = some m → ∃ km lm, asInt (evL st.tmps m) = some (km, hh, lm)) ∧ real.toI hh l ∧ OwnU.give k (real.takeI l hh) = u := by
            cases mx with
            | none => cases h; exact ⟨(), fun m hm => (by cases hm), hY.1, hY.2⟩
            | some m =>
              simp only at h
              split at h
              · rename_i km c lm hc
                cases h
                obtain ⟨q1, q2, q3⟩ := hY
                subst q2
                exact ⟨(), fun m' hm' => (by cases hm'; exact ⟨km, lm, hc⟩), q1, q3⟩
              · cases h
          obtain ⟨_, hmx, hin, rfl⟩ := hmx
          obtain ⟨_, h2⟩ := VV_int hhi (hev hi)
          have h1 := hev x
          rw [hx] at h1
          simp only [VV] at h1
          obtain ⟨g1, g2, ⟨e', g3⟩, g4⟩ := h1
          have ht := hE.ok.ty _ _ htk
          simp only [TyRep] at ht
          obtain ⟨_, et, hu, he⟩ := ht
          have he' := he
          have hin : 0 ≤ hh ∧ hh ≤ (l.length : Int) := hin
          obtain ⟨m, rfl⟩ := Int.eq_ofNat_of_zero_le hin.1
          have hml : m ≤ l.length := by omega
          have ht : real.takeI l m = l.take m := by simp [real]
          have hsz := EK.ty_size k
          have hclr := adv_clr ρ w
          obtain ⟨a0, cap, hv, hmc, hsl⟩ : ∃ a0 cap, a.eval x = .slice a0 l.length cap ∧ m ≤ cap ∧ ∀ cap', m ≤ cap' → VV (clr ρ) w (.ints k (real.takeI l m)) (.slice a0 m cap') := by
            rcases g3.2 with ⟨hv, h0⟩ | ⟨g, cap, cur, hv, _, hg, hcap, _, hsz2, htk2⟩
            · have hl0 : l = [] := by simpa using h0
              subst hl0
              have hm0 : m = 0 := by simpa using hml
              subst hm0
              refine ⟨none, 0, by simpa using hv, Nat.le_refl _, fun cap' _ => ?_⟩
              simp only [VV, ht]
              exact ⟨by simp, none, cap', by simp, ⟨by simp, by simp⟩, .inl (by simp)⟩
            · refine ⟨some ⟨g, 0, none⟩, cap, by simpa using hv, by omega, fun cap' hc' => ?_⟩
              simp only [VV, ht]
              refine ⟨fun n hn => g1 n (List.mem_of_mem_take hn), some ⟨g, 0, none⟩, cap', by simp [Nat.min_eq_left hml], ⟨by simp; omega, by simp; omega⟩, .inr ⟨g, 0, rfl, fun q hq => ?_, fun i hi => ?_⟩⟩
              · have h0 : ρ 0 = some g := g4 g (by rw [hv]; rfl)
                cases q with
                | zero => cases hq
                | succ q =>
                  have hq : ρ (q + 1) = some g := hq
                  exact hs.bx.apart hq h0
              · have hi : i < m := by simp at hi; omega
                simp only [Nat.mul_one] at htk2
                have : cur[i]? = (l.map k.cell)[i]? := by
                  rw [← htk2, List.getElem?_take, if_pos (by omega), Array.getElem?_toList]
                simp [World.cell?, hg, this, List.getElem?_take, hi]
          cases mx with
          | none =>
            refine ⟨.value (.slice a0 m cap), w, clr ρ, _, ?_, .inl rfl, hsl cap hmc, hs.tmps.kills hclr, hclr, ⟨fun c b' hc => ?_, hs.bx.clr.inj, hs.bx.clr.row, fun _ => rfl⟩, fun _ => rfl⟩
            · cases a0 <;> simp [execOp, hop, Instr.sliceAt, Instr.slice, run_underlying hu, hv, h2, Instr.sliceBounds, Instr.sliceBound, asIntOf, hmc, run_size he', Addr.add, hsz]
            · obtain ⟨ty, lv, cs, t', h1, h2, h3, h4⟩ := hs.bx.clr.cont c b' hc
              exact ⟨ty, lv, cs, t', flagOn_some h1, h2, h3, h4⟩
          | some mm =>
            obtain ⟨km, lm, hem⟩ := hmx mm rfl
            obtain ⟨_, h3⟩ := VV_int hem (hev mm)
            refine ⟨.value (.slice a0 m m), w, clr ρ, _, ?_, .inl rfl, hsl m (Nat.le_refl _), hs.tmps.kills hclr, hclr, ⟨fun c b' hc => ?_, hs.bx.clr.inj, hs.bx.clr.row, fun _ => rfl⟩, fun _ => rfl⟩
            · cases a0 <;> simp [execOp, hop, Instr.sliceAt, Instr.slice, run_underlying hu, hv, h2, h3, Instr.sliceBounds, Instr.sliceBound, asIntOf, hmc, run_size he', Addr.add, hsz]
            · obtain ⟨ty, lv, cs, t', h1, h2, h3, h4⟩ := hs.bx.clr.cont c b' hc
              exact ⟨ty, lv, cs, t', flagOn_some h1, h2, h3, h4⟩
        · cases h
      · cases h
    · cases h
  · cases h

/-! ## regions without a draw -/
theorem opW_sound (hE : EnvFull P E) {call : CallW} (hc : CallOk P E.globs call) {o : Oper} {i lab : Nat} {st : St} {log : List LogE} {K : St → List LogE → Prop} {a : Act} {w : World} {ρ : Nat → Option Nat}
    (hs : StR E.globs ρ st a w) (hlab : lab < st.next) (hfr : ρ (lab + 1) = none) (hK : opW real E call none o i lab st log K) {nx : Act → World → Prop} {Q : Exit → Act → World → Prop}
    (hn : ∀ st' log' ρ' a' w', K st' log' → StR E.globs ρ' st' a' w' → AdvW ρ w ρ' w' → st.next ≤ st'.next → (∀ k, k ≠ lab → k < st.next → ρ' (k + 1) = ρ (k + 1)) → nx a' w') : o.wp P a w nx Q := by
  unfold opW at hK
  split at hK
  · rename_i f args ts hop
    refine callOp_core (dm := none) (Q := Q) hE hc hop (fun x _ => VV_evL hs.tmps x) hs.bx hs.free hs.gr (fun _ _ h => bxR_some h) hs.bx.flag hK fun v w' lv bx' next' ρ' hk hv hb hf hg hle hsame hd => ?_
    have hadv : AdvW ρ w ρ' w' := hd.elim Adv.weak fun h => h.1
    have ht : TR ρ' w' (keepT st.bx lv st.tmps) a.tmps := by
      rcases hd with ha | ⟨ha, ⟨h1, _⟩ | ⟨_, h2, h3⟩⟩
      · exact (hs.tmps.adv ha).keep _ _
      · exact (hs.tmps.advW h1 ha).keep _ _
      · unfold keepT
        cases hq : st.bx RF with
        | none => exact absurd hq h2
        | some c => simp only [h3]; exact hs.tmps.kills ha
    exact hn _ _ ρ' _ w' hk ⟨ht.put hv, by rw [put_defers]; exact hs.defers, hb, hf, hg⟩ hadv hle (fun k _ hk => hsame k hk)
  · split at hK
    · rename_i m hm
      obtain ⟨u, hu, hK⟩ := R.wp_Y _ hK
      obtain ⟨n, w', ρ', v', h1, h2, h3, h4, h5, h6, h7⟩ := own_sound (P := P) hE hs hm hu
      unfold Oper.wp
      rw [h1]
      have key : nx (a.put o.dst v') w' := hn _ _ ρ' _ w' hK ⟨h4.put h3, by rw [put_defers]; exact hs.defers, h6, fun k hk => by rw [h7 k]; exact hs.free k hk, hs.gr.adv h5⟩ h5 (Nat.le_refl _) (fun k _ _ => h7 k)
      rcases h2 with rfl | ⟨rfl, rfl⟩
      · exact key
      · exact key
    · obtain ⟨r, hr, hK⟩ := R.wp_Y _ hK
      obtain ⟨n, w', ρ', v', h1, h2, h3, h4, h5, h6⟩ := opR_sound (P := P) hE.ok hE.deep hs.gr (fun x _ => VV_evL hs.tmps x) hs.bx (fun _ _ => rfl) hfr hr
      unfold Oper.wp
      rw [h1]
      have key : nx (a.put o.dst v') w' := hn _ _ ρ' _ w' hK ⟨(hs.tmps.adv h4).put h3, by rw [put_defers]; exact hs.defers, h5, fun k hk => by
          rw [h6 k (by intro e; subst e; simp only at hk; omega)]; exact hs.free k hk, hs.gr.adv h4.weak⟩ h4.weak (Nat.le_refl _) (fun k hk _ => h6 k hk)
      rcases h2 with rfl | ⟨rfl, rfl⟩
      · exact key
      · exact key

/-- the operations in the text's order -/
theorem opsW_sound (hE : EnvFull P E) {call : CallW} (hc : CallOk P E.globs call) {ops : Array Oper} {base : Nat} {Q : Exit → Act → World → Prop} :
    ∀ (os : List Oper) (i : Nat) (st : St) (log : List LogE) (K : St → List LogE → Prop) (a : Act) (w : World) (ρ : Nat → Option Nat),
      StR E.globs ρ st a w → base + i + os.length ≤ st.next → (∀ k, base + i ≤ k → ρ (k + 1) = none) ∨ (∀ k, base + i ≤ k → k < base + i + os.length → ρ (k + 1) = none) → opsW real E call none (ops.toList.map (·.dst)) os i base st log K →
      (∀ st' log' ρ' a' w', K st' log' → StR E.globs ρ' st' a' w' → AdvW ρ w ρ' w' → st.next ≤ st'.next → (∀ k, k < base → ρ' (k + 1) = ρ (k + 1)) → Q .normal a' w') → wpList P ops Q os a w
  | [], i, st, log, K, a, w, ρ, hs, _, _, hK, hQ => by
    simp only [opsW] at hK
    exact hQ st log ρ a w hK hs (AdvW.refl _ _) (Nat.le_refl _) (fun _ _ => rfl)
  | o :: os, i, st, log, K, a, w, ρ, hs, hle, hfr, hK, hQ => by
    have hfr : ∀ k, base + i ≤ k → k < base + i + (o :: os).length → ρ (k + 1) = none := hfr.elim (fun h k hk _ => h k hk) id
    simp only [opsW] at hK
    obtain ⟨t', ht, h⟩ := guardW_sound (ops := ops) hs.tmps hK
    have hs' : StR E.globs ρ ⟨t', st.bx, st.next⟩ a w := ⟨ht, hs.defers, hs.bx, hs.free, hs.gr⟩
    unfold wpList
    rcases h with ⟨hw, hK⟩ | ⟨hw, hK⟩
    · rw [if_pos hw]
      refine .inl (opW_sound hE hc hs' (by simp at hle ⊢; omega) (hfr _ (Nat.le_refl _) (by simp)) hK fun st1 log1 ρ1 a1 w1 hK1 hs1 ha1 hle1 hsame => ?_)
      refine opsW_sound hE hc os (i + 1) st1 log1 K a1 w1 ρ1 hs1 (by simp at hle hle1; omega) (.inr fun k hk1 hk2 => ?_) hK1 (fun st2 log2 ρ2 a2 w2 hK2 hs2 ha2 hle2 hlow2 => hQ st2 log2 ρ2 a2 w2 hK2 hs2 (ha1.trans ha2) (Nat.le_trans hle1 hle2) (fun k hk => by rw [hlow2 k hk, hsame k (by omega) (by simp at hle ⊢; omega)]))
      rw [hsame k (by omega) (by simp at hle ⊢; omega)]
      exact hfr k (by omega) (by simp; omega)
    · rw [if_neg (by simp [hw])]
      have hs1 : StR E.globs ρ ⟨putT t' o.dst (.tup []), st.bx, st.next⟩ (a.put o.dst undef) w := ⟨ht.put (VV_noV _ _), by rw [put_defers]; exact hs.defers, hs.bx, hs.free, hs.gr⟩
      exact opsW_sound hE hc os (i + 1) _ log K _ w ρ hs1 (by simp at hle ⊢; omega) (.inr fun k hk1 hk2 => hfr k (by omega) (by simp; omega)) hK hQ
end
end Go.LE
namespace Go.LE
open Go Go.RowKit

/-! ## regions that draw their order -/
/-- what an operation of such a region did, in the text's order -/
structure Ent where
  want : Bool
  r : OR

def Eqv (x y : LV) : Prop := ∀ (ρ : Nat → Option Nat) (w : World) (v : Value), VV ρ w x v ↔ VV ρ w y v
theorem Eqv.refl (x : LV) : Eqv x x := fun _ _ _ => Iff.rfl
theorem Eqv.trans {x y z : LV} (h : Eqv x y) (k : Eqv y z) : Eqv x z := fun ρ w v => (h ρ w v).trans (k ρ w v)

/-- the step: by the operation's own outcome, or by a specification -/
def OpStep (E : Env) (b : Bx) (o : Oper) (T : List LV) (bx : Bx) (lab : Nat) (r : OR) : Prop :=
  ((∀ f args ts, o.op ≠ .call { callee := .value f, args := args, argTypes := ts }) ∧ (opR real E o.op (evL T) bx lab).Y r) ∨
  (∃ f args ts f' as s, o.op = .call { callee := .value f, args := args, argTypes := ts } ∧ fnOf (evL T f) (args.toList.map (evL T)) = some (f', as) ∧ ∃ v, ((look E.fns f' = some (.spec s) ∧ SpecY real (some b) s as Bx.none 0 v) ∨ (look E.fns f' = some (.ext s) ∧ (s as).Y v)) ∧ r = ⟨v, .no, none⟩)

structure EntOk (E : Env) (b : Bx) (dsts : List (Option Nat)) (o : Oper) (T : List LV) (bx : Bx) (lab : Nat) (e : Ent) : Prop where
  none_ : o.guard = none → e.want = true
  some_ : ∀ j wnt, o.guard = some (j, wnt) → ∃ d, dsts[j]? = some (some d) ∧ ((∃ b', isArgB (nth T d) = some b' ∧ e.want = (b' == wnt)) ∨ (isNoV (nth T d) = true ∧ e.want = false))
  yes : e.want = true → OpStep E b o T bx lab e.r
  no : e.want = false → e.r = ⟨.tup [], .no, none⟩

def logIf (o : Oper) (i lab : Nat) (e : Ent) (log : List LogE) : List LogE := match e.want with | true => logOf o i lab e.r log | false => log

def Chain (E : Env) (b : Bx) (dsts : List (Option Nat)) (base : Nat) : List Oper → Nat → St → List LogE → List Ent → St → List LogE → Prop
  | [], _, st, log, es, st', log' => es = [] ∧ st' = st ∧ log' = log
  | o :: os, i, st, log, es, st', log' => ∃ e es' T, es = e :: es' ∧ (∀ t, Eqv (nth T t) (nth st.tmps t)) ∧ T.length = st.tmps.length ∧ EntOk E b dsts o T st.bx (base + i) e ∧
      Chain E b dsts base os (i + 1) ⟨putT T o.dst e.r.v, updB st.bx (base + i) e.r.u, st.next⟩ (logIf o i (base + i) e log) es' st' log'

theorem testW_know {t : List LV} {i : Nat} {K : Bool → List LV → Prop} (hK : testW t (.tmp i) K) :
    ∃ b T, K b T ∧ isArgB (nth T i) = some b ∧ (∀ j, Eqv (nth T j) (nth t j)) ∧ T.length = t.length := by
  have key : ∀ b, nth t i = .bool b → ∀ j, Eqv (nth (setN t i (.blit b)) j) (nth t j) := by
    intro b hb j
    rw [nth_setN]
    split
    · rename_i h; rw [h.1, hb]; intro ρ w v; simp only [VV]
    · exact Eqv.refl _
  have key2 : ∀ b, nth t i = .bool b → isArgB (nth (setN t i (.blit b)) i) = some b := by
    intro b hb
    rw [nth_setN]
    have hlt : i < t.length := by
      rcases Nat.lt_or_ge i t.length with h | h
      · exact h
      · rw [nth_undef t i h] at hb; cases hb
    simp [hlt, isArgB]
  unfold testW at hK
  simp only [nthF_eq, setF_eq] at hK
  split at hK
  · rename_i b hb
    exact ⟨b, t, hK, by rw [hb]; rfl, fun _ => Eqv.refl _, rfl⟩
  · rename_i b hb
    cases b with
    | true => exact ⟨true, _, hK.1.resolve_left (by simp), key2 _ hb, key _ hb, len_setN _ _ _⟩
    | false => exact ⟨false, _, hK.2.resolve_left (by simp), key2 _ hb, key _ hb, len_setN _ _ _⟩
  · exact hK.elim

theorem opsW_chain {E : Env} {b : Bx} {dsts : List (Option Nat)} {base : Nat} : ∀ (os : List Oper) (i : Nat) (st : St) (log : List LogE) (K : St → List LogE → Prop), opsW real E noCall (some b) dsts os i base st log K →
    ∃ es st' log', K st' log' ∧ Chain E b dsts base os i st log es st' log'
  | [], i, st, log, K, h => ⟨[], st, log, h, rfl, rfl, rfl⟩
  | o :: os, i, st, log, K, h => by
    have step : ∀ T, (∀ t, Eqv (nth T t) (nth st.tmps t)) → T.length = st.tmps.length → ∀ (hn : o.guard = none ∨ ∃ j wnt d b', o.guard = some (j, wnt) ∧ dsts[j]? = some (some d) ∧ isArgB (nth T d) = some b' ∧ b' = wnt),
        opW real E noCall (some b) o i (base + i) ⟨T, st.bx, st.next⟩ log (fun st log => opsW real E noCall (some b) dsts os (i + 1) base st log K) → ∃ es st' log', K st' log' ∧ Chain E b dsts base (o :: os) i st log es st' log' := by
      intro T hT hTl hn hw
      have mk : ∀ r, OpStep E b o T st.bx (base + i) r → EntOk E b dsts o T st.bx (base + i) ⟨true, r⟩ := fun r hr => {
        none_ := fun _ => rfl
        some_ := fun j wnt hg => by
          rcases hn with hn | ⟨j', wnt', d, b, h1, h2, h3, h4⟩
          · rw [hn] at hg; cases hg
          · rw [h1] at hg; cases hg
            exact ⟨d, h2, .inl ⟨b, h3, by simp [h4]⟩⟩
        yes := fun _ => hr
        no := fun h => by cases h }
      unfold opW at hw
      split at hw
      · rename_i f args ts hop
        unfold callOpW at hw
        split at hw
        · exact hw.elim
        · rename_i f' as hfn
          split at hw
          · rename_i s hl
            obtain ⟨v, hv, hw⟩ := specW_Y hw
            obtain ⟨es, st', log', h1, h2⟩ := opsW_chain os (i + 1) _ log K hw
            exact ⟨⟨true, ⟨v, .no, none⟩⟩ :: es, st', log', h1, _, es, T, rfl, hT, hTl, mk _ (.inr ⟨f, args, ts, f', as, s, hop, hfn, v, .inl ⟨hl, SpecY_draw hv⟩, rfl⟩), h2⟩
          · rename_i s hl
            obtain ⟨v, hv, hw⟩ := R.wp_Y _ hw
            obtain ⟨es, st', log', h1, h2⟩ := opsW_chain os (i + 1) _ log K hw
            exact ⟨⟨true, ⟨v, .no, none⟩⟩ :: es, st', log', h1, _, es, T, rfl, hT, hTl, mk _ (.inr ⟨f, args, ts, f', as, s, hop, hfn, v, .inr ⟨hl, hv⟩, rfl⟩), h2⟩
          · split at hw
            · exact hw.elim
            · split at hw
              · split at hw
                · exact hw.elim
                · exact hw.elim
              · exact hw.elim
          · exact hw.elim
      · rename_i hnc
        obtain ⟨r, hr, hw⟩ := R.wp_Y _ hw
        obtain ⟨es, st', log', h1, h2⟩ := opsW_chain os (i + 1) _ _ K hw
        exact ⟨⟨true, r⟩ :: es, st', log', h1, _, es, T, rfl, hT, hTl, mk _ (.inl ⟨fun f args ts hh => hnc f args ts hh, hr⟩), h2⟩
    simp only [opsW] at h
    unfold guardW at h
    split at h
    · rename_i hg
      exact step st.tmps (fun _ => Eqv.refl _) rfl (.inl hg) h
    · rename_i j want hg
      split at h
      · rename_i d hd
        split at h
        · rename_i hn
          obtain ⟨es, st', log', h1, h2⟩ := opsW_chain os (i + 1) _ log K h
          refine ⟨⟨false, ⟨.tup [], .no, none⟩⟩ :: es, st', log', h1, _, es, st.tmps, rfl, fun _ => Eqv.refl _, rfl, ?_, h2⟩
          exact {
            none_ := fun hh => by rw [hg] at hh; cases hh
            some_ := fun j' w' hh => by rw [hg] at hh; cases hh; exact ⟨d, hd, .inr ⟨by rw [← nthF_eq]; exact hn, rfl⟩⟩
            yes := fun hh => by cases hh
            no := fun _ => rfl }
        obtain ⟨b, T, h, hb, hT, hTl⟩ := testW_know h
        split at h
        · rename_i he
          exact step T hT hTl (.inr ⟨j, want, d, b, hg, hd, hb, by simpa using he⟩) h
        · rename_i he
          obtain ⟨es, st', log', h1, h2⟩ := opsW_chain os (i + 1) _ log K h
          refine ⟨⟨false, ⟨.tup [], .no, none⟩⟩ :: es, st', log', h1, _, es, T, rfl, hT, hTl, ?_, h2⟩
          exact {
            none_ := fun hh => by rw [hg] at hh; cases hh
            some_ := fun j' w' hh => by rw [hg] at hh; cases hh; exact ⟨d, hd, .inl ⟨b, hb, by simpa using he.symm⟩⟩
            yes := fun hh => by cases hh
            no := fun _ => rfl }
      · exact h.elim

/-- the slots, where the operations of D are done -/
def tmL (n : Nat) (D : Nat → Bool) (t : Nat) : List (Oper × Ent) → Nat → LV → LV
  | [], _, x => x
  | (o, e) :: l, m, x => tmL n D t l (m + 1) (if D m = true ∧ o.dst = some t ∧ t < n then e.r.v else x)
def bxL (base : Nat) (D : Nat → Bool) : List (Oper × Ent) → Nat → Bx → Bx
  | [], _, b => b
  | (_, e) :: l, m, b => bxL base D l (m + 1) (if D m = true then updB b (base + m) e.r.u else b)

theorem tmL_congr {n : Nat} {D D' : Nat → Bool} {t : Nat} : ∀ (l : List (Oper × Ent)) (m : Nat) (x : LV), (∀ j o e, l[j]? = some (o, e) → o.dst = some t → D (m + j) = D' (m + j)) → tmL n D t l m x = tmL n D' t l m x
  | [], _, _, _ => rfl
  | (o, e) :: l, m, x, h => by
    simp only [tmL]
    have h0 : o.dst = some t → D m = D' m := fun hd => by simpa using h 0 o e rfl hd
    have hx : (if D m = true ∧ o.dst = some t ∧ t < n then e.r.v else x) = (if D' m = true ∧ o.dst = some t ∧ t < n then e.r.v else x) := by
      by_cases hd : o.dst = some t
      · rw [h0 hd]
      · simp [hd]
    rw [hx]
    exact tmL_congr l (m + 1) _ fun j o' e' hj hd => by
      have := h (j + 1) o' e' (by simpa using hj) hd
      rwa [show m + (j + 1) = m + 1 + j by omega] at this

def writes (base m : Nat) (u : Upd) (k : Nat) : Prop := match u with | .no => False | .new _ _ => base + m = k | .put k' _ _ => k' = k
theorem updB_other {bx : Bx} {base m k : Nat} {u : Upd} (h : ¬ writes base m u k) : updB bx (base + m) u k = bx k := by
  cases u with
  | no => rfl
  | new ty c => exact Bx.set_other _ _ (fun e => h e.symm)
  | put k' ty c => exact Bx.set_other _ _ (fun e => h e.symm)
theorem updB_congr {bx bx' : Bx} {base m k : Nat} {u : Upd} (h : bx k = bx' k) : updB bx (base + m) u k = updB bx' (base + m) u k := by
  by_cases hw : writes base m u k
  · cases u with
    | no => exact h
    | new ty c => simp only [writes] at hw; subst hw; simp [updB, Bx.set_same]
    | put k' ty c => simp only [writes] at hw; subst hw; simp [updB, Bx.set_same]
  · rw [updB_other hw, updB_other hw, h]
theorem bxL_congr {base : Nat} {D D' : Nat → Bool} {k : Nat} : ∀ (l : List (Oper × Ent)) (m : Nat) (b b' : Bx), b k = b' k → (∀ j o e, l[j]? = some (o, e) → writes base (m + j) e.r.u k → D (m + j) = D' (m + j)) → bxL base D l m b k = bxL base D' l m b' k
  | [], _, _, _, hb, _ => hb
  | (o, e) :: l, m, b, b', hb, h => by
    simp only [bxL]
    refine bxL_congr l (m + 1) _ _ ?_ fun j o' e' hj hd => by
      rw [show m + 1 + j = m + (j + 1) by omega] at hd ⊢
      exact h (j + 1) o' e' (by simpa using hj) hd
    by_cases hw : writes base m e.r.u k
    · have h0 := h 0 o e rfl hw
      rw [Nat.add_zero] at h0
      rw [h0]
      split
      · exact updB_congr hb
      · exact hb
    · have h1 : ∀ (c : Prop) [Decidable c] (x : Bx), (if c then updB x (base + m) e.r.u else x) k = x k := fun c _ x => by split <;> simp [updB_other hw]
      rw [h1, h1, hb]

/-! ### the trace, place by place -/
theorem chain_len {E : Env} {b : Bx} {dsts : List (Option Nat)} {base : Nat} : ∀ (os : List Oper) (i : Nat) (st : St) (log : List LogE) (es : List Ent) (st' : St) (log' : List LogE), Chain E b dsts base os i st log es st' log' → es.length = os.length
  | [], _, _, _, es, _, _, h => by simp only [Chain] at h; rw [h.1]; rfl
  | o :: os, i, st, log, es, st', log', h => by
    simp only [Chain] at h
    obtain ⟨e, es', T, rfl, _, _, _, h⟩ := h
    simp [chain_len os _ _ _ es' st' log' h]

theorem nth_putT {t : List LV} {d : Option Nat} {v : LV} {j : Nat} : nth (putT t d v) j = if d = some j ∧ j < t.length then v else nth t j := by
  cases d with
  | none => simp [putT]
  | some i =>
    simp only [putT, setF_eq, nth_setN, Option.some.injEq]
    by_cases h : j = i
    · subst h; simp
    · have : ¬ i = j := fun e => h e.symm
      simp [h, this]
theorem len_putT {t : List LV} {d : Option Nat} {v : LV} : (putT t d v).length = t.length := by cases d <;> simp [putT, setF_eq, len_setN]

/-- what is so at place j of the region, in the text's order; and at its end -/
theorem chain_at {E : Env} {b : Bx} {dsts : List (Option Nat)} {base : Nat} : ∀ (os : List Oper) (i : Nat) (st : St) (log : List LogE) (es : List Ent) (st' : St) (log' : List LogE), Chain E b dsts base os i st log es st' log' →
    (∀ j o e, (os.zip es)[j]? = some (o, e) → ∃ T bx, EntOk E b dsts o T bx (base + (i + j)) e ∧ (∀ t, Eqv (nth T t) (tmL st.tmps.length (fun m => decide (m < i + j)) t (os.zip es) i (nth st.tmps t))) ∧
      (∀ k, bx k = bxL base (fun m => decide (m < i + j)) (os.zip es) i st.bx k)) ∧
    (∀ t, Eqv (nth st'.tmps t) (tmL st.tmps.length (fun _ => true) t (os.zip es) i (nth st.tmps t))) ∧ (∀ k, st'.bx k = bxL base (fun _ => true) (os.zip es) i st.bx k) ∧ st'.next = st.next ∧ st'.tmps.length = st.tmps.length
  | [], i, st, log, es, st', log', h => by
    simp only [Chain] at h
    obtain ⟨rfl, rfl, _⟩ := h
    exact ⟨fun j o e hj => by simp at hj, fun t => Eqv.refl _, fun k => rfl, rfl, rfl⟩
  | o :: os, i, st, log, es, st', log', h => by
    simp only [Chain] at h
    obtain ⟨e, es', T, rfl, hT, hTl, hok, h⟩ := h
    obtain ⟨h1, h2, h3, h4, h5⟩ := chain_at os (i + 1) _ _ es' st' log' h
    simp only [len_putT, hTl] at h1 h2 h5
    have start : ∀ t, Eqv (nth (putT T o.dst e.r.v) t) (if o.dst = some t ∧ t < st.tmps.length then e.r.v else nth st.tmps t) := by
      intro t
      rw [nth_putT, hTl]
      split
      · exact Eqv.refl _
      · exact hT t
    have tm_eqv : ∀ (D : Nat → Bool) (t : Nat) (l : List (Oper × Ent)) (m n : Nat) (x y : LV), Eqv x y → Eqv (tmL n D t l m x) (tmL n D t l m y) := by
      intro D t l
      induction l with
      | nil => intro m n x y h; exact h
      | cons p l ih =>
        intro m n x y h
        obtain ⟨o', e'⟩ := p
        simp only [tmL]
        refine ih (m + 1) n _ _ ?_
        split
        · exact Eqv.refl _
        · exact h
    refine ⟨?_, ?_, ?_, h4, h5⟩
    · intro j o' e' hj
      cases j with
      | zero =>
        simp only [List.zip_cons_cons, List.getElem?_cons_zero, Option.some.injEq, Prod.mk.injEq] at hj
        obtain ⟨rfl, rfl⟩ := hj
        refine ⟨T, st.bx, hok, fun t => ?_, fun k => ?_⟩
        · refine (hT t).trans ?_
          have : ∀ (l : List (Oper × Ent)) (m : Nat) (x : LV), i ≤ m → tmL st.tmps.length (fun m => decide (m < i + 0)) t l m x = x := by
            intro l
            induction l with
            | nil => intro m x _; rfl
            | cons p l ih =>
              intro m x hm
              obtain ⟨o', e'⟩ := p
              simp only [tmL]
              rw [ih (m + 1) _ (by omega)]
              simp; omega
          rw [this _ _ _ (Nat.le_refl _)]
          exact Eqv.refl _
        · have : ∀ (l : List (Oper × Ent)) (m : Nat) (b : Bx), i ≤ m → bxL base (fun m => decide (m < i + 0)) l m b = b := by
            intro l
            induction l with
            | nil => intro m x _; rfl
            | cons p l ih =>
              intro m x hm
              obtain ⟨o', e'⟩ := p
              simp only [bxL]
              rw [ih (m + 1) _ (by omega)]
              simp; omega
          rw [this _ _ _ (Nat.le_refl _)]
      | succ j =>
        obtain ⟨T', bx', g1, g2, g3⟩ := h1 j o' e' (by simpa using hj)
        refine ⟨T', bx', by rwa [show i + (j + 1) = i + 1 + j by omega], fun t => ?_, fun k => ?_⟩
        · refine (g2 t).trans ?_
          simp only [List.zip_cons_cons, tmL]
          rw [show i + (j + 1) = i + 1 + j by omega]
          refine tm_eqv _ _ _ _ _ _ _ ?_
          have : decide (i < i + 1 + j) = true := by simp; omega
          simp only [this, true_and]
          exact start t
        · rw [g3 k]
          simp only [List.zip_cons_cons, bxL]
          rw [show i + (j + 1) = i + 1 + j by omega]
          have : decide (i < i + 1 + j) = true := by simp; omega
          simp only [this, if_true]
    · intro t
      refine (h2 t).trans ?_
      simp only [List.zip_cons_cons, tmL, true_and]
      exact tm_eqv _ _ _ _ _ _ _ (start t)
    · intro k
      rw [h3 k]
      simp only [List.zip_cons_cons, bxL, if_true]

/-! ### what is looked at ahead -/
def tmpsOf (o : Oper) : List Nat := o.op.operands.toList.filterMap fun | .tmp t => some t | _ => none
def guardTmp (dsts : List (Option Nat)) (o : Oper) : List Nat := match o.guard with
  | some (j, _) => match dsts[j]? with
    | some (some d) => [d]
    | _ => []
  | none => []
def touches (dsts : List (Option Nat)) (oi oj : Oper) : Bool := match oj.dst with
  | some t => mem t (tmpsOf oi) || mem t (guardTmp dsts oi) || (match oi.dst with | some u => natEq u t | none => false)
  | none => false
/-- is place j known to stand ahead of, or behind, place i, where it must be? -/
def pairStat (dsts : List (Option Nat)) (i : Nat) (oi : Oper) (j : Nat) (oj : Oper) : Bool :=
  natEq i j || !touches dsts oi oj || (match natLt j i with | true => mem j (edgesOf oi) | false => mem i (edgesOf oj))
def edgesBack (i : Nat) : List Nat → Bool
  | [] => true
  | e :: l => natLt e i && edgesBack i l
def rowStat (dsts : List (Option Nat)) (i : Nat) (oi : Oper) : Nat → List Oper → Bool
  | _, [] => true
  | j, oj :: l => pairStat dsts i oi j oj && rowStat dsts i oi (j + 1) l
def allStat (dsts : List (Option Nat)) (all : List Oper) : Nat → List Oper → Bool
  | _, [] => true
  | i, oi :: l => edgesBack i (edgesOf oi) && rowStat dsts i oi 0 all && allStat dsts all (i + 1) l
def drawStat (os : List Oper) : Bool := allStat (os.map (·.dst)) os 0 os

theorem mem_iff (n : Nat) : ∀ l : List Nat, mem n l = true ↔ n ∈ l
  | [] => by simp [mem]
  | x :: xs => by
    unfold mem
    split
    · rename_i h; simp [natEq_true h]
    · rename_i h
      have : n ≠ x := fun e => by subst e; simp at h
      rw [mem_iff n xs]; simp [this]
theorem edgesBack_iff {i : Nat} : ∀ l : List Nat, edgesBack i l = true → ∀ e ∈ l, e < i
  | [], _, e, he => by simp at he
  | x :: xs, h, e, he => by
    simp only [edgesBack, Bool.and_eq_true, blt_iff] at h
    rcases List.mem_cons.1 he with rfl | he
    · exact h.1
    · exact edgesBack_iff xs h.2 e he
theorem rowStat_at {dsts : List (Option Nat)} {i : Nat} {oi : Oper} : ∀ (l : List Oper) (j : Nat), rowStat dsts i oi j l = true → ∀ m o, l[m]? = some o → pairStat dsts i oi (j + m) o = true
  | [], _, _, m, o, h => by simp at h
  | x :: l, j, h, m, o, hm => by
    simp only [rowStat, Bool.and_eq_true] at h
    cases m with
    | zero => simp at hm; subst hm; exact h.1
    | succ m =>
      have := rowStat_at l (j + 1) h.2 m o (by simpa using hm)
      rwa [show j + 1 + m = j + (m + 1) by omega] at this
theorem allStat_at {dsts : List (Option Nat)} {all : List Oper} : ∀ (l : List Oper) (i : Nat), allStat dsts all i l = true → ∀ m o, l[m]? = some o → (∀ e ∈ edgesOf o, e < i + m) ∧ ∀ j o', all[j]? = some o' → pairStat dsts (i + m) o j o' = true
  | [], _, _, m, o, h => by simp at h
  | x :: l, i, h, m, o, hm => by
    simp only [allStat, Bool.and_eq_true] at h
    cases m with
    | zero =>
      simp at hm; subst hm
      refine ⟨edgesBack_iff _ h.1.1, fun j o' hj => by have := rowStat_at all 0 h.1.2 j o' hj; rwa [Nat.zero_add] at this⟩
    | succ m =>
      have := allStat_at l (i + 1) h.2 m o (by simpa using hm)
      rwa [show i + 1 + m = i + (m + 1) by omega] at this
/-- what the look tells of two places -/
theorem drawStat_at {os : List Oper} (h : drawStat os = true) {i j : Nat} {oi oj : Oper} (hi : os[i]? = some oi) (hj : os[j]? = some oj) (hne : i ≠ j) {t : Nat} (hd : oj.dst = some t)
    (ht : t ∈ tmpsOf oi ∨ t ∈ guardTmp (os.map (·.dst)) oi ∨ oi.dst = some t) : (j < i → j ∈ edgesOf oi) ∧ (i < j → i ∈ edgesOf oj) := by
  have h1 := (allStat_at os 0 h i oi hi).2 j oj hj
  rw [Nat.zero_add] at h1
  unfold pairStat at h1
  have hb : natEq i j = false := by
    cases hh : natEq i j with
    | true => exact absurd (natEq_true hh) hne
    | false => rfl
  have htt : touches (os.map (·.dst)) oi oj = true := by
    unfold touches
    rw [hd]
    simp only [Bool.or_eq_true, mem_iff]
    rcases ht with h | h | h
    · exact .inl (.inl h)
    · exact .inl (.inr h)
    · right; rw [h]; simp
  rw [hb, htt] at h1
  simp only [Bool.not_true, Bool.or_false, Bool.false_or] at h1
  split at h1
  · rename_i hlt
    have := (blt_iff _ _).1 hlt
    exact ⟨fun _ => (mem_iff _ _).1 h1, fun h => by omega⟩
  · rename_i hlt
    have := (blt_false _ _).1 hlt
    exact ⟨fun h => by omega, fun _ => (mem_iff _ _).1 h1⟩

/-- what the log tells of two places -/
theorem logOk_pair : ∀ (l : List LogE), logOk l = true → ∀ x y, x ∈ l → y ∈ l → x.i ≠ y.i → (x.st = true ∨ y.st = true) → x.lab = y.lab → y.i ∈ x.after ∨ x.i ∈ y.after
  | [], _, x, y, hx, _, _, _, _ => by simp at hx
  | z :: l, h, x, y, hx, hy, hne, hst, hl => by
    simp only [logOk, Bool.and_eq_true] at h
    have hp : ∀ (l : List LogE), pairsOk z l = true → ∀ y ∈ l, pairOk z y = true := by
      intro l
      induction l with
      | nil => intro _ y hy; simp at hy
      | cons u l ih =>
        intro h y hy
        simp only [pairsOk, Bool.and_eq_true] at h
        rcases List.mem_cons.1 hy with rfl | hy
        · exact h.1
        · exact ih h.2 y hy
    have use : ∀ u v : LogE, pairOk u v = true → (u.st = true ∨ v.st = true) → u.lab = v.lab → v.i ∈ u.after ∨ u.i ∈ v.after := by
      intro u v h hs hlab
      unfold pairOk at h
      have : (u.st || v.st) = true := by simpa using hs
      rw [this] at h
      have hb : natEq u.lab v.lab = true := by rw [hlab]; simp
      simp only [hb, Bool.or_eq_true, mem_iff] at h
      exact h
    rcases List.mem_cons.1 hx with rfl | hx'
    · rcases List.mem_cons.1 hy with rfl | hy'
      · exact absurd rfl hne
      · exact use _ _ (hp l h.1 y hy') hst hl
    · rcases List.mem_cons.1 hy with rfl | hy'
      · exact (use _ _ (hp l h.1 x hx') hst.symm hl.symm).symm
      · exact logOk_pair l h.2 x y hx' hy' hne hst hl

/-- the log has an entry of each place that touches a block -/
theorem chain_log {E : Env} {b : Bx} {dsts : List (Option Nat)} {base : Nat} : ∀ (os : List Oper) (i : Nat) (st : St) (log : List LogE) (es : List Ent) (st' : St) (log' : List LogE), Chain E b dsts base os i st log es st' log' →
    (∀ x ∈ log, x ∈ log') ∧ ∀ j o e, (os.zip es)[j]? = some (o, e) → ∀ k, (e.r.rd = some k ∨ writes base (i + j) e.r.u k) → ∃ b, (⟨i + j, edgesOf o, k, b⟩ : LogE) ∈ log' ∧ (writes base (i + j) e.r.u k → b = true)
  | [], i, st, log, es, st', log', h => by
    simp only [Chain] at h
    obtain ⟨rfl, rfl, rfl⟩ := h
    exact ⟨fun x hx => hx, fun j o e hj => by simp at hj⟩
  | o :: os, i, st, log, es, st', log', h => by
    simp only [Chain] at h
    obtain ⟨e, es', T, rfl, hT, hTl, hok, h⟩ := h
    obtain ⟨h1, h2⟩ := chain_log os (i + 1) _ _ es' st' log' h
    refine ⟨fun x hx => h1 x ?_, ?_⟩
    · unfold logIf
      split
      · unfold logOf
        split <;> first | (simp [hx]; done) | (split <;> simp [hx])
      · exact hx
    · intro j o' e' hj k hk
      cases j with
      | succ j =>
        have := h2 j o' e' (by simpa using hj) k
        rw [show i + 1 + j = i + (j + 1) by omega] at this
        exact this hk
      | zero =>
        simp only [List.zip_cons_cons, List.getElem?_cons_zero, Option.some.injEq, Prod.mk.injEq] at hj
        obtain ⟨rfl, rfl⟩ := hj
        rw [Nat.add_zero] at hk ⊢
        have hw : e.want = true := by
          cases hh : e.want with
          | true => rfl
          | false =>
            have := hok.no hh
            rw [this] at hk
            simp [writes] at hk
        unfold logIf at h1
        rw [hw] at h1
        simp only at h1
        unfold logOf at h1
        cases hu : e.r.u with
        | no =>
          rw [hu] at hk
          simp only [writes, or_false] at hk
          rw [hu, hk] at h1
          exact ⟨false, h1 _ (by simp), fun hh => by simp [writes] at hh⟩
        | new ty c =>
          rw [hu] at hk h1
          simp only [writes] at hk ⊢
          cases hr : e.r.rd with
          | none =>
            rw [hr] at hk h1
            have hk : base + i = k := by simpa using hk
            subst hk
            exact ⟨true, h1 _ (by simp), fun _ => rfl⟩
          | some k' =>
            rw [hr] at hk h1
            by_cases hkk : base + i = k
            · subst hkk
              exact ⟨true, h1 _ (by simp), fun _ => rfl⟩
            · have hk : k' = k := by simpa [hkk] using hk
              subst hk
              exact ⟨false, h1 _ (by simp), fun hh => absurd hh hkk⟩
        | put k0 ty c =>
          rw [hu] at hk h1
          simp only [writes] at hk ⊢
          cases hr : e.r.rd with
          | none =>
            rw [hr] at hk h1
            have hk : k0 = k := by simpa using hk
            subst hk
            exact ⟨true, h1 _ (by simp), fun _ => rfl⟩
          | some k' =>
            rw [hr] at hk h1
            by_cases hkk : k0 = k
            · subst hkk
              refine ⟨true, h1 _ ?_, fun _ => rfl⟩
              dsimp only
              split <;> simp
            · have hk : k' = k := by simpa [hkk] using hk
              subst hk
              have hb : natEq k' k0 = false := by
                cases hh : natEq k' k0 with
                | true => exact absurd (natEq_true hh).symm hkk
                | false => rfl
              exact ⟨false, h1 _ (by dsimp only; rw [hb]; simp), fun hh => absurd hh hkk⟩
end Go.LE
namespace Go.LE
open Go Go.RowKit

theorem R.Y_wp {α : Type} {K : α → Prop} : ∀ (r : R α) (a : α), r.Y a → K a → r.wp K
  | .ok b, a, h, k => by simp only [R.Y] at h; subst h; exact k
  | .fail, a, h, k => h.elim
  | .req p r, a, h, k => ⟨h.1, R.Y_wp r a h.2 k⟩
  | .br true x y, a, h, k => ⟨.inr (R.Y_wp x a h k), .inl rfl⟩
  | .br false x y, a, h, k => ⟨.inl rfl, .inr (R.Y_wp y a h k)⟩

theorem specW_of {O : Prim} {dm : Option Bx} {s : Spec} {args : List LV} {bx : Bx} {next : Nat} {K : LV → Prop} {r : LV} (h : SpecY O dm s args bx next r) (k : K r) : specW O dm s args bx next K := by
  obtain ⟨h1, h2, h3⟩ := h
  unfold specW
  rw [h1]
  exact R.Y_wp _ r h2 (by rw [h3]; exact k)

theorem tmL_set {n : Nat} {D : Nat → Bool} {t i : Nat} (hD : D i = false) : ∀ (l : List (Oper × Ent)) (m : Nat) (x : LV) (o : Oper) (e : Ent), m ≤ i → l[i - m]? = some (o, e) →
    (o.dst = some t → ∀ j o' e', i < m + j → l[j]? = some (o', e') → o'.dst = some t → D (m + j) = false) →
    tmL n (fun m => D m || natEq m i) t l m x = if o.dst = some t ∧ t < n then e.r.v else tmL n D t l m x
  | [], m, x, o, e, hm, h, _ => by simp at h
  | (o', e') :: l, m, x, o, e, hm, h, hlast => by
    simp only [tmL]
    rcases Nat.lt_or_ge m i with hlt | hge
    · have hb : natEq m i = false := by
        cases hh : natEq m i with
        | true => have := natEq_true hh; omega
        | false => rfl
      simp only [hb, Bool.or_false]
      refine tmL_set hD l (m + 1) _ o e hlt (by rw [show i - m = (i - (m + 1)) + 1 by omega] at h; simpa using h) fun hd j o'' e'' hj hl hd' => ?_
      rw [show m + 1 + j = m + (j + 1) by omega]
      exact hlast hd (j + 1) o'' e'' (by omega) (by simpa using hl) hd'
    · have : m = i := by omega
      subst this
      rw [Nat.sub_self] at h
      simp only [List.getElem?_cons_zero, Option.some.injEq, Prod.mk.injEq] at h
      obtain ⟨rfl, rfl⟩ := h
      have rest : ∀ (y : LV), tmL n (fun k => D k || natEq k m) t l (m + 1) y = tmL n D t l (m + 1) y := fun y =>
        tmL_congr l (m + 1) y fun j o'' e'' hj hd => by
          have hb : natEq (m + 1 + j) m = false := by
            cases hh : natEq (m + 1 + j) m with
            | true => have := natEq_true hh; omega
            | false => rfl
          simp only [hb, Bool.or_false]
      rw [rest]
      have hb : natEq m m = true := by simp
      simp only [hb, Bool.or_true, true_and, hD, Bool.false_eq_true, false_and, if_false]
      by_cases hd : o'.dst = some t ∧ t < n
      · rw [if_pos hd, if_pos hd]
        have key : ∀ (l : List (Oper × Ent)) (k : Nat) (y : LV), (∀ j o'' e'', l[j]? = some (o'', e'') → o''.dst = some t → D (k + j) = false) → tmL n D t l k y = y := by
          intro l
          induction l with
          | nil => intro k y _; rfl
          | cons p l ih =>
            intro k y hy
            obtain ⟨op, ep⟩ := p
            simp only [tmL]
            have : ¬ (D k = true ∧ op.dst = some t ∧ t < n) := fun h => by
              have := hy 0 op ep rfl h.2.1
              rw [Nat.add_zero, h.1] at this; cases this
            rw [if_neg this]
            exact ih (k + 1) y fun j o'' e'' hj hdd => by
              rw [show k + 1 + j = k + (j + 1) by omega]
              exact hy (j + 1) o'' e'' (by simpa using hj) hdd
        exact key l (m + 1) _ fun j o'' e'' hj hdd => by
          rw [show m + 1 + j = m + (j + 1) by omega]
          exact hlast hd.1 (j + 1) o'' e'' (by omega) (by simpa using hj) hdd
      · rw [if_neg hd, if_neg hd]

theorem bxL_set {base : Nat} {D : Nat → Bool} {k i : Nat} (hD : D i = false) : ∀ (l : List (Oper × Ent)) (m : Nat) (b : Bx) (o : Oper) (e : Ent), m ≤ i → l[i - m]? = some (o, e) →
    (writes base i e.r.u k → ∀ j o' e', i < m + j → l[j]? = some (o', e') → writes base (m + j) e'.r.u k → D (m + j) = false) →
    bxL base (fun m => D m || natEq m i) l m b k = updB (bxL base D l m b) (base + i) e.r.u k
  | [], m, b, o, e, hm, h, _ => by simp at h
  | (o', e') :: l, m, b, o, e, hm, h, hlast => by
    simp only [bxL]
    rcases Nat.lt_or_ge m i with hlt | hge
    · have hb : natEq m i = false := by
        cases hh : natEq m i with
        | true => have := natEq_true hh; omega
        | false => rfl
      simp only [hb, Bool.or_false]
      refine bxL_set hD l (m + 1) _ o e hlt (by rw [show i - m = (i - (m + 1)) + 1 by omega] at h; simpa using h) fun hd j o'' e'' hj hl hd' => ?_
      rw [show m + 1 + j = m + (j + 1) by omega] at hd' ⊢
      exact hlast hd (j + 1) o'' e'' (by omega) (by simpa using hl) hd'
    · have : m = i := by omega
      subst this
      rw [Nat.sub_self] at h
      simp only [List.getElem?_cons_zero, Option.some.injEq, Prod.mk.injEq] at h
      obtain ⟨rfl, rfl⟩ := h
      have hb : natEq m m = true := by simp
      simp only [hb, Bool.or_true, if_true, hD, Bool.false_eq_true, if_false]
      have rest : ∀ (y : Bx), bxL base (fun k => D k || natEq k m) l (m + 1) y k = bxL base D l (m + 1) y k := fun y =>
        bxL_congr l (m + 1) y y rfl fun j o'' e'' hj hd => by
          have hb : natEq (m + 1 + j) m = false := by
            cases hh : natEq (m + 1 + j) m with
            | true => have := natEq_true hh; omega
            | false => rfl
          simp only [hb, Bool.or_false]
      rw [rest]
      by_cases hw : writes base m e'.r.u k
      · have key : ∀ (l : List (Oper × Ent)) (q : Nat) (y : Bx), (∀ j o'' e'', l[j]? = some (o'', e'') → writes base (q + j) e''.r.u k → D (q + j) = false) → bxL base D l q y k = y k := by
          intro l
          induction l with
          | nil => intro q y _; rfl
          | cons p l ih =>
            intro q y hy
            obtain ⟨op, ep⟩ := p
            simp only [bxL]
            rw [ih (q + 1) _ fun j o'' e'' hj hdd => by
              rw [show q + 1 + j = q + (j + 1) by omega] at hdd ⊢
              exact hy (j + 1) o'' e'' (by simpa using hj) hdd]
            by_cases hwq : writes base q ep.r.u k
            · have := hy 0 op ep rfl hwq
              rw [Nat.add_zero] at this
              rw [if_neg (by rw [this]; simp)]
            · split
              · exact updB_other hwq
              · rfl
        rw [key l (m + 1) _ fun j o'' e'' hj hdd => by
          rw [show m + 1 + j = m + (j + 1) by omega] at hdd ⊢
          exact hlast hw (j + 1) o'' e'' (by omega) (by simpa using hj) hdd]
        unfold writes at hw
        cases hu : e'.r.u with
        | no => rw [hu] at hw; exact hw.elim
        | new ty c => rw [hu] at hw; simp only at hw; subst hw; simp [updB, Bx.set_same]
        | put k' ty c => rw [hu] at hw; simp only at hw; subst hw; simp [updB, Bx.set_same]
      · rw [updB_other hw]
        exact bxL_congr l (m + 1) _ _ (updB_other hw) fun _ _ _ _ _ => rfl

section
variable {P : Program} {E : Env}

/-- what is so while the region is under way -/
structure JR (E : Env) (os : List Oper) (L : List (Oper × Ent)) (base : Nat) (st : St) (ρ0 : Nat → Option Nat) (w0 : World) (D : Nat → Bool) (ρ : Nat → Option Nat) (a : Act) (w : World) : Prop where
  size : a.tmps.size = st.tmps.length
  tmps : ∀ t, VV ρ w (tmL st.tmps.length D t L 0 (nth st.tmps t)) (a.tmps.getD t undef)
  defers : a.defers = []
  bx : BR ρ w (bxL base D L 0 st.bx)
  free : ∀ k, base + os.length ≤ k → ρ (k + 1) = none
  undone : ∀ j, j < os.length → D j = false → ρ (base + j + 1) = none
  adv : Adv ρ0 w0 ρ w
  low : ∀ k, k < base → ρ (k + 1) = ρ0 (k + 1)
  gr : GR E.globs ρ w
  closed : ∀ i o, D i = true → os[i]? = some o → ∀ e ∈ edgesOf o, D e = true

theorem listed_set (listed : Array Bool) (i : Nat) (hi : i < listed.size) (m : Nat) : (listed.setIfInBounds i true).getD m false = (listed.getD m false || natEq m i) := by
  simp only [Array.getD_eq_getD_getElem?, Array.getElem?_setIfInBounds]
  by_cases h : i = m
  · subst h; simp [hi]
  · have : natEq m i = false := by
      cases hh : natEq m i with
      | true => exact absurd (natEq_true hh).symm h
      | false => rfl
    simp [h, this]
theorem count_set (l : List Bool) : ∀ (i : Nat), l[i]? = some false → (l.set i true).count false + 1 = l.count false := by
  induction l with
  | nil => intro i h; simp at h
  | cons b l ih =>
    intro i h
    cases i with
    | zero => simp at h; subst h; simp
    | succ i =>
      have := ih i (by simpa using h)
      rw [List.set_cons_succ, List.count_cons, List.count_cons]
      omega
theorem put_size (a : Act) (d : Option Nat) (v : Value) : (a.put d v).tmps.size = a.tmps.size := by cases d <;> simp [Act.put]
theorem put_getD (a : Act) (d : Option Nat) (v : Value) (t : Nat) : (a.put d v).tmps.getD t undef = if d = some t ∧ t < a.tmps.size then v else a.tmps.getD t undef := by
  cases d with
  | none => simp [Act.put]
  | some i =>
    simp only [Act.put, Array.getD_eq_getD_getElem?, Array.getElem?_setIfInBounds, Option.some.injEq]
    by_cases h : i = t
    · subst h
      by_cases h2 : i < a.tmps.size
      · simp [h2]
      · simp [h2]
    · simp [h]

theorem JR.step (hE : EnvFull P E) {ops : Array Oper} {os : List Oper} (hpre : ∀ (i : Nat) (o : Oper), os[i]? = some o → ops[i]? = some o) {base : Nat} {st : St} {es : List Ent} {st' : St} {log' : List LogE} {b : Bx} (hbs : ∀ D k c, bxR b k = some c → bxL base D (os.zip es) 0 st.bx k = some c) (hch : Chain E b (os.map (·.dst)) base os 0 st [] es st' log') (hlog : logOk log' = true) (hstat : drawStat os = true)
    (hnext : base + os.length ≤ st.next)
    {ρ0 : Nat → Option Nat} {w0 : World} (hz0 : b RF = none → ρ0 0 = none) {D : Nat → Bool} {ρ : Nat → Option Nat} {a : Act} {w : World} (hJ : JR E os (os.zip es) base st ρ0 w0 D ρ a w) {i : Nat} {o : Oper} (hio : os[i]? = some o) (hDi : D i = false) (hedge : ∀ e ∈ edgesOf o, D e = true)
    {Q : Exit → Act → World → Prop} {K : Act → World → Prop} (hK : ∀ ρ' a' w', JR E os (os.zip es) base st ρ0 w0 (fun m => D m || natEq m i) ρ' a' w' → K a' w') : wpOp P ops Q i K a w := by
  have hi : ops[i]? = some o := hpre i o hio
  have hlt : i < os.length := (List.getElem?_eq_some_iff.1 hio).1
  have hel : es.length = os.length := chain_len _ _ _ _ _ _ _ hch
  obtain ⟨e, hie⟩ : ∃ e, es[i]? = some e := ⟨es[i]'(by omega), by rw [List.getElem?_eq_getElem]⟩
  have hL : (os.zip es)[i]? = some (o, e) := by rw [List.getElem?_zip_eq_some]; exact ⟨hio, hie⟩
  have ofL : ∀ j oj ej, (os.zip es)[j]? = some (oj, ej) → os[j]? = some oj := fun j oj ej h => (List.getElem?_zip_eq_some.1 h).1
  obtain ⟨hat, _, _, _, _⟩ := chain_at _ _ _ _ _ _ _ hch
  obtain ⟨_, hlg⟩ := chain_log _ _ _ _ _ _ _ hch
  obtain ⟨T, bx', hent, hT, hbx⟩ := hat i o e hL
  rw [Nat.zero_add] at hent
  simp only [Nat.zero_add] at hT hbx hlg
  -- where the places stand
  have before : ∀ j oj, os[j]? = some oj → (j < i → j ∈ edgesOf o) → (i < j → i ∈ edgesOf oj) → decide (j < i) = D j := by
    intro j oj hj h1 h2
    rcases Nat.lt_trichotomy j i with h | h | h
    · rw [hedge j (h1 h)]; simpa using h
    · subst h; rw [hDi]; simp
    · cases hd : D j with
      | false => simp; omega
      | true =>
        have := hJ.closed j oj hd hj i (h2 h)
        rw [this] at hDi; cases hDi
  have slot : ∀ t, (t ∈ tmpsOf o ∨ t ∈ guardTmp (os.map (·.dst)) o) → VV ρ w (nth T t) (a.tmps.getD t undef) := by
    intro t ht
    rw [hT t ρ w]
    rw [tmL_congr (D' := D) _ 0 _ fun j oj ej hj hd => by
      rw [Nat.zero_add]
      have hjo := ofL j oj ej hj
      by_cases hne : i = j
      · subst hne; rw [hDi]; simp
      · have := drawStat_at hstat hio hjo hne hd (ht.imp id .inl)
        exact before j oj hjo this.1 this.2]
    exact hJ.tmps t
  have pair : ∀ j oj ej k, (os.zip es)[j]? = some (oj, ej) → i ≠ j → (e.r.rd = some k ∨ writes base i e.r.u k) → writes base j ej.r.u k → (j < i → j ∈ edgesOf o) ∧ (i < j → i ∈ edgesOf oj) := by
    intro j oj ej k hj hne hk hw
    obtain ⟨b1, h1, _⟩ := hlg i o e hL k hk
    obtain ⟨b2, h2, h3⟩ := hlg j oj ej hj k (.inr hw)
    have hjo := ofL j oj ej hj
    have hp := logOk_pair log' hlog _ _ h1 h2 hne (.inr (h3 hw)) rfl
    have e1 := (allStat_at os 0 hstat i o hio).1
    have e2 := (allStat_at os 0 hstat j oj hjo).1
    rw [Nat.zero_add] at e1 e2
    exact ⟨fun h => hp.resolve_right fun hh => by have := e2 i hh; omega, fun h => hp.resolve_left fun hh => by have := e1 j hh; omega⟩
  -- what is so behind it
  have done : ∀ ρ' w' v', VV ρ' w' e.r.v v' → Adv ρ w ρ' w' → BR ρ' w' (updB (bxL base D (os.zip es) 0 st.bx) (base + i) e.r.u) → (∀ k, k ≠ base + i → ρ' (k + 1) = ρ (k + 1)) → K (a.put o.dst v') w' := by
    intro ρ' w' v' hv ha hb hsame
    refine hK ρ' _ w' {
      size := by rw [put_size]; exact hJ.size
      tmps := fun t => ?_
      defers := by rw [put_defers]; exact hJ.defers
      bx := ?_
      free := fun k hk => by rw [hsame k (by omega)]; exact hJ.free k hk
      undone := fun j hj hd => by
        have hne : j ≠ i := fun hh => by subst hh; simp at hd
        have hd' : D j = false := by simp at hd; exact hd.1
        rw [hsame _ (by omega)]; exact hJ.undone j hj hd'
      adv := hJ.adv.trans ha
      low := fun k hk => by rw [hsame k (by omega)]; exact hJ.low k hk
      gr := hJ.gr.adv ha.weak
      closed := fun j oj hd hj e' he' => by
        by_cases hji : j = i
        · subst hji
          rw [hio] at hj; cases hj
          rw [hedge e' he']; rfl
        · have : D j = true := by
            simp only [Bool.or_eq_true] at hd
            exact hd.resolve_right fun hh => hji (natEq_true hh)
          rw [hJ.closed j oj this hj e' he']; rfl }
    · rw [tmL_set hDi _ 0 _ o e (Nat.zero_le _) (by rw [Nat.sub_zero]; exact hL) fun hd j oj ej hlt' hj hdj => by
        rw [Nat.zero_add] at hlt' ⊢
        have hjo := ofL j oj ej hj
        have := (drawStat_at hstat hio hjo (by omega) hdj (.inr (.inr hd))).2 hlt'
        cases hd' : D j with
        | false => rfl
        | true => have := hJ.closed j oj hd' hjo i this; rw [this] at hDi; cases hDi]
      rw [put_getD, hJ.size]
      split
      · exact hv
      · exact VV_adv ha _ _ (hJ.tmps t)
    · have : bxL base (fun m => D m || natEq m i) (os.zip es) 0 st.bx = updB (bxL base D (os.zip es) 0 st.bx) (base + i) e.r.u := by
        funext k
        exact bxL_set hDi _ 0 _ o e (Nat.zero_le _) (by rw [Nat.sub_zero]; exact hL) fun hw j oj ej hlt' hj hwj => by
          rw [Nat.zero_add] at hlt' hwj ⊢
          have := (pair j oj ej k hj (by omega) (.inr hw) hwj).2 hlt'
          cases hd' : D j with
          | false => rfl
          | true => have := hJ.closed j oj hd' (ofL j oj ej hj) i this; rw [this] at hDi; cases hDi
      rw [this]; exact hb
  -- the guard
  have hwant : Region.wanted o (yielded ops a.tmps) = e.want := by
    cases hg : o.guard with
    | none => rw [hent.none_ hg]; simp [Region.wanted, hg]
    | some p =>
      obtain ⟨j, wnt⟩ := p
      obtain ⟨d, h1, h2⟩ := hent.some_ j wnt hg
      have hv := slot d (.inr (by simp [guardTmp, hg, h1]))
      have g1 : (ops[j]?).bind (·.dst) = some d := by
        rw [List.getElem?_map] at h1
        cases ho : os[j]? with
        | none => rw [ho] at h1; cases h1
        | some oj => rw [hpre j oj ho]; rw [ho] at h1; simpa using h1
      rcases h2 with ⟨b, h2, h3⟩ | ⟨h2, h3⟩
      rotate_left
      · have hn := isNoV_val h2 hv
        have hy : yielded ops a.tmps j = none := by
          unfold yielded
          rw [g1, Option.bind_some]
          rw [Array.getD_eq_getD_getElem?] at hn
          cases hh : a.tmps[d]? with
          | none => rfl
          | some x => rw [hh] at hn; simp at hn; rw [hn]; rfl
        rw [h3]
        simp [Region.wanted, hg, hy]
      have hbv : a.tmps.getD d undef = .bool b := by
        unfold isArgB at h2
        split at h2
        · rename_i hh; cases h2; rw [hh] at hv; simpa only [VV] using hv
        · rename_i hh; cases h2; rw [hh] at hv; simpa only [VV] using hv
        · cases h2
      have hy : yielded ops a.tmps j = some b := by
        unfold yielded
        have g2 : a.tmps[d]? = some (.bool b) := by
          rw [Array.getD_eq_getD_getElem?] at hbv
          cases hh : a.tmps[d]? with
          | none => rw [hh] at hbv; simp [undef] at hbv
          | some x => rw [hh] at hbv; simp at hbv; rw [hbv]
        rw [g1, Option.bind_some, g2]
      simp only [Region.wanted, hg, hy, h3]
      simp
  unfold wpOp
  simp only [hi]
  rw [hwant]
  cases hw : e.want with
  | false =>
    rw [if_neg (by simp)]
    have hr := hent.no hw
    exact done ρ w undef (by rw [hr]; exact VV_noV _ _) (Adv.refl _ _) (by rw [hr]; exact hJ.bx) (fun _ _ => rfl)
  | true =>
    rw [if_pos rfl]
    left
    have hev : ∀ x ∈ o.op.operands.toList, VV ρ w (evL T x) (a.eval x) := by
      intro x hx
      cases x with
      | tmp t => simp only [evL, nthF_eq]; exact slot t (.inl (List.mem_filterMap.2 ⟨.tmp t, hx, rfl⟩))
      | const v => exact VV_ofVal v
      | global g => simp only [evL, VV, Act.eval]
      | func f => simp only [evL, VV, Act.eval, VVs]; exact ⟨[], rfl, rfl, rfl⟩
    rcases hent.yes hw with ⟨_, hY⟩ | ⟨f, args, ts, f', as, s, hop, hfn, v, hl, hr⟩
    · obtain ⟨n, w', ρ', v', h1, h2, h3, h4, h5, h6⟩ := opR_sound (P := P) (bx := bxL base D (os.zip es) 0 st.bx) hE.ok hE.deep hJ.gr hev hJ.bx (fun k hk => by
        rw [hbx k]
        refine (bxL_congr _ 0 _ _ rfl fun j oj ej hj hwj => ?_).symm
        rw [Nat.zero_add] at hwj ⊢
        by_cases hne : i = j
        · subst hne; rw [hDi]; simp
        · have := pair j oj ej k hj hne (.inl hk) hwj
          exact before j oj (ofL j oj ej hj) this.1 this.2) (hJ.undone i hlt hDi) hY
      unfold Oper.wp
      rw [h1]
      have key := done ρ' w' v' h3 h4 h5 h6
      rcases h2 with rfl | ⟨rfl, rfl⟩
      · exact key
      · exact key
    · -- a call of what is specified
      have hcall : CallOk P E.globs noCall := fun _ _ _ _ _ h => h.elim
      have hcw : callOpW real E noCall (some b) T (evL T f) (args.toList.map (evL T)) (bxL base D (os.zip es) 0 st.bx) st.next (fun v bx nx => v = e.r.v ∧ bx = bxL base D (os.zip es) 0 st.bx ∧ nx = st.next) := by
        unfold callOpW
        rw [hfn]
        rcases hl with hl | hl
        · simp only [hl.1]; exact specW_of (SpecY_draw hl.2) (by simp [hr])
        · simp only [hl.1]; exact R.Y_wp _ v hl.2 (by simp [hr])
      refine callOp_core (dm := some b) (Q := Q) hE hcall hop hev hJ.bx (fun k hk => hJ.free k (by omega)) hJ.gr (fun k c h => hbs D k c h) (fun h => by rw [hJ.adv.own]; exact hz0 h) hcw fun v1 w' lv bx1 next' ρ' hk hv' hb hf hg hle hsame hd => ?_
      obtain ⟨hk1, hk2, hk3⟩ := hk
      subst hk1; subst hk2; subst hk3
      rcases hd with ha | ⟨_, ⟨_, _, _, hno⟩ | ⟨hno, _⟩⟩
      · refine done ρ' w' v1 hv' ha (by rw [hr]; exact hb) fun k hk => ?_
        rcases Nat.lt_or_ge k st.next with h | h
        · exact hsame k h
        · rw [hJ.free k (by omega)]; exact hf k h
      · exact hno.elim
      · cases hno

theorem ready_any {ops : Array Oper} {listed : Array Bool} {i : Nat} (h : i ∈ Region.ready .any ops listed) : listed.getD i true = false ∧ ∃ o, ops[i]? = some o ∧ ∀ e ∈ edgesOf o, listed.getD e false = true := by
  obtain ⟨h0, o, ho, hall⟩ := mem_ready.1 h
  refine ⟨h0, o, ho, fun e he => ?_⟩
  unfold edgesOf at he
  obtain ⟨x, hx, hxe⟩ := List.mem_filterMap.1 he
  split at hxe
  · rename_i hb; cases hxe; exact hall x (by simpa using hx) hb
  · cases hxe

theorem ready_some {ops : Array Oper} {listed : Array Bool} (hs : listed.size = ops.size) (hback : ∀ (i : Nat) o, ops[i]? = some o → ∀ e ∈ edgesOf o, e < i) : ∀ i, i < ops.size → (∀ j, j < i → listed.getD j false = true) → listed.getD i false = false → i ∈ Region.ready .any ops listed := by
  intro i hi hlow hli
  rw [mem_ready]
  refine ⟨?_, ops[i], by simp [hi], fun e he hb => ?_⟩
  · have : i < listed.size := by omega
    simpa [Array.getD_eq_getD_getElem?, this] using hli
  · have : e.on ∈ edgesOf ops[i] := by
      unfold edgesOf
      refine List.mem_filterMap.2 ⟨e, by simpa using he, ?_⟩
      rw [hb]
    exact hlow _ (hback i ops[i] (by simp [hi]) _ this)

theorem all_listed {ops : Array Oper} {listed : Array Bool} (hs : listed.size = ops.size) (hback : ∀ (i : Nat) o, ops[i]? = some o → ∀ e ∈ edgesOf o, e < i) (hr : Region.ready .any ops listed = []) : ∀ i, i < ops.size → listed.getD i false = true := by
  intro i
  induction i using Nat.strongRecOn with
  | _ i ih =>
    intro hi
    cases hd : listed.getD i false with
    | true => rfl
    | false =>
      have := ready_some hs hback i hi (fun j hj => ih j hj (by omega)) hd
      rw [hr] at this; cases this

theorem wrOk_mem {ws : Option (List Nat)} {base : Nat} : ∀ (l : List LogE), wrOk ws base l = true → ∀ x ∈ l, x.st = true → ∀ ks, ws = some ks → (mem x.lab ks || natLe base x.lab) = true
  | [], _, x, h, _, _, _ => by simp at h
  | y :: l, hn, x, h, hx, ks, hk => by
    simp only [wrOk, Bool.and_eq_true] at hn
    rcases List.mem_cons.1 h with rfl | h
    · have h1 := hn.1
      rw [hx, hk] at h1
      simpa using h1
    · exact wrOk_mem l hn.2 x h hx ks hk
/-- the rest of a region, one behind the other -/
theorem any_seq {ops : Array Oper} {Q : Exit → Act → World → Prop} : ∀ (n j : Nat) (fuel : Nat) (listed : Array Bool) (a : Act) (w : World), ops.size - j = n → j ≤ ops.size → listed.size = ops.size → (∀ i, i < ops.size → listed.getD i false = decide (i < j)) → n ≤ fuel →
    (∀ j' o, j ≤ j' → ops[j']? = some o → ∀ D : Nat → Bool, (∀ i, D i = decide (i < j') ∨ True) → (∀ e ∈ edgesOf o, D e = true) → (∀ i o', D i = true → ops[i]? = some o' → ∀ e ∈ edgesOf o', D e = true) → ∀ i, i < j' → D i = true) →
    (∀ (i : Nat) o, ops[i]? = some o → ∀ e ∈ edgesOf o, e < i) →
    wpList P ops Q (ops.toList.drop j) a w → wpAny P .any ops Q fuel listed a w := by
  intro n
  induction n with
  | zero =>
    intro j fuel listed a w hn hj hsz hl hf hcov hback h
    have hje : j = ops.size := by omega
    subst hje
    have hd : ops.toList.drop ops.size = [] := by rw [List.drop_eq_nil_iff]; simp
    rw [hd] at h
    have hr : Region.ready .any ops listed = [] := by
      cases hr : Region.ready .any ops listed with
      | nil => rfl
      | cons i l =>
        have hm : i ∈ Region.ready .any ops listed := by rw [hr]; simp
        obtain ⟨h0, o, ho, _⟩ := ready_any hm
        have hi : i < ops.size := (Array.getElem?_eq_some_iff.1 ho).1
        have := hl i hi
        have hi' : i < listed.size := by omega
        rw [Array.getD_eq_getD_getElem?] at h0 this
        simp [hi', hi] at h0 this
        rw [this] at h0; cases h0
    cases fuel with
    | zero => exact ⟨hr, h⟩
    | succ f => exact ⟨fun _ => h, fun i hi => by rw [hr] at hi; simp at hi⟩
  | succ n ih =>
    intro j fuel listed a w hn hj hsz hl hf hcov hback h
    obtain ⟨f, rfl⟩ : ∃ f, fuel = f + 1 := ⟨fuel - 1, by omega⟩
    have hjl : j < ops.size := by omega
    have hlD : ∀ i, listed.getD i false = true → i < j := fun i hi => by
      by_cases hlt : i < ops.size
      · have := hl i hlt; rw [hi] at this; simpa using this.symm
      · rw [Array.getD_eq_getD_getElem?] at hi
        rw [Array.getElem?_eq_none (by omega)] at hi
        simp at hi
    refine ⟨fun hr => ?_, fun i hi => ?_⟩
    · exfalso
      have := all_listed hsz hback hr j hjl
      rw [hl j hjl] at this
      simp at this
    · obtain ⟨h0, o, ho, hed⟩ := ready_any hi
      have hilt : i < ops.size := (Array.getElem?_eq_some_iff.1 ho).1
      have hil : i < listed.size := by omega
      have h1 : listed.getD i false = false := by
        rw [Array.getD_eq_getD_getElem?] at h0 ⊢
        simpa [hil] using h0
      have hij : j ≤ i := by
        rcases Nat.lt_or_ge i j with h | h
        · rw [hl i hilt] at h1; simp at h1; omega
        · exact h
      have hall := hcov i o hij ho (fun k => listed.getD k false) (fun _ => .inr trivial) hed fun k o' hk hko e he => by
        have hkj := hlD k hk
        have hek := hback k o' hko e he
        show listed.getD e false = true
        rw [hl e (by omega)]; simp; omega
      have : i = j := by
        rcases Nat.lt_or_ge j i with hlt | hge
        · have := hall j hlt
          rw [hl j hjl] at this; simp at this
        · omega
      subst this
      have hdrop : ops.toList.drop i = o :: ops.toList.drop (i + 1) := by
        rw [← List.getElem_cons_drop (by simpa using hjl)]
        congr 1
        rw [Array.getElem?_eq_getElem hjl] at ho
        simpa using ho
      rw [hdrop] at h
      unfold wpOp
      simp only [ho]
      unfold wpList at h
      have key : ∀ a' w', wpList P ops Q (ops.toList.drop (i + 1)) a' w' → wpAny P .any ops Q f (listed.setIfInBounds i true) a' w' := fun a' w' hh =>
        ih (i + 1) f _ a' w' (by omega) (by omega) (by simpa using hsz) (fun k hk => by
          rw [listed_set listed i hil k, hl k hk]
          by_cases e : k = i
          · subst e; simp
          · have : natEq k i = false := by
              cases hb : natEq k i with
              | true => exact absurd (natEq_true hb) e
              | false => rfl
            rw [this, Bool.or_false]
            congr 1
            apply propext; omega) (by omega) (fun j' o' hj' => hcov j' o' (by omega)) hback hh
      split at h
      · rename_i hw
        rw [if_pos hw]
        exact h.imp (Oper.wp_mono key) id
      · rename_i hw
        rw [if_neg hw]
        exact key _ _ h
theorem draw_sound (hE : EnvFull P E) {id : Nat} {ops : Array Oper} {os : List Oper} (hpre : ∀ (i : Nat) (o : Oper), os[i]? = some o → ops[i]? = some o) (hback : ∀ (i : Nat) o, ops[i]? = some o → ∀ e ∈ edgesOf o, e < i)
    (hcov : ∀ j' o, os.length ≤ j' → ops[j']? = some o → ∀ D : Nat → Bool, (∀ e ∈ edgesOf o, D e = true) → (∀ i o', D i = true → ops[i]? = some o' → ∀ e ∈ edgesOf o', D e = true) → ∀ i, i < j' → D i = true)
    {st : St} {K : St → Prop} {base : Nat} (hstat : drawStat os = true)
    {ws : Option (List Nat)} (h : opsW real E noCall (some (drawF st.bx (drawBx ws base st.bx))) (os.map (·.dst)) os 0 base st [] fun st log => match logOk log && wrOk ws base log with | true => K st | false => False) (hnext : base + os.length ≤ st.next)
    {a : Act} {w : World} {ρ : Nat → Option Nat} (hs : StR E.globs ρ st a w) (hfree : ∀ k, base ≤ k → ρ (k + 1) = none) {Q : Exit → Act → World → Prop}
    (hQ : ∀ st' ρ' a' w', K st' → StR E.globs ρ' st' a' w' → Adv ρ w ρ' w' → st'.next = st.next → (∀ k, k < base → ρ' (k + 1) = ρ (k + 1)) → (∀ k, base + os.length ≤ k → ρ' (k + 1) = none) → wpList P ops Q (ops.toList.drop os.length) a' w') : (Code.region id ops true).wp P Q a w := by
  obtain ⟨es, st', log', hK, hch⟩ := opsW_chain _ _ _ _ _ h
  cases hlog0 : (logOk log' && wrOk ws base log') with
  | false => rw [hlog0] at hK; exact hK.elim
  | true =>
    rw [hlog0] at hK
    simp only at hK
    simp only [Bool.and_eq_true] at hlog0
    obtain ⟨hlog, hpw⟩ := hlog0
    have hz0 : drawF st.bx (drawBx ws base st.bx) RF = none → ρ 0 = none := by
      intro hq
      unfold drawF at hq
      cases hf : st.bx RF with
      | none => exact hs.bx.flag hf
      | some d => rw [hf] at hq; simp only at hq; unfold flagB at hq; rw [Bx.set_same] at hq; cases hq
    have hbs : ∀ D k c, bxR (drawF st.bx (drawBx ws base st.bx)) k = some c → bxL base D (os.zip es) 0 st.bx k = some c := by
      intro D k c hb
      replace hb : drawBx ws base st.bx k = some c := by
        unfold drawF at hb
        cases hf : st.bx RF with
        | none => rw [hf] at hb; exact bxR_some hb
        | some d =>
          rw [hf] at hb
          simp only at hb
          unfold bxR at hb
          split at hb
          · cases hb
          · rename_i hne
            unfold flagB at hb
            rw [Bx.set_other _ _ (fun e => by rw [e] at hne; simp at hne)] at hb
            cases hb
      unfold drawBx at hb
      split at hb
      · cases hb
      · rename_i ks
        split at hb
        · cases hb
        rename_i hno
        have hbk : st.bx k = some c := hb
        rw [bxL_congr (D' := fun _ => false) _ 0 st.bx st.bx rfl fun j oj ej hj hwj => by
          exfalso
          obtain ⟨_, hlg⟩ := chain_log _ _ _ _ _ _ _ hch
          rw [Nat.zero_add] at hwj
          obtain ⟨b2, h2, h3⟩ := hlg j oj ej hj k (.inr (by rw [Nat.zero_add]; exact hwj))
          have := h3 (by rw [Nat.zero_add]; exact hwj)
          subst this
          have hm := wrOk_mem log' hpw _ h2 rfl ks rfl
          simp only at hm
          rw [hno] at hm
          cases hm]
        have : ∀ (l : List (Oper × Ent)) (m : Nat) (b : Bx), bxL base (fun _ => false) l m b = b := by
          intro l
          induction l with
          | nil => intro m b; rfl
          | cons p l ih => intro m b; obtain ⟨o', e'⟩ := p; simp only [bxL]; rw [ih]; simp
        rw [this]; exact hbk
    have hple : os.length ≤ ops.size := by
      rcases Nat.lt_or_ge ops.size os.length with h | h
      · have := hpre ops.size _ (List.getElem?_eq_getElem h)
        have := (Array.getElem?_eq_some_iff.1 this).1
        omega
      · exact h
    have hpos : ∀ i o, i < os.length → ops[i]? = some o → os[i]? = some o := fun i o hi ho => by
      have := hpre i _ (List.getElem?_eq_getElem hi)
      rw [ho] at this
      rw [List.getElem?_eq_getElem hi]; exact this.symm
    obtain ⟨_, hT, hB, hN, hLn⟩ := chain_at _ _ _ _ _ _ _ hch
    have final : ∀ D ρ' a' w', (∀ i, i < os.length → D i = true) → JR E os (os.zip es) base st ρ w D ρ' a' w' → wpList P ops Q (ops.toList.drop os.length) a' w' := by
      intro D ρ' a' w' hD hJ
      have hin : ∀ j (oj : Oper) (ej : Ent), (os.zip es)[j]? = some (oj, ej) → D (0 + j) = true := fun j oj ej hj => by
        rw [Nat.zero_add]
        exact hD j (List.getElem?_eq_some_iff.1 (List.getElem?_zip_eq_some.1 hj).1).1
      refine hQ st' ρ' a' w' hK ⟨⟨by rw [hJ.size, hLn], fun t => ?_⟩, hJ.defers, ?_, fun k hk => hJ.free k (by omega), hJ.gr⟩ hJ.adv hN hJ.low hJ.free
      · rw [hT t ρ' w']
        rw [tmL_congr (D' := D) _ 0 _ fun j oj ej hj _ => (hin j oj ej hj).symm]
        exact hJ.tmps t
      · have : st'.bx = bxL base D (os.zip es) 0 st.bx := by
          funext k
          rw [hB k]
          exact bxL_congr _ 0 _ _ rfl fun j oj ej hj _ => (hin j oj ej hj).symm
        rw [this]; exact hJ.bx
    have main : ∀ (fuel : Nat) (listed : Array Bool) (a' : Act) (w' : World) (ρ' : Nat → Option Nat), listed.size = ops.size → (∀ j, os.length ≤ j → listed.getD j false = false) → listed.toList.count false ≤ fuel →
        JR E os (os.zip es) base st ρ w (fun m => listed.getD m false) ρ' a' w' → wpAny P .any ops Q fuel listed a' w' := by
      intro fuel
      induction fuel with
      | zero =>
        intro listed a' w' ρ' hsz hrest hc hJ
        have hall : ∀ i, i < ops.size → listed.getD i false = true := by
          intro i hi
          have hi' : i < listed.size := by omega
          have h0 : listed.toList.count false = 0 := by omega
          rw [List.count_eq_zero] at h0
          cases hd : listed.getD i false with
          | true => rfl
          | false =>
            rw [Array.getD_eq_getD_getElem?] at hd
            simp [hi'] at hd
            exact absurd (by rw [← hd]; simp) h0
        have hlen : ops.size ≤ os.length := by
          rcases Nat.lt_or_ge os.length ops.size with h | h
          · have h1 := hall _ h
            rw [hrest _ (Nat.le_refl _)] at h1; cases h1
          · exact h
        exact any_seq 0 os.length 0 listed a' w' (by omega) hple hsz (fun i hi => by rw [hall i hi]; simp; omega) (Nat.le_refl _) (fun j' o hj ho D _ => hcov j' o hj ho D) hback (final _ _ _ _ (fun i hi => hall i (by omega)) hJ)
      | succ fuel ih =>
        intro listed a' w' ρ' hsz hrest hc hJ
        by_cases hdone : ∀ i, i < os.length → listed.getD i false = true
        · have hcnt : ops.size - os.length ≤ fuel + 1 := by
            refine Nat.le_trans ?_ hc
            have h1 : (listed.toList.drop os.length).count false = ops.size - os.length := by
              have : listed.toList.drop os.length = List.replicate (ops.size - os.length) false := by
                apply List.ext_getElem
                · simp [hsz]
                · intro k h1 h2
                  simp only [List.getElem_drop, List.getElem_replicate]
                  have hk : os.length + k < listed.size := by simp at h1; omega
                  have := hrest (os.length + k) (by omega)
                  rw [Array.getD_eq_getD_getElem?] at this
                  simpa [hk] using this
              rw [this, List.count_replicate_self]
            rw [← h1]
            conv => rhs; rw [← List.take_append_drop os.length listed.toList, List.count_append]
            omega
          exact any_seq (ops.size - os.length) os.length (fuel + 1) listed a' w' rfl hple hsz (fun i hi => by
            by_cases h : i < os.length
            · rw [hdone i h]; simp [h]
            · rw [hrest i (by omega)]; simp [h]) hcnt (fun j' o hj ho D _ => hcov j' o hj ho D) hback (final _ _ _ _ hdone hJ)
        refine ⟨fun hr => absurd (fun i hi => all_listed hsz hback hr i (by omega)) hdone, fun i hi => ?_⟩
        obtain ⟨h0, o, ho, hed⟩ := ready_any hi
        have hilt : i < ops.size := (Array.getElem?_eq_some_iff.1 ho).1
        have hil : i < listed.size := by omega
        have h1 : listed.getD i false = false := by
          rw [Array.getD_eq_getD_getElem?] at h0 ⊢
          simpa [hil] using h0
        have hios : i < os.length := by
          rcases Nat.lt_or_ge i os.length with h | h
          · exact h
          · exfalso
            exact hdone fun k hk => hcov i o h ho (fun m => listed.getD m false) hed (fun m o' hm hmo e he => by
              have hmlt : m < os.length := by
                rcases Nat.lt_or_ge m os.length with h' | h'
                · exact h'
                · have := hrest m h'; rw [this] at hm; cases hm
              exact hJ.closed m o' hm (hpos m o' hmlt hmo) e he) k (by omega)
        refine JR.step hE hpre hbs hch hlog hstat hnext hz0 hJ (hpos i o hios ho) h1 hed fun ρ1 a1 w1 hJ1 => ?_
        refine ih (listed.setIfInBounds i true) a1 w1 ρ1 (by simpa using hsz) (fun j hj => by
          rw [listed_set listed i hil j, hrest j hj]
          cases hb : natEq j i with
          | true => have := natEq_true hb; omega
          | false => rfl) ?_ ?_
        · have := count_set listed.toList i (by
            rw [Array.getD_eq_getD_getElem?] at h0
            simp [hil] at h0
            simp [hil, h0])
          have e : (listed.setIfInBounds i true).toList = listed.toList.set i true := by simp
          rw [e]; omega
        · have e : (fun m => (listed.setIfInBounds i true).getD m false) = fun m => (listed.getD m false || natEq m i) := by
            funext m; exact listed_set listed i hil m
          rw [e]; exact hJ1
    have hD0 : ∀ m, (Array.replicate ops.size false).getD m false = false := fun m => by
      rw [Array.getD_eq_getD_getElem?]
      by_cases hm : m < ops.size <;> simp [hm]
    refine wp_region_any hE.mixed (main ops.size _ a w.drew ρ (by simp) (fun j _ => hD0 j) (by simp) ?_)
    exact {
      size := hs.tmps.size
      tmps := fun t => by
        rw [tmL_congr (D' := fun _ => false) _ 0 _ fun j _ _ _ _ => hD0 _]
        have : ∀ (l : List (Oper × Ent)) (m : Nat) (x : LV), tmL st.tmps.length (fun _ => false) t l m x = x := by
          intro l
          induction l with
          | nil => intro m x; rfl
          | cons p l ih => intro m x; obtain ⟨o', e'⟩ := p; simp only [tmL]; rw [ih]; simp
        rw [this]
        exact VV_adv (Adv.drew ρ w) _ _ (hs.tmps.at_ t)
      defers := hs.defers
      bx := by
        have : ∀ (l : List (Oper × Ent)) (m : Nat) (b : Bx), bxL base (fun m => (Array.replicate ops.size false).getD m false) l m b = b := by
          intro l
          induction l with
          | nil => intro m b; rfl
          | cons p l ih => intro m b; obtain ⟨o', e'⟩ := p; simp only [bxL]; rw [ih]; exact if_neg (by rw [hD0]; simp)
        rw [this]
        exact ⟨fun k b hk => by
          obtain ⟨ty, lv, cs, t, h1, h2, h3, h4⟩ := hs.bx.cont k b hk
          exact ⟨ty, lv, cs, t, h1, h2, VC_adv (Adv.drew ρ w).weak _ _ h3, h4⟩, hs.bx.inj, hs.bx.row, hs.bx.flag⟩
      free := fun k hk => hfree k (by omega)
      undone := fun j _ _ => hfree _ (Nat.le_add_right _ _)
      adv := Adv.drew ρ w
      low := fun _ _ => rfl
      gr := hs.gr.adv (Adv.drew ρ w).weak
      closed := fun i o hd => by rw [hD0] at hd; cases hd }
end
end Go.LE
namespace Go.LE
open Go Go.RowKit

/-! ## loops of unknown length: what is forgotten from round to round -/
def cutρ (base : Nat) (ρ : Nat → Option Nat) : Nat → Option Nat := fun k => match natLt k (base + 1) with | true => ρ k | false => none
theorem cutρ_lt {base : Nat} {ρ : Nat → Option Nat} {k : Nat} (h : k < base + 1) : cutρ base ρ k = ρ k := by unfold cutρ; rw [(blt_iff _ _).2 h]
theorem cutρ_ge {base : Nat} {ρ : Nat → Option Nat} {k : Nat} (h : base + 1 ≤ k) : cutρ base ρ k = none := by
  unfold cutρ
  cases hh : natLt k (base + 1) with
  | true => have := (blt_iff _ _).1 hh; omega
  | false => rfl
theorem cutρ_some {base : Nat} {ρ : Nat → Option Nat} {k b : Nat} (h : cutρ base ρ k = some b) : k < base + 1 ∧ ρ k = some b := by
  rcases Nat.lt_or_ge k (base + 1) with hk | hk
  · rw [cutρ_lt hk] at h; exact ⟨hk, h⟩
  · rw [cutρ_ge hk] at h; cases h
theorem SlC_cut {base : Nat} {ρ : Nat → Option Nat} {w : World} {v : Value} {n : Nat} {cs : List Value} (h : SlC ρ w v n cs) : SlC (cutρ base ρ) w v n cs := by
  obtain ⟨a, cap, h1, h2, h3⟩ := h
  exact ⟨a, cap, h1, h2, h3.imp id fun ⟨b, off, g1, g2, g3⟩ => ⟨b, off, g1, fun k hk => g2 k (cutρ_some hk).2, g3⟩⟩
theorem CellC_cut {base : Nat} {ρ : Nat → Option Nat} {w : World} {v : Value} {cs : List Value} (h : CellC ρ w v cs) : CellC (cutρ base ρ) w v cs := by
  obtain ⟨b, off, g1, g2, g3, g4⟩ := h
  exact ⟨b, off, g1, fun k hk => g2 k (cutρ_some hk).2, g3, g4⟩
theorem OwnC_cut {base : Nat} {ρ : Nat → Option Nat} {w : World} {v : Value} {k : EK} {l : List Int} (h : OwnC ρ w v k l) : OwnC (cutρ base ρ) w v k l :=
  ⟨h.1, h.2.1, h.2.2.1, fun b hb => by rw [cutρ_lt (by omega)]; exact h.2.2.2 b hb⟩
mutual
theorem VC_cut {base : Nat} {ρ : Nat → Option Nat} {w : World} : ∀ (lv : LV) (cs : List Value), below base lv = true → VC ρ w lv cs → VC (cutρ base ρ) w lv cs
  | .int .., cs, _, h | .lit .., cs, _, h | .str .., cs, _, h | .slit .., cs, _, h | .bool .., cs, _, h | .blit .., cs, _, h | .nils, cs, _, h | .nilf, cs, _, h | .gptr .., cs, _, h | .wide _, cs, _, h | .word _, cs, _, h => by
    simp only [VC] at h ⊢ <;> exact h
  | .undef, cs, _, h | .own .., cs, _, h | .oel .., cs, _, h => by simp [VC] at h
  | .ptr k o, cs, hp, h => by simp only [VC] at h ⊢; obtain ⟨b, h1, h2⟩ := h; simp only [below, blt_iff] at hp; exact ⟨b, by rw [cutρ_lt (by omega)]; exact h1, h2⟩
  | .sl k o n, cs, hp, h => by simp only [VC] at h ⊢; obtain ⟨b, c, h1, h2⟩ := h; simp only [below, blt_iff] at hp; exact ⟨b, c, by rw [cutρ_lt (by omega)]; exact h1, h2⟩
  | .agg ps, cs, hp, h => by simp only [VC] at h ⊢; exact VCs_cut ps cs (by simpa [below] using hp) h
  | .tup _, cs, _, h => by simp [VC] at h
  | .fn f ps, cs, hp, h => by simp only [VC] at h ⊢; obtain ⟨vs, h0, h1, h2⟩ := h; exact ⟨vs, h0, VVs_cut ps vs (by simpa [below] using hp) h1, h2⟩
  | .im l, cs, hp, h => by simp only [VC] at h ⊢; obtain ⟨v, c, h1, h2, h3⟩ := h; exact ⟨v, c, h1, VCs_cut l c (by simpa [below] using hp) h2, SlC_cut h3⟩
  | .cell l, cs, hp, h => by simp only [VC] at h ⊢; obtain ⟨v, c, h1, h2, h3⟩ := h; exact ⟨v, c, h1, VC_cut l c (by simpa [below] using hp) h2, CellC_cut h3⟩
  | .big _, cs, _, h => by simp only [VC] at h ⊢; obtain ⟨v, h1, h3⟩ := h; exact ⟨v, h1, SlC_cut h3⟩
  | .words _, cs, _, h => by simp only [VC] at h ⊢; obtain ⟨v, h1, h3⟩ := h; exact ⟨v, h1, SlC_cut h3⟩
  | .ints .., cs, _, h => by simp only [VC] at h ⊢; obtain ⟨v, h1, h2, h3⟩ := h; exact ⟨v, h1, h2, SlC_cut h3⟩
theorem VCs_cut {base : Nat} {ρ : Nat → Option Nat} {w : World} : ∀ (ps : List LV) (cs : List Value), belows base ps = true → VCs ρ w ps cs → VCs (cutρ base ρ) w ps cs
  | [], cs, _, h => by simp only [VCs] at h ⊢; exact h
  | p :: ps, cs, hp, h => by
    simp only [belows, Bool.and_eq_true] at hp
    simp only [VCs] at h ⊢
    obtain ⟨c1, c2, h0, h1, h2⟩ := h
    exact ⟨c1, c2, h0, VC_cut p c1 hp.1 h1, VCs_cut ps c2 hp.2 h2⟩
theorem VV_cut {base : Nat} {ρ : Nat → Option Nat} {w : World} : ∀ (lv : LV) (v : Value), below base lv = true → VV ρ w lv v → VV (cutρ base ρ) w lv v
  | .int .., v, _, h | .lit .., v, _, h | .str .., v, _, h | .slit .., v, _, h | .bool .., v, _, h | .blit .., v, _, h | .nils, v, _, h | .nilf, v, _, h | .gptr .., v, _, h | .wide _, v, _, h | .word _, v, _, h | .undef, v, _, h => by
    simp only [VV] at h ⊢ <;> exact h
  | .own .., v, _, h => by simp only [VV] at h ⊢; exact OwnC_cut h
  | .oel .., v, _, h => by simp only [VV] at h ⊢; obtain ⟨u, b, h1, h2⟩ := h; exact ⟨u, b, OwnC_cut h1, h2⟩
  | .ptr k o, cs, hp, h => by simp only [VV] at h ⊢; obtain ⟨b, h1, h2⟩ := h; simp only [below, blt_iff] at hp; exact ⟨b, by rw [cutρ_lt (by omega)]; exact h1, h2⟩
  | .sl k o n, cs, hp, h => by simp only [VV] at h ⊢; obtain ⟨b, c, h1, h2⟩ := h; simp only [below, blt_iff] at hp; exact ⟨b, c, by rw [cutρ_lt (by omega)]; exact h1, h2⟩
  | .agg ps, v, hp, h => by simp only [VV] at h ⊢; obtain ⟨cs, h0, h1⟩ := h; exact ⟨cs, h0, VCs_cut ps cs (by simpa [below] using hp) h1⟩
  | .tup ps, v, hp, h => by simp only [VV] at h ⊢; obtain ⟨vs, h0, h1⟩ := h; exact ⟨vs, h0, VVs_cut ps vs (by simpa [below] using hp) h1⟩
  | .fn f ps, v, hp, h => by simp only [VV] at h ⊢; obtain ⟨vs, h0, h1, h2⟩ := h; exact ⟨vs, h0, VVs_cut ps vs (by simpa [below] using hp) h1, h2⟩
  | .im l, v, hp, h => by simp only [VV] at h ⊢; obtain ⟨c, h2, h3⟩ := h; exact ⟨c, VCs_cut l c (by simpa [below] using hp) h2, SlC_cut h3⟩
  | .cell l, v, hp, h => by simp only [VV] at h ⊢; obtain ⟨c, h2, h3⟩ := h; exact ⟨c, VC_cut l c (by simpa [below] using hp) h2, CellC_cut h3⟩
  | .big _, v, _, h => by simp only [VV] at h ⊢; exact SlC_cut h
  | .words _, v, _, h => by simp only [VV] at h ⊢; exact SlC_cut h
  | .ints .., v, _, h => by simp only [VV] at h ⊢; exact ⟨h.1, SlC_cut h.2⟩
theorem VVs_cut {base : Nat} {ρ : Nat → Option Nat} {w : World} : ∀ (ps : List LV) (vs : List Value), belows base ps = true → VVs ρ w ps vs → VVs (cutρ base ρ) w ps vs
  | [], vs, _, h => by simp only [VVs] at h ⊢; exact h
  | p :: ps, vs, hp, h => by
    simp only [belows, Bool.and_eq_true] at hp
    simp only [VVs] at h ⊢
    obtain ⟨v, vs', h0, h1, h2⟩ := h
    exact ⟨v, vs', h0, VV_cut p v hp.1 h1, VVs_cut ps vs' hp.2 h2⟩
end

mutual
theorem VC_gen {ρ : Nat → Option Nat} {w : World} : ∀ (lv : LV) (cs : List Value), VC ρ w lv cs → VC ρ w (gen lv) cs
  | .int .., cs, h | .str .., cs, h | .bool .., cs, h | .nils, cs, h | .nilf, cs, h | .gptr .., cs, h | .wide _, cs, h | .word _, cs, h | .undef, cs, h | .own .., cs, h | .oel .., cs, h | .ptr .., cs, h | .sl .., cs, h | .fn .., cs, h | .im _, cs, h | .cell _, cs, h | .big _, cs, h | .words _, cs, h | .ints .., cs, h => by
    simp only [gen]; exact h
  | .lit .., cs, h | .blit .., cs, h | .slit .., cs, h => by simp only [VC, gen] at h ⊢; exact h
  | .agg ps, cs, h => by simp only [VC, gen] at h ⊢; exact VCs_gen ps cs h
  | .tup _, cs, h => by simp [VC] at h
theorem VCs_gen {ρ : Nat → Option Nat} {w : World} : ∀ (ps : List LV) (cs : List Value), VCs ρ w ps cs → VCs ρ w (gens ps) cs
  | [], cs, h => by simpa only [gens] using h
  | p :: ps, cs, h => by
    simp only [VCs, gens] at h ⊢
    obtain ⟨c1, c2, h0, h1, h2⟩ := h
    exact ⟨c1, c2, h0, VC_gen p c1 h1, VCs_gen ps c2 h2⟩
end
mutual
theorem VV_gen {ρ : Nat → Option Nat} {w : World} : ∀ (lv : LV) (v : Value), VV ρ w lv v → VV ρ w (gen lv) v
  | .int .., cs, h | .str .., cs, h | .bool .., cs, h | .nils, cs, h | .nilf, cs, h | .gptr .., cs, h | .wide _, cs, h | .word _, cs, h | .undef, cs, h | .own .., cs, h | .oel .., cs, h | .ptr .., cs, h | .sl .., cs, h | .fn .., cs, h | .im _, cs, h | .cell _, cs, h | .big _, cs, h | .words _, cs, h | .ints .., cs, h => by
    simp only [gen]; exact h
  | .lit .., cs, h | .blit .., cs, h | .slit .., cs, h => by simp only [VV, gen] at h ⊢; exact h
  | .agg ps, v, h => by simp only [VV, gen] at h ⊢; obtain ⟨cs, h0, h1⟩ := h; exact ⟨cs, h0, VCs_gen ps cs h1⟩
  | .tup ps, v, h => by simp only [VV, gen] at h ⊢; obtain ⟨cs, h0, h1⟩ := h; exact ⟨cs, h0, VVs_gen ps cs h1⟩
theorem VVs_gen {ρ : Nat → Option Nat} {w : World} : ∀ (ps : List LV) (vs : List Value), VVs ρ w ps vs → VVs ρ w (gens ps) vs
  | [], cs, h => by simpa only [gens] using h
  | p :: ps, vs, h => by
    simp only [VVs, gens] at h ⊢
    obtain ⟨v, vs', h0, h1, h2⟩ := h
    exact ⟨v, vs', h0, VV_gen p v h1, VVs_gen ps vs' h2⟩
end
theorem gens_len : ∀ (ps : List LV), (gens ps).length = ps.length
  | [] => rfl
  | p :: ps => by simp [gens, gens_len ps]
mutual
theorem shape_gen : ∀ (ty : Ty) (lv : LV), shape ty lv = true → shape ty (gen lv) = true
  | ty, .int .., h | ty, .str .., h | ty, .bool .., h | ty, .nils, h | ty, .nilf, h | ty, .gptr .., h | ty, .wide _, h | ty, .word _, h | ty, .undef, h | ty, .own .., h | ty, .oel .., h | ty, .ptr .., h | ty, .sl .., h | ty, .fn .., h | ty, .im _, h | ty, .cell _, h | ty, .big _, h | ty, .words _, h | ty, .ints .., h => by
    simp only [gen]; exact h
  | ty, .lit .., h | ty, .blit .., h | ty, .slit .., h => by cases ty <;> simp [gen, shape] at h ⊢ <;> exact h
  | ty, .agg ps, h => by
    cases ty <;> simp only [gen, shape, Bool.and_eq_true, Bool.false_eq_true] at h ⊢
    case struct fs => exact shapes_gen fs ps h
    case arr n e => exact ⟨by rw [gens_len]; exact h.1, shapeEl_gen e ps h.2⟩
  | ty, .tup _, h => by cases ty <;> simp [shape] at h
theorem shapes_gen : ∀ (fs : List Ty) (ps : List LV), shapes fs ps = true → shapes fs (gens ps) = true
  | [], [], _ => rfl
  | [], _ :: _, h => by simp [shapes] at h
  | _ :: _, [], h => by simp [shapes] at h
  | f :: fs, p :: ps, h => by
    simp only [shapes, gens, Bool.and_eq_true] at h ⊢
    exact ⟨shape_gen f p h.1, shapes_gen fs ps h.2⟩
theorem shapeEl_gen : ∀ (e : Ty) (ps : List LV), shapeEl e ps = true → shapeEl e (gens ps) = true
  | _, [], _ => rfl
  | e, p :: ps, h => by
    simp only [shapeEl, gens, Bool.and_eq_true] at h ⊢
    exact ⟨shape_gen e p h.1, shapeEl_gen e ps h.2⟩
end

theorem isWordT_eq {fs : List Ty} (h : isWordT fs = true) : fs = [.int .u64, .int .u64] := by
  unfold isWordT at h
  split at h
  · rfl
  · cases h
theorem isWideT_eq {n : Nat} {e : Ty} (h : isWideT n e = true) : n = 8 ∧ e = .int .u64 := by
  unfold isWideT at h
  split at h
  · exact ⟨rfl, rfl⟩
  · cases h
mutual
theorem VC_norm {ρ : Nat → Option Nat} {w : World} : ∀ (ty : Ty) (lv : LV) (cs : List Value), VC ρ w lv cs → VC ρ w (normT real ty lv) cs
  | ty, .agg ps, cs, h => by
    cases ty with
    | struct fs =>
      simp only [normT]
      split
      · rename_i b e1 e2
        have := getWord_VC e2 h
        simp only [VC]; exact this
      · simp only [VC] at h ⊢; exact VCs_norm fs ps cs h
    | arr n e =>
      simp only [normT]
      split
      · rename_i b e1 e2
        have := getW_VC e2 h
        simp only [VC]; exact this
      · simp only [VC] at h ⊢; exact VCel_norm e ps cs h
    | int k => simpa only [normT] using h
    | bool => simpa only [normT] using h
    | str => simpa only [normT] using h
    | slice e => simpa only [normT] using h
    | func => simpa only [normT] using h
  | ty, .lit .., cs, h | ty, .blit .., cs, h | ty, .slit .., cs, h => by cases ty <;> (simp only [VC, normT] at h ⊢; exact h)
  | ty, .int .., cs, h | ty, .str .., cs, h | ty, .bool .., cs, h | ty, .nils, cs, h | ty, .nilf, cs, h | ty, .gptr .., cs, h | ty, .wide _, cs, h | ty, .word _, cs, h | ty, .undef, cs, h | ty, .own .., cs, h | ty, .oel .., cs, h | ty, .ptr .., cs, h | ty, .sl .., cs, h | ty, .fn .., cs, h
  | ty, .im _, cs, h | ty, .cell _, cs, h | ty, .big _, cs, h | ty, .words _, cs, h | ty, .ints .., cs, h | ty, .tup _, cs, h => by
    cases ty <;> (simp only [normT]; exact h)
theorem VCs_norm {ρ : Nat → Option Nat} {w : World} : ∀ (ts : List Ty) (ps : List LV) (cs : List Value), VCs ρ w ps cs → VCs ρ w (normTs real ts ps) cs
  | [], [], cs, h | [], _ :: _, cs, h | _ :: _, [], cs, h => by simpa only [normTs] using h
  | t :: ts, p :: ps, cs, h => by
    simp only [VCs, normTs] at h ⊢
    obtain ⟨c1, c2, h0, h1, h2⟩ := h
    exact ⟨c1, c2, h0, VC_norm t p c1 h1, VCs_norm ts ps c2 h2⟩
theorem VCel_norm {ρ : Nat → Option Nat} {w : World} (e : Ty) : ∀ (ps : List LV) (cs : List Value), VCs ρ w ps cs → VCs ρ w (normEl real e ps) cs
  | [], cs, h => by simpa only [normEl] using h
  | p :: ps, cs, h => by
    simp only [VCs, normEl] at h ⊢
    obtain ⟨c1, c2, h0, h1, h2⟩ := h
    exact ⟨c1, c2, h0, VC_norm e p c1 h1, VCel_norm e ps c2 h2⟩
end
theorem normEl_len (e : Ty) : ∀ (ps : List LV), (normEl real e ps).length = ps.length
  | [] => by simp [normEl]
  | p :: ps => by simp [normEl, normEl_len e ps]
mutual
theorem shape_norm : ∀ (ty : Ty) (lv : LV), shape ty lv = true → shape ty (normT real ty lv) = true
  | ty, .agg ps, h => by
    cases ty <;> simp only [shape, Bool.and_eq_true, Bool.false_eq_true] at h
    case struct fs =>
      simp only [normT]
      split
      · rename_i b e1 e2
        rw [isWordT_eq e1]; rfl
      · simp only [shape]; exact shapes_norm fs ps h
    case arr n e =>
      simp only [normT]
      split
      · rename_i b e1 e2
        obtain ⟨rfl, rfl⟩ := isWideT_eq e1; rfl
      · simp only [shape, Bool.and_eq_true]
        exact ⟨by rw [normEl_len]; exact h.1, shapeEl_norm e ps h.2⟩
  | ty, .lit .., h | ty, .blit .., h | ty, .slit .., h => by cases ty <;> simp [normT, shape] at h ⊢ <;> exact h
  | ty, .int .., h | ty, .str .., h | ty, .bool .., h | ty, .nils, h | ty, .nilf, h | ty, .gptr .., h | ty, .wide _, h | ty, .word _, h | ty, .undef, h | ty, .own .., h | ty, .oel .., h | ty, .ptr .., h | ty, .sl .., h | ty, .fn .., h
  | ty, .im _, h | ty, .cell _, h | ty, .big _, h | ty, .words _, h | ty, .ints .., h | ty, .tup _, h => by
    cases ty <;> (simp only [normT]; exact h)
theorem shapes_norm : ∀ (fs : List Ty) (ps : List LV), shapes fs ps = true → shapes fs (normTs real fs ps) = true
  | [], [], h | [], _ :: _, h | _ :: _, [], h => by simpa only [normTs] using h
  | f :: fs, p :: ps, h => by
    simp only [shapes, normTs, Bool.and_eq_true] at h ⊢
    exact ⟨shape_norm f p h.1, shapes_norm fs ps h.2⟩
theorem shapeEl_norm : ∀ (e : Ty) (ps : List LV), shapeEl e ps = true → shapeEl e (normEl real e ps) = true
  | _, [], h => by simpa only [normEl] using h
  | e, p :: ps, h => by
    simp only [shapeEl, normEl, Bool.and_eq_true] at h ⊢
    exact ⟨shape_norm e p h.1, shapeEl_norm e ps h.2⟩
end
theorem ofL_tab (bx : Bx) : ∀ (n i k : Nat), k < n → ofL (tabB real bx n i) k = (bx (i + k)).map fun p => (p.1, normT real p.1 p.2)
  | 0, _, _, h => by omega
  | n + 1, i, 0, _ => by
    simp only [tabB, ofL, Nat.add_zero]
    cases bx i <;> rfl
  | n + 1, i, k + 1, h => by
    simp only [tabB, ofL]
    rw [ofL_tab bx n (i + 1) k (by omega)]
    congr 2; omega
theorem okB_spec {base : Nat} {bx : Bx} : ∀ (n : Nat), okB base bx n = true → ∀ k, k < n → ∀ ty c, bx k = some (ty, c) → below base c = true
  | 0, _, k, h, _, _, _ => by omega
  | n + 1, hn, k, h, ty, c, hk => by
    simp only [okB, Bool.and_eq_true] at hn
    by_cases e : k = n
    · subst e; have := hn.1; rw [hk] at this; exact this
    · exact okB_spec n hn.2 k (by omega) ty c hk
theorem cutT_len (base : Nat) (live : List Nat) : ∀ (t : List LV) (i : Nat), (cutT base live t i).length = t.length
  | [], _ => rfl
  | v :: vs, i => by simp [cutT, cutT_len base live vs (i + 1)]
theorem cutT_nth (base : Nat) (live : List Nat) : ∀ (t : List LV) (i j : Nat), nth (cutT base live t i) j = .undef ∨ (below base (nth t j) = true ∧ nth (cutT base live t i) j = ownS live (i + j) (nth t j))
  | [], i, j => .inl (by simp [cutT, nth])
  | v :: vs, i, 0 => by
    simp only [cutT, nth]
    split
    · rename_i h; simp only [Bool.and_eq_true] at h; exact .inr ⟨h.2, rfl⟩
    · exact .inl rfl
  | v :: vs, i, j + 1 => by
    simp only [cutT, nth]
    have := cutT_nth base live vs (i + 1) j
    rw [show i + 1 + j = i + (j + 1) by omega] at this
    exact this
theorem VV_ownS {ρ : Nat → Option Nat} {w : World} {live : List Nat} {i : Nat} {lv : LV} {v : Value} (h : VV ρ w lv v) : VV ρ w (ownS live i lv) v := by
  have key : ∀ k, v = .slice none 0 0 → OwnC ρ w v k [] := fun k hv => by
    subst hv
    exact ⟨by simp, by simp, ⟨0, by simpa using World.ownsRow_nil w 0 0 1⟩, fun b hb => by simp [Value.ownBlock] at hb⟩
  unfold ownS
  split
  · simp only [VV] at h
    split
    · simp only [VV]; exact key _ h
    · split
      · simp only [VV]; exact key _ h
      · split
        · simp only [VV]; exact key _ h
        · simp only [VV]; exact h
  · exact VV_gen _ _ h
theorem flagL_some {live : List Nat} {bx b : Bx} {k : Nat} {c : Ty × LV} (h : b k = some c) : flagL live bx b k = some c := by
  unfold flagL
  cases anyBig live with
  | true => exact flagOn_some h
  | false =>
    cases bx RF with
    | none => exact h
    | some d => exact flagOn_some h
theorem flagL_none {live : List Nat} {bx b : Bx} (h : flagL live bx b RF = none) : bx RF = none := by
  unfold flagL at h
  cases ha : anyBig live with
  | true => rw [ha] at h; exact absurd h (flagOn_on _)
  | false =>
    rw [ha] at h
    cases hb : bx RF with
    | none => rfl
    | some d => rw [hb] at h; exact absurd h (flagOn_on _)

theorem cut_sound {G : List (Nat × Ty × LV)} {ρ : Nat → Option Nat} {st : St} {a : Act} {w : World} (h : StR G ρ st a w) {base : Nat} {live : List Nat} (hok : okB base st.bx base = true) : StR G (cutρ base ρ) (cutS real base live st) a w where
  tmps := ⟨by rw [h.tmps.size]; simp [cutS, cutT_len], fun i => by
    rcases cutT_nth base live st.tmps 0 i with e | ⟨e1, e2⟩
    · show VV _ _ (nth (cutT base live st.tmps 0) i) _
      rw [e]; simp only [VV]
    · show VV _ _ (nth (cutT base live st.tmps 0) i) _
      rw [e2]
      exact VV_ownS (VV_cut _ _ e1 (h.tmps.at_ i))⟩
  defers := h.defers
  bx := by
    refine ⟨fun k b hk => ?_, fun k j b hk hj => h.bx.inj k j b (cutρ_some hk).2 (cutρ_some hj).2, fun b hb => h.bx.row b (cutρ_some hb).2, fun hf => by
      rw [cutρ_lt (by omega)]; exact h.bx.flag (flagL_none hf)⟩
    obtain ⟨hlt, hk⟩ := cutρ_some hk
    have hlt : k < base := by omega
    obtain ⟨ty, lv, cs, t, e1, ⟨e2, e2n⟩, e3, e4⟩ := h.bx.cont k b hk
    refine ⟨ty, normT real ty lv, cs, t, ?_, ⟨shape_norm ty lv e2, e2n⟩, VC_norm _ _ _ (VC_cut _ _ (okB_spec base hok k hlt ty lv e1) e3), e4⟩
    refine flagL_some ?_
    rw [ofL_tab st.bx base 0 k hlt, Nat.zero_add, e1]; rfl
  free := fun k hk => cutρ_ge (by have : base ≤ k := hk; omega)
  gr := ⟨fun g ty c hl => by
    obtain ⟨cs, t, fr, h1, h2, h3, h4⟩ := h.gr.cont g ty c hl
    exact ⟨cs, t, fr, h1, VC_flat _ _ h4 h2, h3, h4⟩, fun g ty c k hl hk => h.gr.apart g ty c k hl (cutρ_some hk).2⟩
theorem adv_cut {ρ0 ρ : Nat → Option Nat} {w0 w : World} (h : AdvW ρ0 w0 ρ w) {base : Nat} (h0 : ∀ k, base ≤ k → ρ0 (k + 1) = none) : AdvW ρ0 w0 (cutρ base ρ) w where
  os := h.os
  tape := h.tape
  output := h.output
  size := h.size
  old := h.old
  ext k b hk := by
    have : k < base := by
      rcases Nat.lt_or_ge k base with hh | hh
      · exact hh
      · rw [h0 k hh] at hk; cases hk
    rw [cutρ_lt (by omega)]; exact h.ext k b hk
  fresh k b hk := h.fresh k b (cutρ_some hk).2
end Go.LE