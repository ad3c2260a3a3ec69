/- The law of 'valA'. -/
import Derived.Test.YtnfomjnmigkpmaaA10
set_option linter.unusedVariables false
set_option linter.unusedSimpArgs false
namespace Go.Proofs.Ytnfomjnmigkpmaa.A
open Go Go.RowKit

section
variable {P : Program} {w0 w : World} {I0 I : Imm} {β : Nat → Nat} {κ : Nat → Nat × Nat × Nat} {s : St} {sav : List (Array Value)} {a : Act} {tk : Nat → Nat}

theorem un_sound {op : UnOp} {p : PV} {u : Value} {tv : TV} (hp : C I p u) (h : unA op p = some tv) : ∃ v, (Op.unary op u).run P w = .ok v w ∧ R I β κ tk tv v := by
  unfold unA at h
  split at h
  · cases h; obtain rfl := hp.inv_s; exact ⟨_, rfl, .v (.s _)⟩
  · cases h; obtain rfl := hp.inv_s; exact ⟨_, rfl, .v (.s _)⟩
  · cases h; obtain rfl := hp.inv_s; exact ⟨_, rfl, .v (.s _)⟩
  · cases h

theorem run_places : ∀ (fs : List Field) (ps : List (Nat × Nat)), placesOk P fs ps = true → (fs.mapM fun f => do pure (f.offset, ← sizeOf f.type) : Sem (List (Nat × Nat))).run P w = .ok ps w
  | [], [], _ => rfl
  | f :: fs, p :: ps, h => by
    simp only [placesOk, Bool.and_eq_true, beq_iff_eq] at h
    have ih := run_places fs ps h.2
    simp only [List.mapM_cons, Sem.run_bind, run_sizeOf_of h.1.2, Result.andThen_ok, Sem.run_pure, ih]
    rw [← h.1.1]
  | [], _ :: _, h => by simp [placesOk] at h
  | _ :: _, [], h => by simp [placesOk] at h

theorem build_sound {t : TypeId} {i : Inf} {parts : Array (Nat × Operand)} {ps l : List PV} (h : Sim w0 I0 I β κ s sav a w) (hi : infOk P (.build t parts) i = true) (hp : pvs s (parts.toList.map (·.2)) = some ps)
    (hf : fillA i.places (i.zero.map .s) ((parts.toList.map (·.1)).zip ps) = some l) : ∃ v, (Instr.build t (parts.map fun (i, x) => (i, a.eval x))).run P w = .ok v w ∧ C I (.agg l) v := by
  simp only [infOk] at hi
  split at hi
  · rename_i fs z hu hz
    simp only [Bool.and_eq_true] at hi
    obtain ⟨hpl, hze⟩ := hi
    have hzero := constsEq_eq hze
    have hC := pvs_C h hp
    have hlen : ps.length = parts.size := by have := hC.length; simpa using this
    have hc0 : ∀ (l : List Value), Cs I (l.map .s) l := fun l => by
      induction l with
      | nil => exact .nil
      | cons x l ih => exact .cons (.s x) ih
    have e1 : ((parts.toList.map (·.1)).zip ps).map (·.1) = (parts.map fun (i, x) => (i, a.eval x)).toList.map (·.1) := by
      rw [List.map_fst_zip (by simp [hlen])]
      simp [Function.comp_def]
    have e2 : Cs I (((parts.toList.map (·.1)).zip ps).map (·.2)) ((parts.map fun (i, x) => (i, a.eval x)).toList.map (·.2)) := by
      rw [List.map_snd_zip (by simp [hlen])]
      simpa [Function.comp_def] using hC
    obtain ⟨r, hr, hl⟩ := fill_sound (I := I) (places := i.places) (cs := z) (by rw [← hzero]; exact hc0 _) e1 e2 hf
    refine ⟨.agg r, ?_, .agg hl⟩
    have hrun : (fs.mapM fun f => do pure (f.offset, ← sizeOf f.type) : Sem (Array (Nat × Nat))).run P w = .ok i.places.toArray w := by
      rw [Array.mapM_eq_mapM_toList]
      have := run_places (w := w) fs.toList i.places hpl
      simp only [Sem.run_map, this, Result.andThen_ok]
    have hr' : Instr.fill (fun x => i.places.toArray[x]?) z (parts.map fun (i, x) => (i, a.eval x)).toList = some r := by simpa using hr
    simp only [Instr.build, Sem.run_bind, run_zero_of hz, run_underlying hu, Result.andThen_ok, Value.cells, hrun, hr']
    rfl
  · cases hi

theorem run_valA {o : Oper} {i : Inf} {tv : TV} (h : Sim w0 I0 I β κ s sav a w) (hi : infOk P o.op i = true) (hv : valA s o.op i = some tv) :
    ∃ v, (execOp a.eval o).run P w = .ok (.value v) w ∧ R I β κ (tkOf s.tk) tv v := by
  obtain ⟨dst, op, type, pos, after, guard⟩ := o
  simp only at hi hv
  unfold valA at hv
  split at hv
  · exact ⟨_, rfl, ev_R h hv⟩
  · exact ⟨_, rfl, ev_R h hv⟩
  · rename_i c x y
    split at hv
    · rename_i t ht
      have hc := (pv_C h ht).inv_s
      refine ⟨if t then a.eval x else a.eval y, ?_, ?_⟩
      · simp [execOp, hc, asBool]
      · cases t
        · simpa using ev_R h hv
        · simpa using ev_R h hv
    · cases hv
  · rename_i t x
    obtain ⟨p, h1, h2⟩ := Option.bind_eq_some_iff.1 hv
    simp only [infOk, Bool.and_eq_true, beq_iff_eq, Bool.or_eq_true] at hi
    have hone : i.agg = false → i.n = 1 := by
      intro e
      rcases hi.2 with e' | e'
      · rw [e] at e'; cases e'
      · exact e'
    obtain ⟨v, hr, hR⟩ := ldA_sound h hi.1.1 hi.1.2 hone h1 h2
    exact ⟨v, by simp [execOp, hr], hR⟩
  · rename_i t x f
    obtain ⟨p, h1, h2⟩ := Option.bind_eq_some_iff.1 hv
    simp only [infOk] at hi
    split at hi
    · rename_i fd hfd
      simp only [Bool.and_eq_true, beq_iff_eq] at hi
      obtain ⟨ho, hn⟩ := hi
      split at hn
      · rename_i n hn'
        obtain ⟨v, hr, hR⟩ := fieldAddr_sound (w := w) hfd ho hn' (by simpa using hn) (ev_R h h1) h2
        exact ⟨v, by simp [execOp, hr], hR⟩
      · cases hn
    · cases hi
  · rename_i t x f
    obtain ⟨p, h1, h2⟩ := Option.bind_eq_some_iff.1 hv
    simp only [infOk] at hi
    split at hi
    · rename_i fd hfd
      simp only [Bool.and_eq_true, beq_iff_eq] at hi
      obtain ⟨⟨ho, hA⟩, hS⟩ := hi
      have hC := pv_C h h1
      cases p with
      | agg l =>
        obtain ⟨cs, he, hcs⟩ := hC.inv_agg
        obtain ⟨v, hr, hR⟩ := part_sound (P := P) (w := w) (β := β) (κ := κ) (tk := tkOf s.tk) hA hS hcs h2
        obtain ⟨fs, hu, hfs⟩ := tField_of hfd
        rw [← ho] at hr
        exact ⟨v, by simp [execOp, Instr.field, run_underlying hu, hfs, he, asAgg, hr], hR⟩
      | _ => simp [fieldA] at h2
    · cases hi
  · rename_i t x k
    split at hv
    · rename_i p q hp hq
      simp only [infOk] at hi
      split at hi
      · rename_i e he
        simp only [beq_iff_eq] at hi
        obtain ⟨v, hr, hR⟩ := idxA_sound (P := P) (w := w) (β := β) (κ := κ) (tk := tkOf s.tk) he hi (ev_R h hp) (pv_C h hq) hv
        exact ⟨v, by simp [execOp, hr], hR⟩
      · cases hi
    · cases hv
  · rename_i t x k
    split at hv
    · rename_i p kk j hp hq
      split at hv
      · rename_i hj
        simp only [infOk] at hi
        split at hi
        · rename_i len e hu
          simp only [Bool.and_eq_true, beq_iff_eq] at hi
          obtain ⟨⟨hl, hA⟩, hS⟩ := hi
          have hC := pv_C h hp
          cases p with
          | agg l =>
            obtain ⟨cs, he, hcs⟩ := hC.inv_agg
            obtain ⟨v, hr, hR⟩ := part_sound (P := P) (w := w) (β := β) (κ := κ) (tk := tkOf s.tk) hA hS hcs hv
            have hk := (pv_C h hq).inv_s
            have hj' : 0 ≤ j ∧ j < (len : Int) := by rw [hl]; exact hj
            exact ⟨v, by simp [execOp, Instr.index, asIntOf, run_underlying hu, he, hk, hj', run_sizeOf_of hS, hr], hR⟩
          | _ => simp [fieldA] at hv
        · cases hi
      · cases hv
    · cases hv
  · rename_i op t x y yt
    split at hv
    · rename_i p q hp hq
      obtain ⟨r, h1, h2, hR⟩ := run_bin (P := P) (w := w) (x := x) (y := y) (ev_R h hp) (ev_R h hq) hv hi
      exact ⟨r, by simp [execOp, h1, h2], hR⟩
    · cases hv
  · rename_i op t x
    obtain ⟨p, h1, h2⟩ := Option.bind_eq_some_iff.1 hv
    obtain ⟨v, hr, hR⟩ := un_sound (P := P) (w := w) (β := β) (κ := κ) (tk := tkOf s.tk) (pv_C h h1) h2
    exact ⟨v, by simp [execOp, hr], hR⟩
  · rename_i t x
    obtain ⟨p, h1, rfl⟩ := Option.map_eq_some_iff.1 hv
    simp only [infOk] at hi
    refine ⟨.iface t (a.eval x), ?_, .v (.ifc (pv_C h h1))⟩
    cases hu : P.underlying t with
    | none => simp [hu] at hi
    | some d =>
      cases d <;> simp [hu] at hi <;> simp [execOp, Instr.makeInterface, run_underlying hu]
  · rename_i x k
    split at hv
    · rename_i l hl
      obtain ⟨y, hy, rfl⟩ := Option.map_eq_some_iff.1 hv
      have hC := pv_C h hl
      generalize he : a.eval x = u at hC
      cases hC with
      | @tup _ arr hcs =>
        obtain ⟨v, hv', hyv⟩ := hcs.get hy
        rw [Array.getElem?_toList] at hv'
        exact ⟨v, by simp [execOp, Instr.extract, he, hv'], .v hyv⟩
    · cases hv
  · rename_i fn first caps
    split at hv
    · rename_i hfirst
      obtain ⟨l, hl, rfl⟩ := Option.map_eq_some_iff.1 hv
      have e : first = #[] := by
        obtain ⟨first⟩ := first
        simpa using hfirst
      subst e
      refine ⟨.func fn #[] (caps.map a.eval), by simp [execOp, Instr.makeFunc], .v (.fn ?_)⟩
      simpa using caps_C h hl
    · cases hv
  · rename_i t parts
    split at hv
    · rename_i ps hp
      obtain ⟨l, hl, rfl⟩ := Option.map_eq_some_iff.1 hv
      obtain ⟨v, hr, hC⟩ := build_sound h hi hp hl
      exact ⟨v, by simp [execOp, hr], .v hC⟩
    · cases hv
  · rename_i t x lo hi' mx
    split at hv
    · rename_i ex els l hh m hp hl hhh hm
      obtain ⟨r, hr, rfl⟩ := Option.map_eq_some_iff.1 hv
      simp only [infOk] at hi
      split at hi
      · rename_i e he
        simp only [beq_iff_eq] at hi
        have hev : ∀ y p, pv s y = some p → C I p (a.eval y) := fun y p hy => pv_C h hy
        obtain ⟨v, hrun, hC⟩ := slice_sound (P := P) (w := w) he hi (pv_C h hp) (bnd_of (a := a) hl hev) (bnd_of (a := a) hhh hev) (bnd_of (a := a) hm hev) hr
        exact ⟨v, by simp [execOp, hrun], .v hC⟩
      · cases hi
    · cases hv
  · rename_i src dst' x
    split at hv
    · rename_i kk n k hp hk
      cases hv
      simp only [infOk, hk] at hi
      split at hi
      · rename_i h1 h2 h3
        simp only [List.cons.injEq, Option.some.injEq, and_true] at h3
        simp only [beq_iff_eq] at hi
        subst h3
        subst hi
        have hx := (pv_C h hp).inv_s
        exact ⟨_, by simp [execOp, convert, run_underlying h1, run_underlying h2, hx, Conv.intToInt], .v (.s _)⟩
      · cases hi
    · cases hv
  · rename_i c
    obtain ⟨callee, args, argTypes⟩ := c
    split at hv
    · rename_i x hcal hargs
      simp only at hcal hargs
      subst hcal
      obtain ⟨p, h1, h2⟩ := Option.bind_eq_some_iff.1 hv
      simp only [infOk] at hi
      have ha : args = #[x] := by obtain ⟨args⟩ := args; simpa using hargs
      subst ha
      split at hi
      · rename_i t _ hts
        obtain ⟨e, he⟩ := Option.isSome_iff_exists.1 hi
        have hat : argTypes = #[t] := by obtain ⟨argTypes⟩ := argTypes; simpa using hts
        subst hat
        obtain ⟨v, hr, hR⟩ := len_sound (P := P) (w := w) (β := β) (κ := κ) (tk := tkOf s.tk) he (pv_C h h1) h2
        refine ⟨v, ?_, hR⟩
        have : (Builtin.len_ #[t] type #[a.eval x]).run P w = .ok v w := hr
        simp [execOp, resolve, invoke, builtin, this]
      · cases hi
      · rename_i h1 _
        exact (h1 rfl).elim
    · obtain ⟨r, hr, rfl⟩ := Option.map_eq_some_iff.1 hv
      obtain ⟨ps, hp, hx⟩ := Option.bind_eq_some_iff.1 hr
      rename_i hcal
      subst hcal
      have := extreme_sound (P := P) (w := w) true ps _ r (pvs_C h hp) hx argTypes type
      refine ⟨r, ?_, .v (.s r)⟩
      simp only [if_true] at this
      have e : (args.toList.map a.eval).toArray = args.map a.eval := by rw [← Array.toList_map, Array.toArray_toList]
      rw [e] at this
      simp [execOp, resolve, invoke, builtin, this]
    · obtain ⟨r, hr, rfl⟩ := Option.map_eq_some_iff.1 hv
      obtain ⟨ps, hp, hx⟩ := Option.bind_eq_some_iff.1 hr
      rename_i hcal
      subst hcal
      have := extreme_sound (P := P) (w := w) false ps _ r (pvs_C h hp) hx argTypes type
      refine ⟨r, ?_, .v (.s r)⟩
      simp only [Bool.false_eq_true, if_false] at this
      have e : (args.toList.map a.eval).toArray = args.map a.eval := by rw [← Array.toList_map, Array.toArray_toList]
      rw [e] at this
      simp [execOp, resolve, invoke, builtin, this]
    · cases hv
  · cases hv

end
end Go.Proofs.Ytnfomjnmigkpmaa.A
