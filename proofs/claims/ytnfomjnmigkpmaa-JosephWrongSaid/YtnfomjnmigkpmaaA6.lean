/- Operations that only compute, or read: one law for each. -/
import Derived.Test.YtnfomjnmigkpmaaA5
import Derived.Great.FillDense
set_option linter.unusedVariables false
set_option linter.unusedSimpArgs false
namespace Go.Proofs.Ytnfomjnmigkpmaa.A
open Go Go.RowKit

section
variable {P : Program} {w0 w : World} {I0 I : Imm} {β : Nat → Nat} {κ : Nat → Nat × Nat × Nat} {s : St} {sav : List (Array Value)} {a : Act}

theorem ev_R (h : Sim w0 I0 I β κ s sav a w) {x : Operand} {t : TV} (he : ev s x = some t) : R I β κ (tkOf s.tk) t (a.eval x) := by
  cases x with
  | tmp n =>
    obtain ⟨v, hv, hr⟩ := h.tm.get (i := n) he
    have : a.tmps[n]? = some v := by simpa using hv
    simp only [Act.eval, Array.getD_eq_getD_getElem?, this, Option.getD_some]
    exact hr
  | const v => simp only [ev, Option.some.injEq] at he; subst he; exact .v (.s v)
  | func f => simp only [ev, Option.some.injEq] at he; subst he; exact .v (.fn .nil)
  | global g => simp [ev] at he

theorem tov_C {t : TV} {v : Value} {x : PV} {tk : Nat → Nat} (h : R I β κ tk t v) (hx : tov t = some x) : C I x v := by
  cases t with
  | v y => simp only [tov, Option.some.injEq] at hx; subst hx; cases h with | v h => exact h
  | ptr => simp [tov] at hx
  | own => simp [tov] at hx
  | acc t els => simp only [tov, Option.some.injEq] at hx; subst hx; exact h.toC

theorem tovs_C {ts : List TV} {vs : List Value} {xs : List PV} {tk : Nat → Nat} (h : Rs I β κ tk ts vs) (hx : tovs ts = some xs) : Cs I xs vs := by
  induction h generalizing xs with
  | nil => simp only [tovs, Option.some.injEq] at hx; subst hx; exact .nil
  | cons h1 _ ih =>
    simp only [tovs] at hx
    split at hx
    · cases hx
      exact .cons (tov_C h1 ‹_›) (ih ‹_›)
    · cases hx

theorem pv_C (h : Sim w0 I0 I β κ s sav a w) {x : Operand} {p : PV} (he : pv s x = some p) : C I p (a.eval x) := by
  obtain ⟨t, h1, h2⟩ := Option.bind_eq_some_iff.1 he
  exact tov_C (ev_R h h1) h2

theorem pvs_C (h : Sim w0 I0 I β κ s sav a w) : ∀ {xs : List Operand} {ps : List PV}, pvs s xs = some ps → Cs I ps (xs.map a.eval)
  | [], ps, he => by simp only [pvs, Option.some.injEq] at he; subst he; exact .nil
  | x :: xs, ps, he => by
    simp only [pvs] at he
    split at he
    · cases he
      exact .cons (pv_C h ‹_›) (pvs_C h ‹_›)
    · cases he

theorem Rs.drop {tk : Nat → Nat} {xs : List TV} {vs : List Value} (h : Rs I β κ tk xs vs) (n : Nat) : Rs I β κ tk (xs.drop n) (vs.drop n) := by
  induction n generalizing xs vs with
  | zero => simpa using h
  | succ n ih => cases h with
    | nil => simp; exact .nil
    | cons hx hs => simpa using ih hs

theorem Rs.take {tk : Nat → Nat} {xs : List TV} {vs : List Value} (h : Rs I β κ tk xs vs) (n : Nat) : Rs I β κ tk (xs.take n) (vs.take n) := by
  induction n generalizing xs vs with
  | zero => simp; exact .nil
  | succ n ih => cases h with
    | nil => simp; exact .nil
    | cons hx hs => simp; exact .cons hx (ih hs)

theorem Rs.append {tk : Nat → Nat} {xs ys : List TV} {vs us : List Value} (h : Rs I β κ tk xs vs) (k : Rs I β κ tk ys us) : Rs I β κ tk (xs ++ ys) (vs ++ us) := by
  induction h with
  | nil => exact k
  | cons hx _ ih => exact .cons hx ih

theorem Rs.of_Cs {tk : Nat → Nat} {xs : List PV} {vs : List Value} (h : Cs I xs vs) : Rs I β κ tk (xs.map .v) vs := by
  induction xs generalizing vs with
  | nil => cases h; exact .nil
  | cons x xs ih => cases h with | cons hx hs => exact .cons (.v hx) (ih hs)

/-! ### Reading n cells -/
/-- The cells of block b from off on. -/
def CellsAt (w : World) (b off : Nat) (vs : List Value) : Prop := ∀ j v, vs[j]? = some v → w.cell? ⟨b, off + j, none⟩ = some v

theorem cellsAt_of {b off : Nat} {vs : List Value} {cs : Array Value} {ty : TypeId} {fz : Nat × Nat} (hw : w.heap[b]? = some (.cells cs ty fz)) (h : ∃ n, vs = (cs.toList.drop off).take n) : CellsAt w b off vs := by
  intro j v hj
  obtain ⟨n, rfl⟩ := h
  rw [List.getElem?_take] at hj
  split at hj
  · rw [List.getElem?_drop, Array.getElem?_toList] at hj
    simp [World.cell?, hw, hj]
  · cases hj

theorem addr_add (b off j : Nat) : (⟨b, off, none⟩ : Addr).add j = ⟨b, off + j, none⟩ := by unfold Addr.add; split <;> simp_all

theorem run_loadVar_at {t : TypeId} {agg : Bool} {n b off : Nat} {vs : List Value} (hA : tAgg P t = some agg) (hS : tSize P t = some n) (hc : CellsAt w b off vs) (hn : vs.length = n) (h1 : agg = false → n = 1) :
    ∃ v, (loadVar t ⟨b, off, none⟩).run P w = .ok v w ∧ (agg = true → v = .agg vs.toArray) ∧ (agg = false → vs = [v]) := by
  cases agg with
  | true =>
    refine ⟨.agg vs.toArray, ?_, fun _ => rfl, (fun h => by cases h)⟩
    unfold loadVar
    simp only [Sem.run_bind, run_isAgg_of hA, Result.andThen_ok, if_true, run_sizeOf_of hS]
    subst hn
    rw [run_loadCells_list w _ vs (fun j v hj => by rw [addr_add]; exact hc j v hj)]
    rfl
  | false =>
    have := h1 rfl
    subst this
    obtain ⟨v, rfl⟩ := List.length_eq_one_iff.1 hn
    refine ⟨v, ?_, (fun h => by cases h), fun _ => rfl⟩
    unfold loadVar
    have h0 := hc 0 v rfl
    simp only [Nat.add_zero] at h0
    simp only [Sem.run_bind, run_isAgg_of hA, Result.andThen_ok, Bool.false_eq_true, if_false, run_load, h0]

/-- What a load tells. -/
def ldC (agg : Bool) (n : Nat) (cs : List PV) : Option TV :=
  if n ≤ cs.length then (if agg then some (.v (.agg (cs.take n))) else (cs[0]?).map .v) else none

def ldT (agg : Bool) (n off : Nat) (cs : List TV) : Option TV :=
  if off + n ≤ cs.length then (if agg then (tovs ((cs.drop off).take n)).map (fun l => .v (.agg l)) else cs[off]?) else none

def ldA (s : St) (agg : Bool) (n : Nat) : TV → Option TV
  | .v (.vp cs) => ldC agg n cs
  | .ptr b off => match lk b s.bx with
    | some cs => ldT agg n off cs
    | none => match lk b s.ro with
      | some cs => if off ≤ cs.length then ldC agg n (cs.drop off) else none
      | none => none
  | _ => none

theorem ldC_sound {t : TypeId} {agg : Bool} {n b off : Nat} {cs : List PV} {arr : List Value} {tv : TV} {tk : Nat → Nat} (hg : Good I w) (hA : tAgg P t = some agg) (hS : tSize P t = some n) (h1 : agg = false → n = 1)
    (hI : I b = some arr) (hc : Cs I cs ((arr.drop off).take cs.length)) (hl : off + cs.length ≤ arr.length) (h : ldC agg n cs = some tv) :
    ∃ v, (loadVar t ⟨b, off, none⟩).run P w = .ok v w ∧ R I β κ tk tv v := by
  unfold ldC at h
  split at h
  · rename_i hn
    obtain ⟨cs0, ty, fz, more, hw, hcs⟩ := hg b arr hI
    have hat : CellsAt w b off ((arr.drop off).take n) := by
      refine cellsAt_of hw ⟨n, ?_⟩
      rw [hcs, List.drop_append_of_le_length (by omega), List.take_append_of_le_length (by simp; omega)]
    have hlen : ((arr.drop off).take n).length = n := by simp; omega
    have hcn : Cs I (cs.take n) ((arr.drop off).take n) := by
      have := hc.take n
      rwa [List.take_take, Nat.min_eq_left hn] at this
    obtain ⟨v, hr, hv1, hv2⟩ := run_loadVar_at hA hS hat hlen h1
    refine ⟨v, hr, ?_⟩
    cases agg with
    | true =>
      simp only [if_true, Option.some.injEq] at h
      subst h
      rw [hv1 rfl]
      exact .v (.agg (by simpa using hcn))
    | false =>
      simp only [Bool.false_eq_true, if_false, Option.map_eq_some_iff] at h
      obtain ⟨x, hx, rfl⟩ := h
      obtain ⟨v', hv', hxv⟩ := hcn.get (i := 0) (x := x) (by rw [List.getElem?_take]; have := h1 rfl; simp [this, hx])
      rw [hv2 rfl] at hv'
      simp at hv'
      subst hv'
      exact .v hxv
  · cases h

theorem ldA_sound (h : Sim w0 I0 I β κ s sav a w) {t : TypeId} {agg : Bool} {n : Nat} {p tv : TV} {x : Operand} (hA : tAgg P t = some agg) (hS : tSize P t = some n) (h1 : agg = false → n = 1) (hp : ev s x = some p) (hl : ldA s agg n p = some tv) :
    ∃ v, (Instr.loadAt t (a.eval x)).run P w = .ok v w ∧ R I β κ (tkOf s.tk) tv v := by
  have hR := ev_R h hp
  unfold ldA at hl
  split at hl
  · rename_i cs
    cases hR with
    | v hC =>
      generalize a.eval x = u at hC
      cases hC with
      | vp hI hc hlen =>
        obtain ⟨v, hr, hv⟩ := ldC_sound h.good hA hS h1 hI hc hlen hl
        exact ⟨v, by simpa [Instr.loadAt, Instr.sureAddr] using hr, hv⟩
  · rename_i b off
    generalize a.eval x = u at hR
    cases hR
    split at hl
    · rename_i cells hb
      obtain ⟨_, _, cs, ty, hw, hcs, _⟩ := h.box b cells hb
      unfold ldT at hl
      split at hl
      · rename_i hn
        have hlen : cells.length = cs.toList.length := hcs.length
        have hat : CellsAt w (β b) off ((cs.toList.drop off).take n) := cellsAt_of hw ⟨n, rfl⟩
        obtain ⟨v, hr, hv1, hv2⟩ := run_loadVar_at hA hS hat (by simp only [List.length_take, List.length_drop]; omega) h1
        refine ⟨v, by simpa [Instr.loadAt, Instr.sureAddr] using hr, ?_⟩
        cases agg with
        | true =>
          simp only [if_true, Option.map_eq_some_iff] at hl
          obtain ⟨l, hl, rfl⟩ := hl
          rw [hv1 rfl]
          exact .v (.agg (by simpa using tovs_C ((hcs.drop off).take n) hl))
        | false =>
          simp only [Bool.false_eq_true, if_false] at hl
          have hn1 := h1 rfl
          obtain ⟨v', hv', hxv⟩ := hcs.get (i := off) hl
          have e := hv2 rfl
          have e2 : ((cs.toList.drop off).take n)[0]? = some v' := by
            rw [List.getElem?_take, List.getElem?_drop]
            simp only [hn1, Nat.zero_lt_one, if_true, Nat.add_zero]
            exact hv'
          rw [e] at e2
          simp at e2
          subst e2
          exact hxv
      · cases hl
    · split at hl
      · rename_i cells hb
        obtain ⟨arr, hI, hc, hlen⟩ := h.rob b cells hb
        have hc' : Cs I (cells.drop off) ((arr.drop off).take (cells.drop off).length) := by
          have := hc.drop off
          rw [List.drop_take] at this
          simpa using this
        split at hl
        · rename_i hoff
          obtain ⟨v, hr, hv⟩ := ldC_sound (β := β) (κ := κ) (tk := tkOf s.tk) h.good hA hS h1 hI hc' (by simp only [List.length_drop]; omega) hl
          exact ⟨v, by simpa [Instr.loadAt, Instr.sureAddr] using hr, hv⟩
        · cases hl
      · cases hl
  · cases hl

end
end Go.Proofs.Ytnfomjnmigkpmaa.A
