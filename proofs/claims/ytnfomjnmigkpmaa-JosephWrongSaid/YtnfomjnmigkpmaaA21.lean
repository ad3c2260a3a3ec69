/- Contracts out of what is told. -/
import Derived.Test.YtnfomjnmigkpmaaA20
set_option linter.unusedVariables false
set_option linter.unusedSimpArgs false
namespace Go.Proofs.Ytnfomjnmigkpmaa.A
open Go Go.RowKit Go.Shelf

/-- A result, as it is told. -/
def res1 (s : St) : ResultVar → Bool × Nat → Option PV
  | .tmp t, _ => (s.tm[t]?).bind tov
  | .cell a _, q => ((s.tm[a]?).bind (ldA s q.1 q.2)).bind tov

def resAll (s : St) : List ResultVar → List (Bool × Nat) → Option (List PV)
  | [], [] => some []
  | v :: vs, q :: qs => match res1 s v q, resAll s vs qs with
    | some x, some xs => some (x :: xs)
    | _, _ => none
  | _, _ => none

def packR : List PV → PV
  | [x] => x
  | l => .tup l

def rinfOk (P : Program) : List ResultVar → List (Bool × Nat) → Bool
  | [], [] => true
  | .tmp _ :: vs, _ :: qs => rinfOk P vs qs
  | .cell _ t :: vs, q :: qs => tAgg P t == some q.1 && tSize P t == some q.2 && (q.1 || q.2 == 1) && rinfOk P vs qs
  | _, _ => false

/-- The state as a call begins. -/
def initS (args : List PV) (n : Nat) : St := { tm := args.map .v ++ List.replicate (n - args.length) (.v .junk), bx := [], ro := [], tk := [], sv := [] }

def RetQ (vs : List ResultVar) (qs : List (Bool × Nat)) (r : PV) : XA → St → Prop
  | .exit _, _ => False
  | _, s => (resAll s vs qs).map packR = some r

section
variable {P : Program}
variable {w0 w w' : World} {I0 I J : Imm} {β : Nat → Nat} {κ : Nat → Nat × Nat × Nat} {s s' : St} {sav : List (Array Value)} {a : Act}

theorem run_res1 (h : Sim w0 I0 I β κ s sav a w) {v : ResultVar} {q : Bool × Nat} {x : PV} (hq : rinfOk P [v] [q] = true) (hx : res1 s v q = some x) :
    ∃ u, (match v with | .tmp t => pure (a.tmps.getD t undef) | .cell c t => do loadVar t (← asAddr (a.tmps.getD c undef)) : Sem Value).run P w = .ok u w ∧ C I x u := by
  cases v with
  | tmp t =>
    obtain ⟨tv, h1, h2⟩ := Option.bind_eq_some_iff.1 hx
    exact ⟨_, rfl, tov_C (ev_R (x := .tmp t) h h1) h2⟩
  | cell c t =>
    obtain ⟨tv, h1, h2⟩ := Option.bind_eq_some_iff.1 hx
    obtain ⟨p, h3, h4⟩ := Option.bind_eq_some_iff.1 h1
    simp only [rinfOk, Bool.and_eq_true, beq_iff_eq, Bool.or_eq_true, and_true] at hq
    have hone : q.1 = false → q.2 = 1 := by
      intro e
      rcases hq.2 with e' | e'
      · rw [e] at e'; cases e'
      · exact e'
    obtain ⟨u, hu, hR⟩ := ldA_sound (x := .tmp c) h hq.1.1 hq.1.2 hone h3 h4
    refine ⟨u, ?_, tov_C hR h2⟩
    have haddr : ∃ ad, a.tmps.getD c undef = .pointer (some ad) := by
      have hev := ev_R (x := .tmp c) h h3
      have e : a.eval (.tmp c) = a.tmps.getD c undef := rfl
      rw [e] at hev
      revert hev h4
      generalize a.tmps.getD c undef = u'
      intro h4 hev
      unfold ldA at h4
      split at h4
      · cases hev.inv; exact ⟨_, rfl⟩
      · cases hev; exact ⟨_, rfl⟩
      · cases h4
    obtain ⟨ad, had⟩ := haddr
    have e : a.eval (.tmp c) = .pointer (some ad) := had
    rw [e] at hu
    simp only [Instr.loadAt, Instr.sureAddr, Sem.run_bind, Sem.run_pure, Result.andThen_ok] at hu
    show (do loadVar t (← asAddr (a.tmps.getD c undef)) : Sem Value).run P w = _
    rw [had]
    simpa [asAddr] using hu

theorem run_resAll (h : Sim w0 I0 I β κ s sav a w) : ∀ {vs : List ResultVar} {qs : List (Bool × Nat)} {xs : List PV}, rinfOk P vs qs = true → resAll s vs qs = some xs →
    ∃ us, (vs.mapM fun | .tmp t => pure (a.tmps.getD t undef) | .cell c t => do loadVar t (← asAddr (a.tmps.getD c undef)) : Sem (List Value)).run P w = .ok us w ∧ Cs I xs us
  | [], [], xs, _, hx => by simp only [resAll, Option.some.injEq] at hx; subst hx; exact ⟨[], rfl, .nil⟩
  | v :: vs, q :: qs, xs, hq, hx => by
    simp only [resAll] at hx
    split at hx
    · rename_i y ys h1 h2
      cases hx
      have hq1 : rinfOk P [v] [q] = true ∧ rinfOk P vs qs = true := by
        cases v with
        | tmp t => exact ⟨rfl, hq⟩
        | cell c t => simp only [rinfOk, Bool.and_eq_true, and_true] at hq ⊢; exact ⟨hq.1, hq.2⟩
      obtain ⟨u, hu, hC⟩ := run_res1 h hq1.1 h1
      obtain ⟨us, hus, hCs⟩ := run_resAll h hq1.2 h2
      refine ⟨u :: us, ?_, .cons hC hCs⟩
      simp only [List.mapM_cons, Sem.run_bind]
      rw [hu]
      simp only [Result.andThen_ok, Sem.run_bind]
      rw [hus]
      rfl
    · cases hx
  | [], _ :: _, _, hq, _ => by simp [rinfOk] at hq
  | _ :: _, [], _, hq, _ => by rename_i v vs _; cases v <;> simp [rinfOk] at hq

theorem run_results (h : Sim w0 I0 I β κ s sav a w) {fn : Func} {qs : List (Bool × Nat)} {r : PV} (hq : rinfOk P fn.results.toList qs = true) (hr : (resAll s fn.results.toList qs).map packR = some r) :
    ∃ u, (results fn a.tmps).run P w = .ok u w ∧ C I r u := by
  obtain ⟨xs, hx, rfl⟩ := Option.map_eq_some_iff.1 hr
  obtain ⟨us, hus, hC⟩ := run_resAll h hq hx
  have hrun : (results fn a.tmps).run P w = .ok (match us with | [v] => v | _ => .tuple us.toArray) w := by
    unfold results
    rw [Array.mapM_eq_mapM_toList]
    simp only [Sem.run_bind, Sem.run_map]
    refine (congrArg (fun x => (Result.andThen x _).andThen _) (Eq.trans ?_ hus)).trans ?_
    · congr 2
    · simp only [Result.andThen_ok, Sem.run_pure]
      match us with
      | [] => rfl
      | [v] => rfl
      | _ :: _ :: _ => simp
  refine ⟨_, hrun, ?_⟩
  cases hC with
  | nil => exact .tup .nil
  | cons h1 h2 => cases h2 with
    | nil => exact h1
    | cons h2 h3 => exact .tup (.cons h1 (.cons h2 h3))

theorem Sim.putOther (h : Sim w0 I0 I β κ s sav a w) {l : Nat} {o o' : Obj} (hl : w.heap[l]? = some o) (ho : o.isCells = false) (hb : w0.heap.size ≤ l) {df : List Deferred}
    (hd : ∃ Ds : List Nat, df = Ds.map (fun D => { target := .collected D, args := #[] }) ∧ Ds.Nodup ∧ ∀ D ∈ Ds, w0.heap.size ≤ D ∧ (w.putObj l o').heap[D]? = some (.deferred (some []))) :
    Sim w0 I0 I β κ s sav { tmps := a.tmps, defers := df } (w.putObj l o') := by
  have hon := OnlyAt.putObj w l o'
  exact
    { below := h.below.trans (hon.below hb)
      good := fun b arr hI => by
        obtain ⟨cs, ty, fz, more, h1, h2⟩ := h.good b arr hI
        exact ⟨cs, ty, fz, more, (hon.block b (fun e => by rw [e, hl] at h1; cases h1; cases ho)).trans h1, h2⟩
      ext := h.ext
      old := h.old
      tm := h.tm
      sv := h.sv
      box := fun b cells hc => by
        obtain ⟨h1, h2, cs, ty, h3, h4⟩ := h.box b cells hc
        exact ⟨h1, h2, cs, ty, (hon.block _ (fun e => by rw [e, hl] at h3; cases h3; cases ho)).trans h3, h4⟩
      rob := h.rob
      inj := h.inj
      tok := fun t ht => by
        obtain ⟨h1, cs, ty, arr, h3, h4⟩ := h.tok t ht
        exact ⟨h1, cs, ty, arr, (hon.block _ (fun e => by rw [e, hl] at h3; cases h3; cases ho)).trans h3, h4⟩
      tinj := h.tinj
      dfr := hd }

/-- What a call leaves. -/
def Left (w0 : World) (I0 : Imm) (r : PV) (e : Ending) (w' : World) : Prop := ∃ v J, e = .returned v ∧ Below w0.heap.size w0 w' ∧ I0.le J ∧ Good J w' ∧ (∀ b, b < w0.heap.size → J b = I0 b) ∧ C J r v

theorem leaves_of {F : Fence} {n : Nat} {fn : Func} {qs : List (Bool × Nat)} {r : PV} (hq : rinfOk P fn.results.toList qs = true) (hr : (resAll s fn.results.toList qs).map packR = some r) : ∀ (Ds : List Nat) (w : World), Ds.Nodup → (∀ D ∈ Ds, w0.heap.size ≤ D ∧ w.heap[D]? = some (.deferred (some []))) →
    Sim w0 I0 I β κ s sav { tmps := a.tmps, defers := Ds.map (fun D => { target := .collected D, args := #[] }) } w → LeavesInM F n P fn a.tmps (Left w0 I0 r) (Ds.map (fun D => { target := .collected D, args := #[] })) .returning w
  | [], w, _, _, h => by
    obtain ⟨u, hu, hC⟩ := run_results h hq hr
    exact ⟨u, hu, u, I, rfl, h.below, h.ext, h.good, h.old, hC⟩
  | D :: Ds, w, hnd, hD, h => by
    obtain ⟨hn1, hn2⟩ := List.nodup_cons.1 hnd
    have hD0 := hD D (by simp)
    have hrest : ∀ D' ∈ Ds, w0.heap.size ≤ D' ∧ (w.putObj D (.deferred none)).heap[D']? = some (.deferred (some [])) := fun D' hm => by
      have := hD D' (by simp [hm])
      exact ⟨this.1, by rw [World.putObj_heap_other (fun e => hn1 (by rw [← e]; exact hm))]; exact this.2⟩
    refine ⟨by simp, .inl ⟨D, _, rfl, run_takeDeferred hD0.2, leaves_of hq hr Ds _ hn2 hrest ?_⟩⟩
    exact h.putOther hD0.2 rfl hD0.1 ⟨Ds, rfl, hn2, hrest⟩

theorem initS_sim {vs : List Value} {args : List PV} (n : Nat) (hg : Good I w) (hc : Cs I args vs) :
    Sim w I I (fun _ => 0) (fun _ => (0, 0, 0)) (initS args n) [] { tmps := vs.toArray ++ Array.replicate (n - vs.toArray.size) undef, defers := [] } w where
  below := Below.refl _ _
  good := hg
  ext := Imm.le_refl _
  old := fun _ _ => rfl
  tm := by
    have hl := hc.length
    have hj : ∀ k, Rs I (fun _ => 0) (fun _ => (0, 0, 0)) (tkOf []) (List.replicate k (.v .junk)) (List.replicate k undef) := fun k => by
      induction k with
      | zero => exact .nil
      | succ k ih => exact .cons (.v (.junk _)) ih
    have := (Rs.of_Cs (β := fun _ => 0) (κ := fun _ => (0, 0, 0)) (tk := tkOf []) hc).append (hj (n - args.length))
    simpa [initS, hl] using this
  sv := .nil
  box := fun b c hb => by simp [initS, lk] at hb
  rob := fun b c hb => by simp [initS, lk] at hb
  inj := fun b b' c c' hb => by simp [initS, lk] at hb
  tok := fun t ht => by simp [initS, tkOf, lk] at ht
  tinj := fun t t' ht => by simp [initS, tkOf, lk] at ht
  dfr := ⟨[], rfl, List.nodup_nil, by simp⟩

/-- A FUNCTION's CONTRACT, out of what its code tells. -/
theorem ok_of {f : FuncId} {fn : Func} {code : Code} {ac : AC} {qs : List (Bool × Nat)} {args : List PV} {r : PV} (hf : P.funcs[f]? = some fn) (hname : (fn.name == "runtime.NumGoroutine") = false) (hb : fn.body = some code) (hag : Ag P ac code)
    (hq : rinfOk P fn.results.toList qs = true) (hwp : wpA P none ac (RetQ fn.results.toList qs r) (initS args fn.ntmps)) : Ok P f args r := by
  refine ⟨enters_of hf hname hb, fun I w vs hg hc => ?_⟩
  refine (callsIn_wide (n := 0)).1 ?_
  refine (callsIn_of_wp_marks (R := Left w I r) hf hb trivial ?_ rfl).mono ?_
  · have hs := sound ac code hag none w I (fun _ _ _ => True) none (fun _ _ e => by cases e) (fun _ => rfl) _ I w (initS args fn.ntmps) [] { tmps := vs.toArray ++ Array.replicate (fn.ntmps - vs.toArray.size) undef, defers := [] } hwp (fun _ e => by cases e)
      ⟨(fun e => by cases e), w, I, _, _, ⟨rfl, rfl⟩, initS_sim fn.ntmps hg hc⟩
    refine wpIn_mono hs ?_
    intro e a2 w2 hp
    have fin : ∀ {xa : XA}, (xa = .normal ∨ xa = .ret) → (∃ s' J, RetQ fn.results.toList qs r xa s' ∧ I.le J ∧ (none (α := Nat × List (List PV)) = none → KeepsOthers w w2) ∧ Sat none (Base none w I (fun _ _ _ => True)) J s' [] a2 w2) →
        LeavesInM Fence.wide 0 P fn a2.tmps (Left w I r) a2.defers .returning w2 := by
      rintro xa hxa ⟨s', J, hr, hle, _, _, w1, I1, β1, κ1, ⟨rfl, rfl⟩, hS⟩
      have hr' : (resAll s' fn.results.toList qs).map packR = some r := by rcases hxa with rfl | rfl <;> exact hr
      obtain ⟨Ds, d1, d2, d3⟩ := hS.dfr
      obtain ⟨tms, dfs⟩ := a2
      simp only at d1
      subst d1
      exact leaves_of (a := ⟨tms, _⟩) hq hr' Ds w2 d2 d3 hS
    cases e with
    | normal => exact fin (.inl rfl) hp
    | ret => exact fin (.inr rfl) hp
    | exit id => obtain ⟨s', J, hr, _⟩ := hp; exact hr.elim
    | goto _ => exact hp.elim
    | panic _ => exact hp.elim
    | outgrown => exact hp.elim
  · rintro e w' ⟨v, J, h1, h2, h3, h4, h5, h6⟩
    exact ⟨v, J, h1, h2, h3, h4, h5, h6⟩

/-- AN ITERATOR's CONTRACT, out of what its code tells. -/
theorem iter_of {f : FuncId} {fn : Func} {code : Code} {ac : AC} {caps : List PV} {items : List (List PV)} (hf : P.funcs[f]? = some fn) (hname : (fn.name == "runtime.NumGoroutine") = false) (hb : fn.body = some code) (hag : Ag P ac code)
    (hq : fn.results.toList = [])
    (hwp : ∀ l, wpA P (some (l, items)) ac (fun e s => match e with | .exit _ => False | _ => s.it = items.length ∨ s.it = items.length + 1) (initS (.fn (.yield l) [] :: caps) fn.ntmps)) : IterOk P (.fn (.func f) caps) items := by
  refine ⟨f, caps, rfl, enters_of hf hname hb, fun I w cs hg hc l J hab hround hJ0 => ?_⟩
  refine (callsIn_wide (n := 0)).1 ?_
  have hctx : Ctx P (some (l, items)) J := fun l' xs e => by cases e; exact ⟨hab, hround⟩
  have hall : Cs I (.fn (.yield l) [] :: caps) (.func (.yield l) #[] #[] :: cs) := .cons (.fn .nil) hc
  have e1 : #[Value.func (.yield l) #[] #[]] ++ cs.toArray = (Value.func (.yield l) #[] #[] :: cs).toArray := by simp
  rw [e1]
  refine callsIn_of_wp hf hb trivial ?_ rfl
  have hs := sound ac code hag (some (l, items)) w I J none hctx (fun e => by cases e) _ I w (initS (.fn (.yield l) [] :: caps) fn.ntmps) [] { tmps := (Value.func (.yield l) #[] #[] :: cs).toArray ++ Array.replicate (fn.ntmps - (Value.func (.yield l) #[] #[] :: cs).toArray.size) undef, defers := [] }
    (hwp l) (fun _ e => by cases e) ⟨fun _ => rfl, w, I, _, _, ⟨hJ0, Imm.le_refl _⟩, initS_sim fn.ntmps hg hall⟩
  refine wpIn_mono hs ?_
  intro e a2 w2 hp
  have fin : (∃ s' J', (s'.it = items.length ∨ s'.it = items.length + 1) ∧ I.le J' ∧ (some (l, items) = none → KeepsOthers w w2) ∧ Sat (some (l, items)) (Base (some (l, items)) w I J) J' s' [] a2 w2) →
      a2.defers = [] ∧ ∃ v, (results fn a2.tmps).run P w2 = .ok v w2 ∧ ((∃ v', Ending.returned v = .returned v') ∧ ∃ I' i, I.le I' ∧ Good I' w2 ∧ J i I' w2 ∧ (i = items.length ∨ i = items.length + 1)) := by
    rintro ⟨s', J', hi, hle, _, hdf, w1, I1, β1, κ1, ⟨hJ, hle1⟩, hS⟩
    refine ⟨hdf rfl, .tuple #[], ?_, ⟨_, rfl⟩, J', s'.it, hle, hS.good, hab _ _ _ _ _ hJ hS.below hS.ext hS.old hS.good, hi⟩
    have e0 : fn.results = #[] := by
      have := congrArg List.toArray hq
      simpa using this
    simp [results, e0]
  cases e with
  | normal => exact fin hp
  | ret => exact fin hp
  | exit id => obtain ⟨s', J', hr, _⟩ := hp; exact hr.elim
  | goto _ => exact hp.elim
  | panic _ => exact hp.elim
  | outgrown => exact hp.elim

end
end Go.Proofs.Ytnfomjnmigkpmaa.A
