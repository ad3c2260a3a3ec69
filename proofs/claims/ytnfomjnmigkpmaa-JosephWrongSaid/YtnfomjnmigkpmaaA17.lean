/- One operation of a region: what is told, the model does. -/
import Derived.Test.YtnfomjnmigkpmaaA16
set_option linter.unusedVariables false
set_option linter.unusedSimpArgs false
namespace Go.Proofs.Ytnfomjnmigkpmaa.A
open Go Go.RowKit Go.Shelf

/-- Every function may run; ro: the round that is walked. -/
def wideR (ro : Option Nat) : Fence := { Fence.wide with round := ro }

/-- What the told state is measured against: as the call began; in an iterator: as the last round left it. -/
def Base (its : Option (Nat × List (List PV))) (w00 : World) (I00 : Imm) (J : Nat → Imm → World → Prop) (it : Nat) (w0 : World) (I0 : Imm) : Prop :=
  match its with
  | none => w0 = w00 ∧ I0 = I00
  | some _ => J it I0 w0 ∧ I00.le I0

def Ctx (P : Program) (its : Option (Nat × List (List PV))) (J : Nat → Imm → World → Prop) : Prop :=
  ∀ l xs, its = some (l, xs) → Abiding J ∧ RoundOk P l J xs

section
variable {P : Program} {its : Option (Nat × List (List PV))} {w00 : World} {I00 : Imm} {Jt : Nat → Imm → World → Prop} {ro : Option Nat}
variable {w0 w w' : World} {I0 I J : Imm} {β : Nat → Nat} {κ : Nat → Nat × Nat × Nat} {s s' : St} {sav : List (Array Value)} {a : Act}

/-- The model's state reads as s, measured against something that Base lets in. -/
def Sat (its : Option (Nat × List (List PV))) (B : Nat → World → Imm → Prop) (I : Imm) (s : St) (sav : List (Array Value)) (a : Act) (w : World) : Prop :=
  (its.isSome = true → a.defers = []) ∧ ∃ w0 I0 β κ, B s.it w0 I0 ∧ Sim w0 I0 I β κ s sav a w

theorem put_defers (a : Act) (d : Option Nat) (v : Value) : (a.put d v).defers = a.defers := by cases d <;> rfl

/-- How a told step goes on. -/
def Next1 (its : Option (Nat × List (List PV))) (B : Nat → World → Imm → Prop) (I : Imm) (sav : List (Array Value)) (w : World) (next : Act → World → Prop) (K : St → Prop) : Prop :=
  ∀ s' a' w' J, I.le J → (its = none → KeepsOthers w w') → Sat its B J s' sav a' w' → K s' → next a' w'

theorem KeepsOthers.ofBelow (h : Below w.heap.size w w') : KeepsOthers w w' :=
  ⟨h.size, fun k o hk _ => (h.block k (Array.getElem?_eq_some_iff.1 hk).1).trans hk⟩

theorem stepA_it {dst : Option Nat} {op : Op} {i : Inf} (h : stepA s dst op i = some s') : s'.it = s.it := by
  have hput : ∀ (s : St) (t : TV), (putT s dst t).it = s.it := fun s t => by cases dst <;> rfl
  have hnt : ∀ l (s : St), (newToks l s).it = s.it := fun l => by
    induction l with
    | nil => exact fun _ => rfl
    | cons p l ih => exact fun s => (ih _).trans rfl
  have hval : ∀ {op : Op}, (valA s op i).map (putT s dst) = some s' → s'.it = s.it := fun h => by
    obtain ⟨t, _, rfl⟩ := Option.map_eq_some_iff.1 h
    exact hput s t
  unfold stepA at h
  split at h
  · split at h
    · split at h
      · cases h; simp [putT, St.newBox, St.mapTV, hnt]
      · cases h
    · cases h
  · split at h
    · split at h
      · obtain ⟨cs, _, rfl⟩ := Option.map_eq_some_iff.1 h
        simp [putT, St.newBox, St.mapTV]
      · cases h
    · cases h
  · split at h
    · split at h
      · split at h
        · cases h; exact hput _ _
        · cases h
      · split at h
        · cases h; simp [putT, St.newBox, St.mapTV]
        · cases h
    · cases h
  · split at h
    · obtain ⟨s1, h1, rfl⟩ := Option.map_eq_some_iff.1 h
      rw [hput]
      unfold storeA at h1
      split at h1
      · split at h1
        · split at h1
          · cases h1; rfl
          · cases h1
        · cases h1
      · cases h1
    · cases h
  · split at h
    · split at h
      · cases h; exact hput _ _
      · cases h
    · cases h
  · split at h
    · split at h
      · unfold appA at h
        split at h
        · split at h
          · cases h; rfl
          · cases h
        · split at h
          · cases h
          · split at h
            · cases h; rfl
            · cases h
        · split at h
          · split at h
            · cases h; rfl
            · split at h
              · cases h
              · cases h; rfl
          · cases h
        · cases h
      · cases h
    · exact hval h
  · split at h
    · exact hval h
    · cases h; exact hput _ _
  · exact hval h

theorem wpIn_run {o : Oper} {next : Act → World → Prop} {Q : Exit → Act → World → Prop} (hd : ∀ c, o.op ≠ .defer c) (h : o.uponIn (wideR ro) 0 P a next Q ((execOp a.eval o).run P w)) : o.wpIn (wideR ro) 0 P a w next Q := by
  refine ⟨fun _ _ => trivial, ?_⟩
  rw [Oper.semAt_eq _ _ _ hd]
  exact h

theorem upon_calls {o : Oper} {next : Act → World → Prop} {Q : Exit → Act → World → Prop} {f : FuncId} {args : Array Value} {R : Ending → World → Prop} (hc : Calls P f args w R) (hR : ∀ e w', R e w' → ∃ v, e = .returned v ∧ next (a.put o.dst v) w') :
    o.uponIn (wideR ro) 0 P a next Q (.ok (.enter f args) w) := by
  refine ⟨fun h => by simp [wideR, Fence.wide] at h, ?_⟩
  have h1 : CallsIn (wideR ro) (0 - 1) P f args w R := by
    have := (callsIn_wide (n := 0 - 1)).2 hc
    cases ro with
    | none => exact this
    | some l => exact CallsIn.inRound l this
  refine h1.mono ?_
  intro e w' hr
  obtain ⟨v, rfl, hn⟩ := hR e w' hr
  exact hn

theorem round_ro {l : Nat} {f : FuncId} {tmps : Array Value} {assign body : Code} {R : Ending → World → Prop} (h : RoundIn Fence.wide 0 P l f tmps assign body w R) : RoundIn (wideR ro) (0 - 1) P l f tmps assign body w R := by
  cases ro with
  | none => exact h
  | some l => exact h

theorem sound_step {o : Oper} {ao : AO} {next : Act → World → Prop} {Q : Exit → Act → World → Prop} {K : St → Prop} (hop : ao.op = o.op) (hdst : ao.dst = o.dst) (hi : infOk' P ao.op ao.inf = true)
    (hdf : its.isSome = true → a.defers = []) (hB : Base its w00 I00 Jt s.it w0 I0) (h : Sim w0 I0 I β κ s sav a w) (hs : stepA s ao.dst ao.op ao.inf = some s') (hk : K s') (hn : Next1 its (Base its w00 I00 Jt) I sav w next K) : o.wpIn (wideR ro) 0 P a w next Q := by
  rw [hop] at hi hs
  rw [hdst] at hs
  have hd : ∀ c, o.op ≠ .defer c := fun c e => by rw [e] at hs; simp [stepA, valA] at hs
  refine wpIn_run hd ?_
  obtain ⟨v, w', J, β', κ', hrun, hIJ, hkeep, hsim⟩ := goes_step h hi hs
  have hgo : next (a.put o.dst v) w' := hn s' _ w' J hIJ (fun _ => hkeep) ⟨fun e => by rw [put_defers]; exact hdf e, w0, I0, β', κ', by rw [stepA_it hs]; exact hB, hsim⟩ hk
  rcases hrun with hrun | ⟨hrun, rfl⟩
  · rw [hrun]; exact hgo
  · rw [hrun]; exact hgo

theorem sat_ok {r : PV} {v : Value} (hdf : its.isSome = true → a.defers = []) (hB : Base its w00 I00 Jt s.it w0 I0) (h : Sim w0 I0 I β κ s sav a w) (hb : Below w.heap.size w w') (hJ : I.le J) (hg : Good J w') (hold : ∀ b, b < w.heap.size → J b = I b) (hr : C J r v) (dst : Option Nat) :
    Sat its (Base its w00 I00 Jt) J (putT s dst (.v r)) sav (a.put dst v) w' := by
  refine ⟨fun e => by rw [put_defers]; exact hdf e, w0, I0, β, κ, ?_, (h.grow hb hJ hold hg).putT dst (.v hr)⟩
  have : (putT s dst (.v r)).it = s.it := by cases dst <;> rfl
  rw [this]; exact hB

theorem sound_call {o : Oper} {c : Call} {next : Act → World → Prop} {Q : Exit → Act → World → Prop} {K : St → Prop} (hop : o.op = .call c) (hctx : Ctx P its Jt)
    (hdf : its.isSome = true → a.defers = []) (hB : Base its w00 I00 Jt s.it w0 I0) (h : Sim w0 I0 I β κ s sav a w) (hs : callA P its s o.dst c K) (hn : Next1 its (Base its w00 I00 Jt) I sav w next K) : o.wpIn (wideR ro) 0 P a w next Q := by
  have hd : ∀ c, o.op ≠ .defer c := fun c e => by rw [hop] at e; cases e
  refine wpIn_run hd ?_
  obtain ⟨callee, args, argTypes⟩ := c
  unfold callA at hs
  simp only at hs
  split at hs
  · exact hs.elim
  · rename_i f
    split at hs
    · -- a function of the program's
      rename_i k caps ps hf hps
      obtain ⟨r, ⟨hent, hok⟩, hk⟩ := hs
      obtain ⟨arr, hfv, hcaps⟩ := (ev_R h hf).inv.inv_fn
      have hargs := pvs_C h hps
      have hrun : (execOp a.eval o).run P w = .ok (.enter k (args.map a.eval ++ arr)) w := by
        simp [execOp, hop, resolve, hfv, Deferred.ofValue, invoke, hent (args.map a.eval ++ arr) w]
      rw [hrun]
      have hall : Cs I (ps ++ caps) ((args.map a.eval).toList ++ arr.toList) := by
        rw [Array.toList_map]
        exact hargs.append hcaps
      have hcall := hok I w _ h.good hall
      have e1 : ((args.map a.eval).toList ++ arr.toList).toArray = args.map a.eval ++ arr := by simp
      rw [e1] at hcall
      refine upon_calls hcall ?_
      rintro e w' ⟨v, J, rfl, hb, hJ, hg, hold, hr⟩
      exact ⟨v, rfl, hn _ _ w' J hJ (fun _ => KeepsOthers.ofBelow hb) (sat_ok hdf hB h hb hJ hg hold hr o.dst) hk⟩
    · -- a round
      rename_i l' ps hf hps
      split at hs
      · rename_i its l xs
        obtain ⟨rfl, hbx, htk, hit, hk1, hk2⟩ := hs
        obtain ⟨hab, hround⟩ := hctx _ _ rfl
        obtain ⟨arr, hfv, hcaps⟩ := (ev_R h hf).inv.inv_fn
        have ha0 : arr = #[] := by obtain ⟨arr⟩ := arr; cases hcaps; rfl
        subst ha0
        have hargs := pvs_C h hps
        obtain ⟨hJ0, hle⟩ := hB
        have hJ1 : Jt s.it I w := hab _ _ _ _ _ hJ0 h.below h.ext h.old h.good
        obtain ⟨fn, tmps, assign, body, hy, hr⟩ := hround s.it ps I w _ hit hJ1 h.good hargs
        have hrun : (execOp a.eval o).run P w = .ok (.round l' fn tmps assign body) w := by
          have e1 : (args.toList.map a.eval).toArray = args.map a.eval := by rw [← Array.toList_map, Array.toArray_toList]
          rw [e1] at hy
          simp [execOp, hop, resolve, hfv, Deferred.ofValue, invoke, hy]
        rw [hrun]
        have rebase : ∀ (J2 : Imm) (W2 : World) (b : Bool) (it' : Nat), I.le J2 → Good J2 W2 → Jt it' J2 W2 → Sat (some (l', xs)) (Base (some (l', xs)) w00 I00 Jt) J2 { putT s o.dst (bl b) with it := it' } sav (a.put o.dst (.bool b)) W2 := by
          intro J2 W2 b it' hle2 hg2 hj
          refine ⟨fun e => by rw [put_defers]; exact hdf e, W2, J2, β, κ, ⟨hj, Imm.le_trans hle (Imm.le_trans h.ext hle2)⟩, ?_⟩
          have h2 := h.putT o.dst (x := bl b) (v := .bool b) (.v (.s _))
          have e1 : (putT s o.dst (bl b)).bx = [] ∧ (putT s o.dst (bl b)).tk = [] := by
            cases o.dst <;> exact ⟨hbx, htk⟩
          exact
            { below := Below.refl _ _
              good := hg2
              ext := Imm.le_refl _
              old := fun _ _ => rfl
              tm := by have := h2.tm.map (f := id) (fun _ _ k => k.mono hle2); rwa [List.map_id] at this
              sv := by have := h2.sv.map (f := id) (fun _ _ k => k.mono hle2); rwa [id_map] at this
              box := fun b cells hb => by simp only [e1.1, lk] at hb; cases hb
              rob := fun b cells hb => by
                obtain ⟨ar, k1, k2, k3⟩ := h2.rob b cells hb
                obtain ⟨m, hm'⟩ := hle2 _ _ k1
                refine ⟨_, hm', ?_, by simp; omega⟩
                rw [List.take_append_of_le_length k3]
                exact k2.mono hle2
              inj := fun b b' c c' hb => by simp only [e1.1, lk] at hb; cases hb
              tok := fun t ht => by simp [e1.2, tkOf, lk] at ht
              tinj := fun t t' ht => by simp [e1.2, tkOf, lk] at ht
              dfr := ⟨[], by rw [put_defers, hdf rfl]; rfl, List.nodup_nil, by simp⟩ }
        refine ⟨fun h => by simp [wideR, Fence.wide] at h, ?_⟩
        have hr' := round_ro (ro := ro) hr
        refine hr'.mono ?_
        rintro e W2 ⟨J2, hle2, hg2, ⟨rfl, hj⟩ | ⟨rfl, hj⟩⟩
        · exact hn _ _ W2 J2 hle2 (fun e => by cases e) (rebase J2 W2 true _ hle2 hg2 hj) hk1
        · exact hn _ _ W2 J2 hle2 (fun e => by cases e) (rebase J2 W2 false _ hle2 hg2 hj) hk2
      · exact hs.elim
    · exact hs.elim
  · rename_i r name
    split at hs
    · rename_i t x ps hf hps
      obtain ⟨f, r', hm, ⟨hent, hok⟩, hk⟩ := hs
      have hC := (ev_R h hf).inv
      have hargs := pvs_C h hps
      generalize hrv : a.eval r = rv at hC
      cases hC with
      | @ifc _ _ v hx =>
        have hrun : (execOp a.eval o).run P w = .ok (.enter f (#[v] ++ args.map a.eval)) w := by
          have h1 := hm v (args.map a.eval) w
          have e0 : (#[Value.iface t v] ++ args.map a.eval)[0]? = some (.iface t v) := by simp [Array.getElem?_append]
          have e2 : (args.map a.eval).extract 0 args.size = args.map a.eval := by apply Array.ext <;> simp
          simp [execOp, hop, resolve, hrv, invoke, e0, e2, h1]
        rw [hrun]
        have hall : Cs I (x :: ps) (v :: (args.toList.map a.eval)) := .cons hx hargs
        have hcall := hok I w _ h.good hall
        have e1 : (v :: args.toList.map a.eval).toArray = #[v] ++ args.map a.eval := by simp
        rw [e1] at hcall
        refine upon_calls hcall ?_
        rintro e w' ⟨v', J, rfl, hb, hJ, hg, hold, hr⟩
        exact ⟨v', rfl, hn _ _ w' J hJ (fun _ => KeepsOthers.ofBelow hb) (sat_ok hdf hB h hb hJ hg hold hr o.dst) hk⟩
    · exact hs.elim

end
end Go.Proofs.Ytnfomjnmigkpmaa.A
