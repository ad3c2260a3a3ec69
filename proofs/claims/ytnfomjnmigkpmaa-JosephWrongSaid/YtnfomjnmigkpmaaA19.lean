/- A range over a function: the rounds, told one by one. -/
import Derived.Test.YtnfomjnmigkpmaaA18
set_option linter.unusedVariables false
set_option linter.unusedSimpArgs false
namespace Go.Proofs.Ytnfomjnmigkpmaa.A
open Go Go.RowKit Go.Shelf

section
variable {P : Program} {ro : Option Nat}
variable {w0 w w' : World} {I0 I J : Imm} {β : Nat → Nat} {κ : Nat → Nat × Nat × Nat} {s s' : St} {sav : List (Array Value)} {a : Act}

theorem OnlyAt.putObj (w : World) (l : Nat) (o : Obj) : OnlyAt l w (w.putObj l o) := ⟨rfl, rfl, rfl, by simp, fun j hj => World.putObj_heap_other hj⟩

theorem Sim.putLoop (h : Sim w0 I0 I β κ s sav a w) {l : Nat} {r : Loop} (hl : w.heap[l]? = some (.loop r)) (hb : w0.heap.size ≤ l) (o : Obj) : Sim w0 I0 I β κ s sav a (w.putObj l o) := by
  have ho := OnlyAt.putObj w l o
  exact
    { below := h.below.trans (ho.below hb)
      good := fun b arr hI => by
        obtain ⟨cs, ty, fz, more, h1, h2⟩ := h.good b arr hI
        exact ⟨cs, ty, fz, more, (ho.block b (fun e => by rw [e, hl] at h1; cases h1)).trans h1, h2⟩
      ext := h.ext
      old := h.old
      tm := h.tm
      sv := h.sv
      box := fun b cells hc => by
        obtain ⟨h1, h2, cs, ty, h3, h4⟩ := h.box b cells hc
        exact ⟨h1, h2, cs, ty, (ho.block _ (fun e => by rw [e, hl] at h3; cases h3)).trans h3, h4⟩
      rob := h.rob
      inj := h.inj
      tok := fun t ht => by
        obtain ⟨h1, cs, ty, arr, h3, h4⟩ := h.tok t ht
        exact ⟨h1, cs, ty, arr, (ho.block _ (fun e => by rw [e, hl] at h3; cases h3)).trans h3, h4⟩
      tinj := h.tinj
      dfr := by
        obtain ⟨Ds, h1, h2, h3⟩ := h.dfr
        exact ⟨Ds, h1, h2, fun D hD => ⟨(h3 D hD).1, (ho.block D (fun e => by have := (h3 D hD).2; rw [e, hl] at this; cases this)).trans (h3 D hD).2⟩⟩ }

theorem Sim.between (h : Sim w0 I0 I β κ s sav a w) : Sim w0 I0 I β κ (betw { s with sv := s.tm :: s.sv }) (a.tmps :: sav) { tmps := #[], defers := [] } w :=
  { below := h.below, good := h.good, ext := h.ext, old := h.old, tm := .nil, sv := .cons h.tm h.sv, box := h.box, rob := h.rob, inj := h.inj, tok := h.tok, tinj := h.tinj, dfr := ⟨[], rfl, List.nodup_nil, by simp⟩ }

/-- The slots of a round forgotten. -/
theorem Sim.forgetTm (h : Sim w0 I0 I β κ s sav a w) : Sim w0 I0 I β κ (betw s) sav { tmps := #[], defers := [] } w :=
  { below := h.below, good := h.good, ext := h.ext, old := h.old, tm := .nil, sv := h.sv, box := h.box, rob := h.rob, inj := h.inj, tok := h.tok, tinj := h.tinj, dfr := ⟨[], rfl, List.nodup_nil, by simp⟩ }

theorem setPs_R {tk : Nat → Nat} : ∀ (ps : List Nat) (x : List PV) (vs : List Value) (tm : List TV) (tms : Array Value), x.length = ps.length → Cs I x vs → Rs I β κ tk tm tms.toList →
    Rs I β κ tk (setPs ps x tm) ((ps.zip vs).foldl (fun t (p, v) => t.setIfInBounds p v) tms).toList
  | [], [], vs, tm, tms, _, hc, h => by cases hc; exact h
  | p :: ps, y :: x, vs, tm, tms, hl, hc, h => by
    cases hc with
    | cons h1 h2 =>
      simp only [setPs, List.zip_cons_cons, List.foldl_cons]
      exact setPs_R ps x _ _ _ (by simpa using hl) h2 (by rw [Array.toList_setIfInBounds]; exact h.set p (.v h1))
  | [], _ :: _, _, _, _, hl, _, _ => by simp at hl
  | _ :: _, [], _, _, _, hl, _, _ => by simp at hl

theorem Sim.enter {ps : Array Nat} {x : List PV} {vs : List Value} {tms : Array Value} (h : Sim w0 I0 I β κ s (tms :: sav) a w) (hx : x.length = ps.toList.length) (hc : Cs I x vs) :
    Sim w0 I0 I β κ (enterR ps.toList x s) (tms :: sav) { tmps := (ps.zip vs.toArray).foldl (fun t (p, v) => t.setIfInBounds p v) tms, defers := [] } w := by
  have hsv := h.sv
  have htm : Rs I β κ (tkOf s.tk) (setPs ps.toList x (s.sv.headD [])) ((ps.zip vs.toArray).foldl (fun t (p, v) => t.setIfInBounds p v) tms).toList := by
    generalize hs : s.sv = l at hsv
    cases hsv with
    | cons h1 h2 =>
      have := setPs_R ps.toList x vs _ tms hx hc h1
      rw [← Array.foldl_toList, Array.toList_zip]
      exact this
  exact { below := h.below, good := h.good, ext := h.ext, old := h.old, tm := htm, sv := h.sv, box := h.box, rob := h.rob, inj := h.inj, tok := h.tok, tinj := h.tinj, dfr := ⟨[], rfl, List.nodup_nil, by simp⟩ }

theorem Sim.leave {tms : Array Value} {df : List Deferred} (h : Sim w0 I0 I β κ s (tms :: sav) a w)
    (hd : ∃ Ds : List Nat, df = Ds.map (fun D => { target := .collected D, args := #[] }) ∧ Ds.Nodup ∧ ∀ D ∈ Ds, w0.heap.size ≤ D ∧ w.heap[D]? = some (.deferred (some []))) :
    Sim w0 I0 I β κ (leaveR s) sav { tmps := tms, defers := df } w := by
  have hsv := h.sv
  have h2 : Rs I β κ (tkOf s.tk) (s.sv.headD []) tms.toList ∧ Rss I β κ (tkOf s.tk) s.sv.tail sav := by
    generalize hs : s.sv = l at hsv
    cases hsv with
    | cons h1 h2 => exact ⟨h1, h2⟩
  exact { below := h.below, good := h.good, ext := h.ext, old := h.old, tm := h2.1, sv := h2.2, box := h.box, rob := h.rob, inj := h.inj, tok := h.tok, tinj := h.tinj, dfr := hd }

/-- How a round's body is left, as a jump. -/
def jumpOf : XA → Option Code
  | .normal => none
  | .ret => some .ret
  | .exit id => some (.exit id)

/-- What holds between the rounds. -/
def BetwRounds (g : List Gh) (ps : List Nat) (run : (XA → St → Prop) → St → Prop) (Q : XA → St → Prop) (items : List (List PV)) (w0 : World) (I0 : Imm) (sav : List (Array Value)) (w : World) (I : Imm) (l : Nat) (rec : LoopState → Option Code → Loop)
    (i : Nat) (I' : Imm) (W : World) : Prop :=
  I.le I' ∧ KeepsOthers w W ∧
    ((i ≤ items.length ∧ ∃ s β κ, Rounds g ps run Q (items.drop i) s ∧ Sim w0 I0 I' β κ s sav { tmps := #[], defers := [] } W ∧ W.heap[l]? = some (.loop (rec .ready none))) ∨
     (i = items.length + 1 ∧ ∃ xa s β κ c, jumpOf xa = some c ∧ Q xa (leaveR s) ∧ Sim w0 I0 I' β κ s sav { tmps := #[], defers := [] } W ∧ W.heap[l]? = some (.loop (rec .done (some c)))))

theorem betw_abiding {g : List Gh} {ps : List Nat} {run : (XA → St → Prop) → St → Prop} {Q : XA → St → Prop} {items : List (List PV)} {l : Nat} {rec : LoopState → Option Code → Loop} :
    Abiding (BetwRounds g ps run Q items w0 I0 sav w I l rec) := by
  rintro i I₁ W₁ I₂ W₂ ⟨hle, hk, hd⟩ hb hle2 hold hg
  refine ⟨Imm.le_trans hle hle2, hk.trans (KeepsOthers.ofBelow hb), ?_⟩
  rcases hd with ⟨hi, s, β, κ, hR, hS, hl⟩ | ⟨hi, xa, s, β, κ, c, hj, hq, hS, hl⟩
  · exact .inl ⟨hi, s, β, κ, hR, hS.grow hb hle2 hold hg, by rw [hb.block _ (Array.getElem?_eq_some_iff.1 hl).1, hl]⟩
  · exact .inr ⟨hi, xa, s, β, κ, c, hj, hq, hS.grow hb hle2 hold hg, by rw [hb.block _ (Array.getElem?_eq_some_iff.1 hl).1, hl]⟩

theorem keepsPut {W : World} (h : KeepsOthers w W) {l : Nat} (hl : w.heap.size ≤ l) (o : Obj) : KeepsOthers w (W.putObj l o) :=
  ⟨by simpa using h.size, fun k o' hk ho => by
    have := (Array.getElem?_eq_some_iff.1 hk).1
    rw [World.putObj_heap_other (by omega)]
    exact h.same k o' hk ho⟩

/-- ONE ROUND, for a body whose wp is known. -/
theorem round_ok {items : List (List PV)} {g : List Gh} {Q : XA → St → Prop} {l : Nat} {fn : FuncId} {ps : Array Tmp} {assign body : Code} {tms : Array Value} {dfb : Nat} {run : (XA → St → Prop) → St → Prop}
    (hbase : w0.heap.size ≤ l) (hlw : w.heap.size ≤ l)
    (hrun : ∀ (Q' : XA → St → Prop) (s : St) (I' : Imm) (β : Nat → Nat) (κ : Nat → Nat × Nat × Nat) (a : Act) (W : World), run Q' s → Sim w0 I0 I' β κ s (tms :: sav) a W → (∃ r, W.heap[l]? = some (.loop r)) →
      ∀ (post : Exit → Act → World → Prop), (∀ xa s' J a' W' β' κ', Q' xa s' → I'.le J → KeepsOthers (W.putObj l (.loop { state := .busy, pending := none, fn, tmps := tms, params := ps, assign, body, defers := dfb })) W' →
          Sim w0 I0 J β' κ' s' (tms :: sav) a' W' → post (match xa with | .normal => .normal | .ret => .ret | .exit id => .exit id) a' W') →
        W.heap[l]? = some (.loop { state := .ready, pending := none, fn, tmps := tms, params := ps, assign, body, defers := dfb }) →
        assign.wpIn (wideR (some l)) 0 P (Exit.then (fun a₁ w₁ => ∃ w₂, (Instr.beginRound l).run P w₁ = .ok () w₂ ∧ body.wpIn (wideR (some l)) 0 P post a₁ w₂) (fun _ _ _ => False)) a W) :
    RoundOk P l (BetwRounds g ps.toList run Q items w0 I0 (tms :: sav) w I l (fun st pe => { state := st, pending := pe, fn, tmps := tms, params := ps, assign, body, defers := dfb })) items := by
  intro i x I₁ W₁ vs hi ⟨hle, hk, hd⟩ hg hc
  have hlt : i < items.length := (List.getElem?_eq_some_iff.1 hi).1
  rcases hd with ⟨_, s, β, κ, hR, hS, hl⟩ | ⟨hi', _⟩
  case inr => omega
  have hdrop : items.drop i = x :: items.drop (i + 1) := by
    rw [List.drop_eq_getElem_cons hlt]
    have := (List.getElem?_eq_some_iff.1 hi).2
    rw [this]
  rw [hdrop] at hR
  obtain ⟨hxl, hbody⟩ := hR
  have hy := run_yield (P := P) (args := vs.toArray) hl (by have := hc.length; simp only [List.size_toArray]; rw [← this, hxl, Array.length_toList])
  refine ⟨fn, _, assign, body, hy, ?_⟩
  have hS1 := hS.enter (ps := ps) (by simpa using hxl) hc
  refine roundIn_of_wpIn (F := Fence.wide) trivial ?_
  refine hrun _ _ _ _ _ _ _ hbody hS1 ⟨_, hl⟩ _ ?_ hl
  intro xa s' J a' W' β' κ' hQ hle' hkeep hS'
  have hlt1 : l < W₁.heap.size := (Array.getElem?_eq_some_iff.1 hl).1
  have hbusy : W'.heap[l]? = some (.loop { state := .busy, pending := none, fn, tmps := tms, params := ps, assign, body, defers := dfb }) := hkeep.same l _ (World.putObj_heap_same hlt1) rfl
  have hlt' : l < W'.heap.size := (Array.getElem?_eq_some_iff.1 hbusy).1
  have hk2 : KeepsOthers w W' := (keepsPut hk hlw _).trans hkeep
  have hsim2 : ∀ o, Sim w0 I0 J β' κ' s' (tms :: sav) a' (W'.putObj l o) := fun o => hS'.putLoop hbusy hbase o
  have fin : ∀ (c : Code), (xa = .ret ∧ c = .ret ∨ ∃ id, xa = .exit id ∧ c = .exit id) → Q xa (leaveR s') →
      ∃ v w'', (Instr.endRound l (some c)).run P W' = .ok v w'' ∧ ∃ I₂, I₁.le I₂ ∧ Good I₂ w'' ∧ ((Ending.returned v = .returned (.bool true) ∧ BetwRounds g ps.toList run Q items w0 I0 (tms :: sav) w I l (fun st pe => { state := st, pending := pe, fn, tmps := tms, params := ps, assign, body, defers := dfb }) (i + 1) I₂ w'') ∨
        (Ending.returned v = .returned (.bool false) ∧ BetwRounds g ps.toList run Q items w0 I0 (tms :: sav) w I l (fun st pe => { state := st, pending := pe, fn, tmps := tms, params := ps, assign, body, defers := dfb }) (items.length + 1) I₂ w'')) := by
    intro c hx hq
    refine ⟨_, _, run_endRound (P := P) (some c) hbusy, J, hle', (hsim2 _).good, .inr ⟨rfl, Imm.le_trans hle hle', keepsPut hk2 hlw _, .inr ⟨rfl, xa, betw s', β', κ', c, ?_, hq, (hsim2 _).forgetTm, ?_⟩⟩⟩
    · rcases hx with ⟨rfl, rfl⟩ | ⟨id, rfl, rfl⟩ <;> rfl
    · exact World.putObj_heap_same hlt'
  cases xa with
  | normal =>
    obtain ⟨s1, hgs, hrest⟩ := hQ
    obtain ⟨e1, J2, hJ2, hs2⟩ := ghs_sound g (hsim2 (.loop { state := .ready, pending := none, fn, tmps := tms, params := ps, assign, body, defers := dfb })).forgetTm hgs
    refine ⟨_, _, run_endRound (P := P) none hbusy, J2, Imm.le_trans hle' hJ2, hs2.good, .inl ⟨rfl, Imm.le_trans hle (Imm.le_trans hle' hJ2), keepsPut hk2 hlw _, .inl ⟨hlt, s1, β', κ', hrest, hs2, World.putObj_heap_same hlt'⟩⟩⟩
  | ret => exact fin .ret (.inl ⟨rfl, rfl⟩) hQ
  | exit id => exact fin (.exit id) (.inr ⟨id, rfl, rfl⟩) hQ

end
end Go.Proofs.Ytnfomjnmigkpmaa.A
