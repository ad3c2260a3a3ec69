/- What each step of the model does to a state that reads as a told one. -/
import Derived.Test.YtnfomjnmigkpmaaA2
set_option linter.unusedVariables false
set_option linter.unusedSimpArgs false
namespace Go.Proofs.Ytnfomjnmigkpmaa.A
open Go Go.RowKit

def rm {β : Type} (k : Nat) : List (Nat × β) → List (Nat × β)
  | [] => []
  | (j, y) :: l => if j = k then rm k l else (j, y) :: rm k l

theorem lk_rm {β : Type} (k j : Nat) (l : List (Nat × β)) : lk j (rm k l) = if j = k then none else lk j l := by
  induction l with
  | nil => simp [rm, lk]
  | cons p l ih =>
    obtain ⟨i, y⟩ := p
    simp only [rm]
    by_cases h : i = k
    · subst h
      simp only [if_true, ih, lk]
      by_cases h' : i = j
      · simp [h']
      · have h'' : ¬ j = i := fun e => h' e.symm
        simp [h', h'']
    · simp only [h, if_false, lk, ih]
      by_cases h' : i = j
      · subst h'; simp [h]
      · simp [h']

theorem lk_map {β γ : Type} (f : β → γ) (k : Nat) (l : List (Nat × β)) : lk k (l.map fun p => (p.1, f p.2)) = (lk k l).map f := by
  induction l with
  | nil => rfl
  | cons p l ih =>
    obtain ⟨i, y⟩ := p
    simp only [List.map_cons, lk, ih]
    split <;> rfl

theorem tkOf_upd (l : List (Nat × Nat)) (t t' n : Nat) : tkOf (upd t n l) t' = if t' = t then n else tkOf l t' := by
  unfold tkOf
  rw [lk_upd]
  split <;> simp_all

/-- One block has turned, at most. -/
structure OnlyAt (k : Nat) (w w' : World) : Prop where
  os : w'.os = w.os
  tape : w'.tape = w.tape
  output : w'.output = w.output
  size : w'.heap.size = w.heap.size
  block : ∀ j, j ≠ k → w'.heap[j]? = w.heap[j]?

theorem OnlyAt.refl (k : Nat) (w : World) : OnlyAt k w w := ⟨rfl, rfl, rfl, rfl, fun _ _ => rfl⟩
theorem OnlyAt.trans {k : Nat} {w w' w'' : World} (h : OnlyAt k w w') (g : OnlyAt k w' w'') : OnlyAt k w w'' :=
  ⟨g.os.trans h.os, g.tape.trans h.tape, g.output.trans h.output, g.size.trans h.size, fun j hj => (g.block j hj).trans (h.block j hj)⟩
theorem OnlyAt.setCell (w : World) (p : Addr) (v : Value) : OnlyAt p.block w (w.setCell p v) :=
  ⟨rfl, rfl, rfl, by simp, fun j hj => Below.heap_setCell _ _ _ _ hj⟩
theorem OnlyAt.below {k B : Nat} {w w' : World} (h : OnlyAt k w w') (hk : B ≤ k) : Below B w w' :=
  ⟨h.os, h.tape, h.output, Nat.le_of_eq h.size.symm, fun j hj => h.block j (by omega)⟩

section
variable {w0 w w' : World} {I0 I J : Imm} {β : Nat → Nat} {κ : Nat → Nat × Nat × Nat} {s : St} {sav : List (Array Value)} {a : Act}

theorem Sim.size (h : Sim w0 I0 I β κ s sav a w) : w0.heap.size ≤ w.heap.size := h.below.size

theorem Sim.put (h : Sim w0 I0 I β κ s sav a w) (d : Nat) {x : TV} {v : Value} (hx : R I β κ (tkOf s.tk) x v) :
    Sim w0 I0 I β κ { s with tm := s.tm.set d x } sav (a.put (some d) v) w :=
  { h with
    tm := by simp only [Act.put, Array.toList_setIfInBounds]; exact h.tm.set d hx
    dfr := by simpa [Act.put] using h.dfr }

/-- Slots told by less. -/
theorem Sim.put_junk (h : Sim w0 I0 I β κ s sav a w) (d : Option Nat) (v : Value) :
    Sim w0 I0 I β κ (match d with | some d => { s with tm := s.tm.set d (.v .junk) } | none => s) sav (a.put d v) w := by
  cases d with
  | none => exact h
  | some d => exact h.put d (.v (.junk v))

theorem Sim.grow (h : Sim w0 I0 I β κ s sav a w) (hb : Below w.heap.size w w') (hJ : I.le J) (hold : ∀ b, b < w.heap.size → J b = I b) (hg : Good J w') :
    Sim w0 I0 J β κ s sav a w' where
  below := h.below.trans (hb.mono h.size)
  good := hg
  ext := Imm.le_trans h.ext hJ
  old := fun b hlt => (hold b (Nat.lt_of_lt_of_le hlt h.size)).trans (h.old b hlt)
  tm := by have := h.tm.map (f := id) (fun _ _ k => k.mono hJ); rwa [List.map_id] at this
  sv := by have := h.sv.map (f := id) (fun _ _ k => k.mono hJ); simpa using this
  box := fun b cells hc => by
    obtain ⟨h1, h2, cs, ty, h3, h4⟩ := h.box b cells hc
    have hlt := (Array.getElem?_eq_some_iff.1 h3).1
    refine ⟨h1, by rw [hold _ hlt, h2], cs, ty, by rw [hb.block _ hlt, h3], ?_, h4.2⟩
    have := h4.1.map (f := id) (fun _ _ k => k.mono hJ)
    rwa [List.map_id] at this
  rob := fun b cells hc => by
    obtain ⟨arr, h1, h2, h3⟩ := h.rob b cells hc
    obtain ⟨m, hm⟩ := hJ _ _ h1
    refine ⟨_, hm, ?_, by simp; omega⟩
    rw [List.take_append_of_le_length h3]
    exact h2.mono hJ
  inj := h.inj
  tok := fun t ht => by
    obtain ⟨h1, cs, ty, arr, h2, h3, h4, h5⟩ := h.tok t ht
    have hlt := (Array.getElem?_eq_some_iff.1 h2).1
    exact ⟨h1, cs, ty, arr, by rw [hb.block _ hlt, h2], h3, by rw [hold _ hlt, h4], h5⟩
  tinj := h.tinj
  dfr := by
    obtain ⟨Ds, h1, h2, h3⟩ := h.dfr
    exact ⟨Ds, h1, h2, fun D hD => ⟨(h3 D hD).1, by rw [hb.block _ (Array.getElem?_eq_some_iff.1 (h3 D hD).2).1, (h3 D hD).2]⟩⟩

theorem Imm.none_new (h : Good I w) {b : Nat} (hb : w.heap.size ≤ b) : I b = none := by
  cases hi : I b with
  | none => rfl
  | some arr => have := h.lt hi; omega

theorem Sim.draw (h : Sim w0 I0 I β κ s sav a w) (n : Nat) : Sim w0 I0 I β κ s sav a { w with drawn := n } :=
  h.grow ⟨rfl, rfl, rfl, Nat.le_refl _, fun _ _ => rfl⟩ (Imm.le_refl _) (fun _ _ => rfl) (h.good)

theorem Sim.drew (h : Sim w0 I0 I β κ s sav a w) : Sim w0 I0 I β κ s sav a w.drew := h.draw _

/-- A new block of which nothing is told. -/
theorem Sim.alloc (h : Sim w0 I0 I β κ s sav a w) (o : Obj) : Sim w0 I0 I β κ s sav a (w.alloc o) :=
  h.grow ((Below.refl _ w).alloc (Nat.le_refl _) o) (Imm.le_refl _) (fun _ _ => rfl) (h.good.below ((Below.refl _ w).alloc (Nat.le_refl _) o))

/-- A new variable of the call's own. -/
def St.newBox (b : Nat) (cells : List TV) (s : St) : St :=
  { s.mapTV (TV.killPtr b) with bx := upd b (cells.map (TV.killPtr b)) (s.mapTV (TV.killPtr b)).bx }

theorem R.killPtr {tk : Nat → Nat} (b c : Nat) (x : TV) (u : Value) (h : R I β κ tk x u) : R I (fun j => if j = b then c else β j) κ tk (x.killPtr b) u := by
  cases h with
  | v hx => exact .v hx
  | @ptr b' off =>
    simp only [TV.killPtr]
    by_cases e : b' = b
    · rw [if_pos e]; exact .v (.junk _)
    · rw [if_neg e]
      have : R I (fun j => if j = b then c else β j) κ tk (.ptr b' off) (.pointer (some ⟨(fun j => if j = b then c else β j) b', off, none⟩)) := .ptr
      simpa [e] using this
  | @own b' n =>
    simp only [TV.killPtr]
    by_cases e : b' = b
    · rw [if_pos e]; exact .v (.junk _)
    · rw [if_neg e]
      have : R I (fun j => if j = b then c else β j) κ tk (.own b' n) (.slice (some ⟨(fun j => if j = b then c else β j) b', 0, none⟩) n n) := .own
      simpa [e] using this
  | acc0 => exact .acc0
  | acc h1 h2 h3 h4 h5 h6 => exact .acc h1 h2 h3 h4 h5 h6

theorem Sim.newBox (h : Sim w0 I0 I β κ s sav a w) (b : Nat) (cells : List TV) (cs : Array Value) (ty : TypeId) (hro : lk b s.ro = none) (hc : Rs I β κ (tkOf s.tk) cells cs.toList) (hone : ∀ v ∈ cs.toList, v.oneCell' = true) :
    Sim w0 I0 I (fun j => if j = b then w.heap.size else β j) κ (s.newBox b cells) sav a (w.alloc (.cells cs ty)) := by
  have h0 := h.alloc (.cells cs ty)
  have hnew : (w.alloc (.cells cs ty)).heap[w.heap.size]? = some (.cells cs ty (0, 0)) := World.alloc_heap_new w _
  have lt_box : ∀ j c, lk j s.bx = some c → β j < w.heap.size := fun j c hj => by
    obtain ⟨_, _, cs', ty', h3, _⟩ := h.box j c hj
    exact (Array.getElem?_eq_some_iff.1 h3).1
  have hbx : ∀ j, lk j (s.newBox b cells).bx = if j = b then some (cells.map (TV.killPtr b)) else (lk j s.bx).map fun l => l.map (TV.killPtr b) := fun j => by
    simp only [St.newBox, St.mapTV, lk_upd, lk_map]
  exact
    { below := h0.below
      good := h0.good
      ext := h0.ext
      old := h0.old
      tm := h.tm.map fun x u k => k.killPtr b _
      sv := h.sv.map fun x u k => k.killPtr b _
      box := fun j c hj => by
        rw [hbx] at hj
        by_cases e : j = b
        · simp only [e, if_true, Option.some.injEq] at hj ⊢
          subst hj
          exact ⟨h.size, Imm.none_new h.good (Nat.le_refl _), cs, ty, hnew, hc.map fun x u k => k.killPtr b _, hone⟩
        · simp only [e, if_false, Option.map_eq_some_iff] at hj ⊢
          obtain ⟨c', hj', rfl⟩ := hj
          obtain ⟨h1, h2, cs', ty', h3, h4⟩ := h0.box j c' hj'
          exact ⟨h1, h2, cs', ty', h3, h4.1.map fun x u k => k.killPtr b _, h4.2⟩
      rob := fun j c hj => by
        have hj' : lk j s.ro = some c := hj
        have e : j ≠ b := fun e => by subst e; rw [hro] at hj'; cases hj'
        simpa [e] using h0.rob j c hj'
      inj := fun j j' c c' hj hj' hβ => by
        rw [hbx] at hj hj'
        by_cases e : j = b <;> by_cases e' : j' = b
        · rw [e, e']
        · simp only [e, e', if_true, if_false, Option.map_eq_some_iff] at hj hj' hβ
          obtain ⟨c1, hj1, _⟩ := hj'
          have := lt_box _ _ hj1
          omega
        · simp only [e, e', if_true, if_false, Option.map_eq_some_iff] at hj hj' hβ
          obtain ⟨c1, hj1, _⟩ := hj
          have := lt_box _ _ hj1
          omega
        · simp only [e, e', if_false, Option.map_eq_some_iff] at hj hj' hβ
          obtain ⟨c1, hj1, _⟩ := hj
          obtain ⟨c2, hj2, _⟩ := hj'
          exact h.inj _ _ _ _ hj1 hj2 hβ
      tok := h0.tok
      tinj := h0.tinj
      dfr := h0.dfr }

/-- A store into a variable of the call's own. -/
theorem Sim.store (h : Sim w0 I0 I β κ s sav a w) {b : Nat} {cells cells' : List TV} (hb : lk b s.bx = some cells) (ho : OnlyAt (β b) w w') {cs' : Array Value} {ty : TypeId}
    (hw : w'.heap[β b]? = some (.cells cs' ty (0, 0))) (hc : Rs I β κ (tkOf s.tk) cells' cs'.toList) (hone : ∀ v ∈ cs'.toList, v.oneCell' = true) :
    Sim w0 I0 I β κ { s with bx := upd b cells' s.bx } sav a w' := by
  obtain ⟨hb1, hb2, _⟩ := h.box b cells hb
  have hI : ∀ k arr, I k = some arr → k ≠ β b := fun k arr hk e => by rw [e, hb2] at hk; cases hk
  exact
    { below := h.below.trans (ho.below hb1)
      good := fun k arr hk => by
        obtain ⟨cs, ty, fz, more, h1, h2⟩ := h.good k arr hk
        exact ⟨cs, ty, fz, more, (ho.block k (hI k arr hk)).trans h1, h2⟩
      ext := h.ext
      old := h.old
      tm := h.tm
      sv := h.sv
      box := fun j c hj => by
        simp only [lk_upd] at hj
        by_cases e : j = b
        · simp only [e, if_true, Option.some.injEq] at hj ⊢
          subst hj
          exact ⟨hb1, hb2, cs', ty, hw, hc, hone⟩
        · simp only [e, if_false] at hj
          obtain ⟨h1, h2, cs, ty, h3, h4⟩ := h.box j c hj
          exact ⟨h1, h2, cs, ty, (ho.block _ (fun e' => e (h.inj _ _ _ _ hj hb e'))).trans h3, h4⟩
      rob := h.rob
      inj := fun j j' c c' hj hj' hβ => by
        simp only [lk_upd] at hj hj'
        have k1 : ∃ c1, lk j s.bx = some c1 := by
          by_cases e : j = b
          · exact ⟨_, e ▸ hb⟩
          · simp only [e, if_false] at hj; exact ⟨_, hj⟩
        have k2 : ∃ c1, lk j' s.bx = some c1 := by
          by_cases e : j' = b
          · exact ⟨_, e ▸ hb⟩
          · simp only [e, if_false] at hj'; exact ⟨_, hj'⟩
        obtain ⟨c1, k1⟩ := k1
        obtain ⟨c2, k2⟩ := k2
        exact h.inj _ _ _ _ k1 k2 hβ
      tok := fun t ht => by
        obtain ⟨h1, cs, ty, arr, h2, h3, h4, h5⟩ := h.tok t ht
        exact ⟨h1, cs, ty, arr, (ho.block _ (hI _ _ h4)).trans h2, h3, h4, h5⟩
      tinj := h.tinj
      dfr := by
        obtain ⟨Ds, h1, h2, h3⟩ := h.dfr
        refine ⟨Ds, h1, h2, fun D hD => ⟨(h3 D hD).1, (ho.block D (fun e => ?_)).trans (h3 D hD).2⟩⟩
        obtain ⟨_, _, cs, ty, k3, _⟩ := h.box b cells hb
        have h4 := (h3 D hD).2
        rw [e, k3] at h4
        cases h4 }

/-- Of a variable of the call's own it is said that it is not written again. -/
def St.freeze (b : Nat) (cells : List PV) (s : St) : St := { s with bx := rm b s.bx, ro := upd b cells s.ro }

theorem Sim.freeze (h : Sim w0 I0 I β κ s sav a w) {b : Nat} {cells : List PV} (hb : lk b s.bx = some (cells.map .v)) :
    ∃ J, I.le J ∧ Sim w0 I0 J β κ (s.freeze b cells) sav a w := by
  obtain ⟨hb1, hb2, cs, ty, hw, hc, hone⟩ := h.box b _ hb
  have hIJ : I.le (fun k => if k = β b then some cs.toList else I k) := fun k arr hk => by
    by_cases e : k = β b
    · rw [e, hb2] at hk; cases hk
    · exact ⟨[], by simp [e, hk]⟩
  have hC : Cs I cells cs.toList := by
    clear hb hIJ hw
    generalize cs.toList = l at hc
    induction cells generalizing l with
    | nil => cases hc; exact .nil
    | cons x xs ih => cases hc with | cons hx hs => cases hx with | v hx => exact .cons hx (ih _ hs)
  refine ⟨_, hIJ, ?_⟩
  have hmap : ∀ x u, R I β κ (tkOf s.tk) x u → R (fun k => if k = β b then some cs.toList else I k) β κ (tkOf s.tk) (id x) u := fun _ _ k => k.mono hIJ
  exact
    { below := h.below
      good := fun k arr hk => by
        by_cases e : k = β b
        · simp only [e, if_true, Option.some.injEq] at hk
          subst hk
          exact ⟨cs, ty, (0, 0), [], by rw [e]; exact hw, by simp⟩
        · simp only [e, if_false] at hk
          exact h.good k arr hk
      ext := Imm.le_trans h.ext hIJ
      old := fun k hk => by
        have e : k ≠ β b := by omega
        simpa [e] using h.old k hk
      tm := by have := h.tm.map hmap; rwa [List.map_id] at this
      sv := by
        have := h.sv.map hmap
        have e : (s.sv.map fun l => l.map id) = s.sv := by simp
        rw [e] at this
        exact this
      box := fun j c hj => by
        simp only [St.freeze, lk_rm] at hj
        by_cases e : j = b
        · simp [e] at hj
        · simp only [e, if_false] at hj
          obtain ⟨h1, h2, cs', ty', h3, h4⟩ := h.box j c hj
          have hne : β j ≠ β b := fun e' => e (h.inj _ _ _ _ hj hb e')
          refine ⟨h1, by simp [hne, h2], cs', ty', h3, ?_, h4.2⟩
          have := h4.1.map hmap
          rwa [List.map_id] at this
      rob := fun j c hj => by
        simp only [St.freeze, lk_upd] at hj
        by_cases e : j = b
        · simp only [e, if_true, Option.some.injEq] at hj
          subst hj
          have hl := hC.length
          refine ⟨cs.toList, by simp [e], ?_, by omega⟩
          rw [List.take_of_length_le (by omega)]
          exact hC.mono hIJ
        · simp only [e, if_false] at hj
          obtain ⟨arr, h1, h2, h3⟩ := h.rob j c hj
          obtain ⟨m, hm⟩ := hIJ _ _ h1
          refine ⟨_, hm, ?_, by simp; omega⟩
          rw [List.take_append_of_le_length h3]
          exact h2.mono hIJ
      inj := fun j j' c c' hj hj' hβ => by
        simp only [St.freeze, lk_rm] at hj hj'
        by_cases e : j = b
        · simp [e] at hj
        · by_cases e' : j' = b
          · simp [e'] at hj'
          · simp only [e, e', if_false] at hj hj'
            exact h.inj _ _ _ _ hj hj' hβ
      tok := fun t ht => by
        obtain ⟨h1, cs', ty', arr, h2, h3, h4, h5⟩ := h.tok t ht
        have hne : (κ t).1 ≠ β b := fun e => by rw [e, hb2] at h4; cases h4
        exact ⟨h1, cs', ty', arr, h2, h3, by simp [hne, h4], h5⟩
      tinj := h.tinj
      dfr := h.dfr }

/-- Of a row that the call has made it is said that it is not written again. -/
def TV.shut (b : Nat) (cells : List PV) : TV → TV
  | .v x => .v x
  | .ptr b' off => .ptr b' off
  | .acc t els => .acc t els
  | .own b' n => if b' = b then (if n = cells.length then .v (.sl true cells) else .v .junk) else .own b' n
def St.shut (b : Nat) (cells : List PV) (s : St) : St := ({ s with bx := rm b s.bx } : St).mapTV (TV.shut b cells)

theorem flat_cells {cells : List PV} (h : cells.all PV.one = true) : flat cells = cells := by
  induction cells with
  | nil => rfl
  | cons x xs ih =>
    simp only [List.all_cons, Bool.and_eq_true] at h
    have hx : x.cells = [x] := by
      cases x <;> simp_all [PV.one, PV.cells]
    simp only [flat, List.flatMap_cons, hx] at ih ⊢
    rw [ih h.2]
    rfl

theorem Sim.shut (h : Sim w0 I0 I β κ s sav a w) {b : Nat} {cells : List PV} (hb : lk b s.bx = some (cells.map .v)) (hone' : cells.all PV.one = true) :
    ∃ J, I.le J ∧ Sim w0 I0 J β κ (s.shut b cells) sav a w := by
  obtain ⟨hb1, hb2, cs, ty, hw, hc, hone⟩ := h.box b _ hb
  have hIJ : I.le (fun k => if k = β b then some cs.toList else I k) := fun k arr hk => by
    by_cases e : k = β b
    · rw [e, hb2] at hk; cases hk
    · exact ⟨[], by simp [e, hk]⟩
  have hC : Cs I cells cs.toList := by
    clear hb hIJ hw hone'
    generalize cs.toList = l at hc
    induction cells generalizing l with
    | nil => cases hc; exact .nil
    | cons x xs ih => cases hc with | cons hx hs => cases hx with | v hx => exact .cons hx (ih _ hs)
  have hlen := hC.length
  have hfl := flat_cells hone'
  refine ⟨_, hIJ, ?_⟩
  have hmap : ∀ x u, R I β κ (tkOf s.tk) x u → R (fun k => if k = β b then some cs.toList else I k) β κ (tkOf s.tk) (x.shut b cells) u := fun x u k => by
    cases k with
    | v hx => exact .v (hx.mono hIJ)
    | ptr => exact .ptr
    | acc0 => exact .acc0
    | acc h1 h2 h3 h4 h5 h6 => exact .acc h1 h2 h3 (h4.mono hIJ) h5 h6
    | @own b' n =>
      simp only [TV.shut]
      split
      · rename_i e
        subst e
        split
        · rename_i hn
          refine .v (.sl (sz := 1) (arr := cs.toList) (by simp) (fun e he => ?_) hn ?_ ?_ (Nat.le_refl _) (fun _ => rfl))
          · have := List.all_eq_true.1 hone' e he
            cases e <;> simp_all [PV.one, PV.cells]
          · rw [hfl, List.drop_zero, List.take_of_length_le (by omega)]
            exact hC.mono hIJ
          · rw [hfl]
            omega
        · exact .v (.junk _)
      · exact .own
  exact
    { below := h.below
      good := fun k arr hk => by
        by_cases e : k = β b
        · simp only [e, if_true, Option.some.injEq] at hk
          subst hk
          exact ⟨cs, ty, (0, 0), [], by rw [e]; exact hw, by simp⟩
        · simp only [e, if_false] at hk
          exact h.good k arr hk
      ext := Imm.le_trans h.ext hIJ
      old := fun k hk => by
        have e : k ≠ β b := by omega
        simpa [e] using h.old k hk
      tm := h.tm.map hmap
      sv := h.sv.map hmap
      box := fun j c hj => by
        simp only [St.shut, St.mapTV, lk_map, lk_rm] at hj
        by_cases e : j = b
        · simp [e] at hj
        · simp only [e, if_false] at hj
          obtain ⟨c0, hj0, rfl⟩ := Option.map_eq_some_iff.1 hj
          obtain ⟨h1, h2, cs', ty', h3, h4⟩ := h.box j c0 hj0
          have hne : β j ≠ β b := fun e' => e (h.inj _ _ _ _ hj0 hb e')
          exact ⟨h1, by simp [hne, h2], cs', ty', h3, h4.1.map hmap, h4.2⟩
      rob := fun j c hj => by
        simp only [St.shut, St.mapTV] at hj
        obtain ⟨arr, h1, h2, h3⟩ := h.rob j c hj
        obtain ⟨m, hm⟩ := hIJ _ _ h1
        refine ⟨_, hm, ?_, by simp; omega⟩
        rw [List.take_append_of_le_length h3]
        exact h2.mono hIJ
      inj := fun j j' c c' hj hj' hβ => by
        simp only [St.shut, St.mapTV, lk_map, lk_rm] at hj hj'
        by_cases e : j = b
        · simp [e] at hj
        · by_cases e' : j' = b
          · simp [e'] at hj'
          · simp only [e, e', if_false] at hj hj'
            obtain ⟨c0, hj0, _⟩ := Option.map_eq_some_iff.1 hj
            obtain ⟨c1, hj1, _⟩ := Option.map_eq_some_iff.1 hj'
            exact h.inj _ _ _ _ hj0 hj1 hβ
      tok := fun t ht => by
        obtain ⟨h1, cs', ty', arr, h2, h3, h4, h5⟩ := h.tok t ht
        have hne : (κ t).1 ≠ β b := fun e => by rw [e, hb2] at h4; cases h4
        exact ⟨h1, cs', ty', arr, h2, h3, by simp [hne, h4], h5⟩
      tinj := h.tinj
      dfr := h.dfr }

end
end Go.Proofs.Ytnfomjnmigkpmaa.A
