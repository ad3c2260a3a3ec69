/- The state of a call, told without memory ('St'): its slots, its own variables, and the rows that it appends to; and when the model's state reads as one ('Sim'). -/
import Derived.Test.YtnfomjnmigkpmaaA1
set_option linter.unusedVariables false
set_option linter.unusedSimpArgs false
namespace Go.Proofs.Ytnfomjnmigkpmaa.A
open Go Go.RowKit

/-- What a slot, or a cell of a variable of the call's own, holds: a value; the address of a variable of the call's own; a row that is being appended to. -/
inductive TV where
  | v (x : PV)
  | ptr (b off : Nat)
  | acc (t : Nat) (els : List PV)
  | own (b n : Nat)
  deriving Inhabited

def lk {β : Type} : Nat → List (Nat × β) → Option β
  | _, [] => none
  | k, (j, x) :: l => if j = k then some x else lk k l

def upd {β : Type} (k : Nat) (x : β) : List (Nat × β) → List (Nat × β)
  | [] => [(k, x)]
  | (j, y) :: l => if j = k then (k, x) :: l else if k < j then (k, x) :: (j, y) :: l else (j, y) :: upd k x l

theorem lk_upd {β : Type} (k j : Nat) (x : β) (l : List (Nat × β)) : lk j (upd k x l) = if j = k then some x else lk j l := by
  induction l with
  | nil => simp only [upd, lk]; split <;> split <;> simp_all
  | cons p l ih =>
    obtain ⟨i, y⟩ := p
    simp only [upd]
    by_cases h : i = k
    · subst h
      simp only [if_true, lk]
      by_cases h' : i = j
      · simp [h']
      · have h'' : ¬ j = i := fun e => h' e.symm
        simp [h', h'']
    · by_cases hlt : k < i
      · simp only [h, if_false, hlt, if_true, lk]
        by_cases h' : k = j
        · subst h'; simp
        · have h'' : ¬ j = k := fun e => h' e.symm
          simp [h', h'']
      · simp only [h, hlt, if_false, lk, ih]
        by_cases h' : i = j
        · subst h'; simp [h]
        · simp [h']

theorem upd_comm {β : Type} {k j : Nat} {x y : β} (h : k ≠ j) : ∀ (l : List (Nat × β)), upd k x (upd j y l) = upd j y (upd k x l)
  | [] => by
    have h' : ¬ j = k := fun e => h e.symm
    by_cases e1 : k < j
    · have : ¬ j < k := by omega
      simp [upd, h, h', e1, this]
    · have : j < k := by omega
      simp [upd, h, h', e1, this]
  | (i, z) :: l => by
    have h' : ¬ j = k := fun e => h e.symm
    by_cases e1 : i = k
    · subst e1
      have : ¬ i = j := h
      by_cases e2 : j < i
      · have e3 : ¬ i < j := by omega
        simp [upd, this, h', e2, e3]
      · simp [upd, this, e2]
    · by_cases e2 : i = j
      · subst e2
        by_cases e3 : k < i
        · have e4 : ¬ i < k := by omega
          simp [upd, e1, h, e3, e4]
        · simp [upd, e1, e3]
      · by_cases e3 : k < i
        · by_cases e4 : j < i
          · by_cases e5 : k < j
            · have e6 : ¬ j < k := by omega
              simp [upd, e1, e2, e3, e4, e5, e6, h, h']
            · have e6 : j < k := by omega
              simp [upd, e1, e2, e3, e4, e5, e6, h, h']
          · have e5 : k < j := by omega
            have e6 : ¬ j < k := by omega
            simp [upd, e1, e2, e3, e4, e5, e6, h, h']
        · by_cases e4 : j < i
          · have e5 : ¬ k < j := by omega
            have e6 : j < k := by omega
            simp [upd, e1, e2, e3, e4, e5, e6, h, h']
          · simp [upd, e1, e2, e3, e4, upd_comm h l]

structure St where
  tm : List TV
  bx : List (Nat × List TV)
  ro : List (Nat × List PV)
  tk : List (Nat × Nat)
  sv : List (List TV)
  it : Nat := 0
  deriving Inhabited

def tkOf (l : List (Nat × Nat)) (t : Nat) : Nat := (lk t l).getD 0

def TV.killPtr (b : Nat) : TV → TV
  | .v x => .v x
  | .ptr b' off => if b' = b then .v .junk else .ptr b' off
  | .acc t els => .acc t els
  | .own b' n => if b' = b then .v .junk else .own b' n

def TV.killTok (t : Nat) : TV → TV
  | .v x => .v x
  | .ptr b off => .ptr b off
  | .acc t' els => if t' = t then .v (.sl false els) else .acc t' els
  | .own b n => .own b n

def St.mapTV (f : TV → TV) (s : St) : St :=
  { s with tm := s.tm.map f, bx := s.bx.map fun p => (p.1, p.2.map f), sv := s.sv.map fun l => l.map f }

/-- A row of cells that reads as a row of told ones: of block c, from its first cell on. -/
def RowAt (I : Imm) (c sz : Nat) (els : List PV) : Prop :=
  ∃ arr, I c = some arr ∧ (∀ e ∈ els, e.cells.length = sz) ∧ Cs I (flat els) (arr.take (flat els).length) ∧ (flat els).length ≤ arr.length

/-- The model's value u is what the told one says; β: where the call's own variables lie; κ: of each row that is being appended to its block, how many elements that can take, how many cells each has; tk: how long it is now. -/
inductive R (I : Imm) (β : Nat → Nat) (κ : Nat → Nat × Nat × Nat) (tk : Nat → Nat) : TV → Value → Prop
  | v {x : PV} {u : Value} : C I x u → R I β κ tk (.v x) u
  | ptr {b off : Nat} : R I β κ tk (.ptr b off) (.pointer (some ⟨β b, off, none⟩))
  | acc0 {t : Nat} : R I β κ tk (.acc t []) (.slice none 0 0)
  | own {b n : Nat} : R I β κ tk (.own b n) (.slice (some ⟨β b, 0, none⟩) n n)
  | acc {t : Nat} {els : List PV} {c n cap sz : Nat} : els ≠ [] → n = els.length → n ≤ cap → RowAt I c sz els → n ≤ tk t → (n = tk t → κ t = (c, cap, sz)) →
      R I β κ tk (.acc t els) (.slice (some ⟨c, 0, none⟩) n cap)

inductive Rs (I : Imm) (β : Nat → Nat) (κ : Nat → Nat × Nat × Nat) (tk : Nat → Nat) : List TV → List Value → Prop
  | nil : Rs I β κ tk [] []
  | cons {x : TV} {v : Value} {xs : List TV} {vs : List Value} : R I β κ tk x v → Rs I β κ tk xs vs → Rs I β κ tk (x :: xs) (v :: vs)

inductive Rss (I : Imm) (β : Nat → Nat) (κ : Nat → Nat × Nat × Nat) (tk : Nat → Nat) : List (List TV) → List (Array Value) → Prop
  | nil : Rss I β κ tk [] []
  | cons {x : List TV} {v : Array Value} {xs : List (List TV)} {vs : List (Array Value)} : Rs I β κ tk x v.toList → Rss I β κ tk xs vs → Rss I β κ tk (x :: xs) (v :: vs)

section
variable {I J : Imm} {β β' : Nat → Nat} {κ κ' : Nat → Nat × Nat × Nat} {tk tk' : Nat → Nat}

/-- From one reading of slots to another, slot by slot. -/
theorem Rs.map {f : TV → TV} (h : ∀ x u, R I β κ tk x u → R J β' κ' tk' (f x) u) {xs : List TV} {vs : List Value} (k : Rs I β κ tk xs vs) : Rs J β' κ' tk' (xs.map f) vs := by
  induction k with
  | nil => exact .nil
  | cons hx _ ih => exact .cons (h _ _ hx) ih

theorem Rss.map {f : TV → TV} (h : ∀ x u, R I β κ tk x u → R J β' κ' tk' (f x) u) {xs : List (List TV)} {vs : List (Array Value)} (k : Rss I β κ tk xs vs) : Rss J β' κ' tk' (xs.map fun l => l.map f) vs := by
  induction k with
  | nil => exact .nil
  | cons hx _ ih => exact .cons (hx.map h) ih

theorem Rs.length {xs : List TV} {vs : List Value} (h : Rs I β κ tk xs vs) : xs.length = vs.length := by
  induction h with
  | nil => rfl
  | cons _ _ ih => simp [ih]

theorem Rs.get {xs : List TV} {vs : List Value} (h : Rs I β κ tk xs vs) {i : Nat} {x : TV} (hi : xs[i]? = some x) : ∃ v, vs[i]? = some v ∧ R I β κ tk x v := by
  induction h generalizing i with
  | nil => simp at hi
  | cons hx _ ih =>
    cases i with
    | zero => simp at hi; subst hi; exact ⟨_, rfl, hx⟩
    | succ i => simp at hi; simpa using ih hi

theorem Rs.set {xs : List TV} {vs : List Value} (h : Rs I β κ tk xs vs) (i : Nat) {x : TV} {v : Value} (hx : R I β κ tk x v) : Rs I β κ tk (xs.set i x) (vs.set i v) := by
  induction h generalizing i with
  | nil => exact .nil
  | cons hy hs ih =>
    cases i with
    | zero => exact .cons hx hs
    | succ i => exact .cons hy (ih i)

theorem RowAt.mono (h : I.le J) {c sz : Nat} {els : List PV} (k : RowAt I c sz els) : RowAt J c sz els := by
  obtain ⟨arr, ha, hu, hc, hl⟩ := k
  obtain ⟨m, hm⟩ := h _ _ ha
  refine ⟨_, hm, hu, ?_, by simp; omega⟩
  rw [List.take_append_of_le_length hl]
  exact hc.mono h

theorem R.mono (h : I.le J) {x : TV} {u : Value} (k : R I β κ tk x u) : R J β κ tk x u := by
  cases k with
  | v hx => exact .v (hx.mono h)
  | ptr => exact .ptr
  | own => exact .own
  | acc0 => exact .acc0
  | acc h1 h2 h3 h4 h5 h6 => exact .acc h1 h2 h3 (h4.mono h) h5 h6

/-- What is being appended to, as a value. -/
theorem R.toC {t : Nat} {els : List PV} {u : Value} (h : R I β κ tk (.acc t els) u) : C I (.sl false els) u := by
  cases h with
  | acc0 => exact .sl0
  | acc h1 h2 h3 h4 h5 h6 =>
    obtain ⟨arr, ha, hu, hc, hl⟩ := h4
    exact .sl ha hu h2 (by simpa using hc) (by omega) h3 (fun h => by cases h)

end

/-- The model's state is what the told one says. w0, I0: the world as the call began, and what was known then. sav: the slots as they were where loops over functions were entered. -/
structure Sim (w0 : World) (I0 I : Imm) (β : Nat → Nat) (κ : Nat → Nat × Nat × Nat) (s : St) (sav : List (Array Value)) (a : Act) (w : World) : Prop where
  below : Below w0.heap.size w0 w
  good : Good I w
  ext : I0.le I
  old : ∀ b, b < w0.heap.size → I b = I0 b
  tm : Rs I β κ (tkOf s.tk) s.tm a.tmps.toList
  sv : Rss I β κ (tkOf s.tk) s.sv sav
  box : ∀ b cells, lk b s.bx = some cells → w0.heap.size ≤ β b ∧ I (β b) = none ∧ ∃ cs ty, w.heap[β b]? = some (.cells cs ty (0, 0)) ∧ Rs I β κ (tkOf s.tk) cells cs.toList ∧ ∀ v ∈ cs.toList, v.oneCell' = true
  rob : ∀ b cells, lk b s.ro = some cells → ∃ arr, I (β b) = some arr ∧ Cs I cells (arr.take cells.length) ∧ cells.length ≤ arr.length
  inj : ∀ b b' c c', lk b s.bx = some c → lk b' s.bx = some c' → β b = β b' → b = b'
  tok : ∀ t, 0 < tkOf s.tk t → w0.heap.size ≤ (κ t).1 ∧ ∃ cs ty arr, w.heap[(κ t).1]? = some (.cells cs ty (0, 0)) ∧ cs.size = (κ t).2.1 * (κ t).2.2 ∧ I (κ t).1 = some arr ∧ arr.length = tkOf s.tk t * (κ t).2.2 ∧ tkOf s.tk t ≤ (κ t).2.1
  tinj : ∀ t t', 0 < tkOf s.tk t → 0 < tkOf s.tk t' → (κ t).1 = (κ t').1 → t = t'
  dfr : ∃ Ds : List Nat, a.defers = Ds.map (fun D => { target := .collected D, args := #[] }) ∧ Ds.Nodup ∧ ∀ D ∈ Ds, w0.heap.size ≤ D ∧ w.heap[D]? = some (.deferred (some []))

end Go.Proofs.Ytnfomjnmigkpmaa.A
