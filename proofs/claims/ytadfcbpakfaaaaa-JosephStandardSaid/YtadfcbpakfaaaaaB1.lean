/- Values of a run, told without memory: 'PV' (slices and closures by what they hold), and when a value of the model reads as one ('C'), given what is known never to change ('Imm'). -/
import Derived.CallsIn
import Derived.RangeFuncNested
import Derived.RangeFuncLeaves
import Derived.Below
import Derived.KernelRfl
set_option linter.unusedVariables false
set_option linter.unusedSimpArgs false
namespace Go.Proofs.Ytadfcbpakfaaaaa.A
open Go Go.RowKit

/-- A value, told by what it holds. -/
inductive PV where
  | s (v : Value)
  | agg (l : List PV)
  | tup (l : List PV)
  | sl (ex : Bool) (els : List PV)
  | vp (cells : List PV)
  | fn (f : Fn) (cap : List PV)
  | ifc (t : TypeId) (x : PV)
  | junk
  deriving Inhabited

def PV.cells : PV → List PV
  | .agg l => l
  | x => [x]

/-- Is it one cell, that is no struct? -/
def PV.one : PV → Bool
  | .agg _ => false
  | _ => true

/-- All cells of a row of elements. -/
def flat (els : List PV) : List PV := els.flatMap PV.cells

/-- Of some blocks: the first cells, which stay. -/
abbrev Imm := Nat → Option (List Value)

mutual
/-- The model's value v is what the told one says. -/
inductive C (I : Imm) : PV → Value → Prop
  | s (v : Value) : C I (.s v) v
  | junk (v : Value) : C I .junk v
  | agg {l : List PV} {a : Array Value} : Cs I l a.toList → C I (.agg l) (.agg a)
  | tup {l : List PV} {a : Array Value} : Cs I l a.toList → C I (.tup l) (.tuple a)
  | sl {ex : Bool} {els : List PV} {b off n sz cap : Nat} {arr : List Value} : I b = some arr → (∀ e ∈ els, e.cells.length = sz) → n = els.length →
      Cs I (flat els) ((arr.drop off).take (flat els).length) → off + (flat els).length ≤ arr.length → n ≤ cap → (ex = true → cap = n) → C I (.sl ex els) (.slice (some ⟨b, off, none⟩) n cap)
  | sl0 {ex : Bool} : C I (.sl ex []) (.slice none 0 0)
  | sle {ex : Bool} {a : Addr} : C I (.sl ex []) (.slice (some a) 0 0)
  | vp {cells : List PV} {b off : Nat} {arr : List Value} : I b = some arr → Cs I cells ((arr.drop off).take cells.length) → off + cells.length ≤ arr.length →
      C I (.vp cells) (.pointer (some ⟨b, off, none⟩))
  | fn {f : Fn} {l : List PV} {a : Array Value} : Cs I l a.toList → C I (.fn f l) (.func f #[] a)
  | ifc {t : TypeId} {x : PV} {v : Value} : C I x v → C I (.ifc t x) (.iface t v)
inductive Cs (I : Imm) : List PV → List Value → Prop
  | nil : Cs I [] []
  | cons {x : PV} {v : Value} {xs : List PV} {vs : List Value} : C I x v → Cs I xs vs → Cs I (x :: xs) (v :: vs)
end

/-- More is known. -/
def Imm.le (I J : Imm) : Prop := ∀ b arr, I b = some arr → ∃ more, J b = some (arr ++ more)

theorem Imm.le_refl (I : Imm) : I.le I := fun _ arr h => ⟨[], by simpa using h⟩
theorem Imm.le_trans {I J K : Imm} (h : I.le J) (k : J.le K) : I.le K := fun b arr hb => by
  obtain ⟨m, hm⟩ := h b arr hb
  obtain ⟨m', hm'⟩ := k b _ hm
  exact ⟨m ++ m', by simpa [List.append_assoc] using hm'⟩

theorem take_drop_append {α : Type} (l m : List α) (off n : Nat) (h : off + n ≤ l.length) : ((l ++ m).drop off).take n = (l.drop off).take n := by
  rw [List.drop_append_of_le_length (by omega), List.take_append_of_le_length (by simp; omega)]

mutual
theorem C.mono {I J : Imm} (h : I.le J) : ∀ {x : PV} {v : Value}, C I x v → C J x v
  | _, _, .s v => .s v
  | _, _, .junk v => .junk v
  | _, _, .agg hl => .agg (Cs.mono h hl)
  | _, _, .tup hl => .tup (Cs.mono h hl)
  | _, _, .sl hb hu hn hc hl hcap hex => by
    obtain ⟨m, hm⟩ := h _ _ hb
    refine .sl hm hu hn ?_ (by simp; omega) hcap hex
    rw [take_drop_append _ _ _ _ hl]
    exact Cs.mono h hc
  | _, _, .sl0 => .sl0
  | _, _, .sle => .sle
  | _, _, .vp hb hc hl => by
    obtain ⟨m, hm⟩ := h _ _ hb
    refine .vp hm ?_ (by simp; omega)
    rw [take_drop_append _ _ _ _ hl]
    exact Cs.mono h hc
  | _, _, .fn hl => .fn (Cs.mono h hl)
  | _, _, .ifc hx => .ifc (C.mono h hx)
theorem Cs.mono {I J : Imm} (h : I.le J) : ∀ {xs : List PV} {vs : List Value}, Cs I xs vs → Cs J xs vs
  | _, _, .nil => .nil
  | _, _, .cons hx hs => .cons (C.mono h hx) (Cs.mono h hs)
end

theorem Cs.length {I : Imm} {xs : List PV} {vs : List Value} (h : Cs I xs vs) : xs.length = vs.length := by
  induction xs generalizing vs with
  | nil => cases h; rfl
  | cons x xs ih => cases h with | cons _ hs => simp [ih hs]

theorem Cs.append {I : Imm} {xs ys : List PV} {vs us : List Value} (h : Cs I xs vs) (k : Cs I ys us) : Cs I (xs ++ ys) (vs ++ us) := by
  induction xs generalizing vs with
  | nil => cases h; exact k
  | cons x xs ih => cases h with | cons hx hs => exact .cons hx (ih hs)

theorem Cs.take {I : Imm} {xs : List PV} {vs : List Value} (h : Cs I xs vs) (n : Nat) : Cs I (xs.take n) (vs.take n) := by
  induction n generalizing xs vs with
  | zero => simp; exact .nil
  | succ n ih => cases h with
    | nil => simp; exact .nil
    | cons hx hs => simp; exact .cons hx (ih hs)

theorem Cs.drop {I : Imm} {xs : List PV} {vs : List Value} (h : Cs I xs vs) (n : Nat) : Cs I (xs.drop n) (vs.drop n) := by
  induction n generalizing xs vs with
  | zero => simpa using h
  | succ n ih => cases h with
    | nil => simp; exact .nil
    | cons hx hs => simpa using ih hs

theorem Cs.get {I : Imm} {xs : List PV} {vs : List Value} (h : Cs I xs vs) {i : Nat} {x : PV} (hi : xs[i]? = some x) : ∃ v, vs[i]? = some v ∧ C I x v := by
  induction i generalizing xs vs with
  | zero => cases h with
    | nil => simp at hi
    | cons hx hs => simp at hi; subst hi; exact ⟨_, rfl, hx⟩
  | succ i ih => cases h with
    | nil => simp at hi
    | cons hx hs => simp at hi; simpa using ih hs hi

theorem Cs.set {I : Imm} {xs : List PV} {vs : List Value} (h : Cs I xs vs) (i : Nat) {x : PV} {v : Value} (hx : C I x v) : Cs I (xs.set i x) (vs.set i v) := by
  induction i generalizing xs vs with
  | zero => cases h with
    | nil => exact .nil
    | cons _ hs => exact .cons hx hs
  | succ i ih => cases h with
    | nil => exact .nil
    | cons hy hs => exact .cons hy (ih hs)

theorem Cs.snoc {I : Imm} {xs : List PV} {vs : List Value} {x : PV} {v : Value} (h : Cs I xs vs) (hx : C I x v) : Cs I (xs ++ [x]) (vs ++ [v]) := h.append (.cons hx .nil)

/-- A value's cells read as the told one's cells. -/
theorem C.cells {I : Imm} {x : PV} {v : Value} (h : C I x v) (hx : x ≠ .junk) (hv : ∀ w, x = .s w → ∀ a, w ≠ .agg a) : Cs I x.cells v.cells.toList := by
  cases h with
  | s => 
    have hv' := hv _ rfl
    cases v <;> first | exact .cons (.s _) .nil | exact absurd rfl (hv' _)
  | junk => exact absurd rfl hx
  | agg hl => exact hl
  | tup hl => exact .cons (.tup hl) .nil
  | sl hb hu hn hc hl hcap hex => exact .cons (.sl hb hu hn hc hl hcap hex) .nil
  | sl0 => exact .cons .sl0 .nil
  | sle => exact .cons .sle .nil
  | vp hb hc hl => exact .cons (.vp hb hc hl) .nil
  | fn hl => exact .cons (.fn hl) .nil
  | ifc hx' => exact .cons (.ifc hx') .nil

/-- What the world must hold of what is known to stay. -/
def Good (I : Imm) (w : World) : Prop := ∀ b arr, I b = some arr → ∃ cs ty fz more, w.heap[b]? = some (.cells cs ty fz) ∧ cs.toList = arr ++ more

theorem Good.lt {I : Imm} {w : World} (h : Good I w) {b : Nat} {arr : List Value} (hb : I b = some arr) : b < w.heap.size := by
  obtain ⟨cs, ty, fz, more, hw, _⟩ := h b arr hb
  exact (Array.getElem?_eq_some_iff.1 hw).1

/-- What was known stays, below what is new. -/
theorem Good.below {I : Imm} {w w' : World} (h : Good I w) (hb : Below w.heap.size w w') : Good I w' := fun b arr hI => by
  obtain ⟨cs, ty, fz, more, hw, hc⟩ := h b arr hI
  exact ⟨cs, ty, fz, more, (hb.block b (h.lt hI)).trans hw, hc⟩

end Go.Proofs.Ytadfcbpakfaaaaa.A

/- The state of a call, told without memory ('St'): its slots, its own variables, and the rows that it appends to; and when the model's state reads as one ('Sim'). -/
set_option linter.unusedVariables false
set_option linter.unusedSimpArgs false
namespace Go.Proofs.Ytadfcbpakfaaaaa.A
open Go Go.RowKit

/-- What a slot, or a cell of a variable of the call's own, holds: a value; the address of a variable of the call's own; a row that is being appended to. -/
inductive TV where
  | v (x : PV)
  | ptr (b off : Nat)
  | acc (t : Nat) (els : List PV)
  | own (b n : Nat)
  deriving Inhabited

def lk {β : Type} : Nat → List (Nat × β) → Option β
  | _, [] => none
  | k, (j, x) :: l => if j = k then some x else lk k l

def upd {β : Type} (k : Nat) (x : β) : List (Nat × β) → List (Nat × β)
  | [] => [(k, x)]
  | (j, y) :: l => if j = k then (k, x) :: l else if k < j then (k, x) :: (j, y) :: l else (j, y) :: upd k x l

theorem lk_upd {β : Type} (k j : Nat) (x : β) (l : List (Nat × β)) : lk j (upd k x l) = if j = k then some x else lk j l := by
  induction l with
  | nil => simp only [upd, lk]; split <;> split <;> simp_all
  | cons p l ih =>
    obtain ⟨i, y⟩ := p
    simp only [upd]
    by_cases h : i = k
    · subst h
      simp only [if_true, lk]
      by_cases h' : i = j
      · simp [h']
      · have h'' : ¬ j = i := fun e => h' e.symm
        simp [h', h'']
    · by_cases hlt : k < i
      · simp only [h, if_false, hlt, if_true, lk]
        by_cases h' : k = j
        · subst h'; simp
        · have h'' : ¬ j = k := fun e => h' e.symm
          simp [h', h'']
      · simp only [h, hlt, if_false, lk, ih]
        by_cases h' : i = j
        · subst h'; simp [h]
        · simp [h']

theorem upd_comm {β : Type} {k j : Nat} {x y : β} (h : k ≠ j) : ∀ (l : List (Nat × β)), upd k x (upd j y l) = upd j y (upd k x l)
  | [] => by
    have h' : ¬ j = k := fun e => h e.symm
    by_cases e1 : k < j
    · have : ¬ j < k := by omega
      simp [upd, h, h', e1, this]
    · have : j < k := by omega
      simp [upd, h, h', e1, this]
  | (i, z) :: l => by
    have h' : ¬ j = k := fun e => h e.symm
    by_cases e1 : i = k
    · subst e1
      have : ¬ i = j := h
      by_cases e2 : j < i
      · have e3 : ¬ i < j := by omega
        simp [upd, this, h', e2, e3]
      · simp [upd, this, e2]
    · by_cases e2 : i = j
      · subst e2
        by_cases e3 : k < i
        · have e4 : ¬ i < k := by omega
          simp [upd, e1, h, e3, e4]
        · simp [upd, e1, e3]
      · by_cases e3 : k < i
        · by_cases e4 : j < i
          · by_cases e5 : k < j
            · have e6 : ¬ j < k := by omega
              simp [upd, e1, e2, e3, e4, e5, e6, h, h']
            · have e6 : j < k := by omega
              simp [upd, e1, e2, e3, e4, e5, e6, h, h']
          · have e5 : k < j := by omega
            have e6 : ¬ j < k := by omega
            simp [upd, e1, e2, e3, e4, e5, e6, h, h']
        · by_cases e4 : j < i
          · have e5 : ¬ k < j := by omega
            have e6 : j < k := by omega
            simp [upd, e1, e2, e3, e4, e5, e6, h, h']
          · simp [upd, e1, e2, e3, e4, upd_comm h l]

structure St where
  tm : List TV
  bx : List (Nat × List TV)
  ro : List (Nat × List PV)
  tk : List (Nat × Nat)
  sv : List (List TV)
  it : Nat := 0
  deriving Inhabited

def tkOf (l : List (Nat × Nat)) (t : Nat) : Nat := (lk t l).getD 0

def TV.killPtr (b : Nat) : TV → TV
  | .v x => .v x
  | .ptr b' off => if b' = b then .v .junk else .ptr b' off
  | .acc t els => .acc t els
  | .own b' n => if b' = b then .v .junk else .own b' n

def TV.killTok (t : Nat) : TV → TV
  | .v x => .v x
  | .ptr b off => .ptr b off
  | .acc t' els => if t' = t then .v (.sl false els) else .acc t' els
  | .own b n => .own b n

def St.mapTV (f : TV → TV) (s : St) : St :=
  { s with tm := s.tm.map f, bx := s.bx.map fun p => (p.1, p.2.map f), sv := s.sv.map fun l => l.map f }

/-- A row of cells that reads as a row of told ones: of block c, from its first cell on. -/
def RowAt (I : Imm) (c sz : Nat) (els : List PV) : Prop :=
  ∃ arr, I c = some arr ∧ (∀ e ∈ els, e.cells.length = sz) ∧ Cs I (flat els) (arr.take (flat els).length) ∧ (flat els).length ≤ arr.length

/-- The model's value u is what the told one says; β: where the call's own variables lie; κ: of each row that is being appended to its block, how many elements that can take, how many cells each has; tk: how long it is now. -/
inductive R (I : Imm) (β : Nat → Nat) (κ : Nat → Nat × Nat × Nat) (tk : Nat → Nat) : TV → Value → Prop
  | v {x : PV} {u : Value} : C I x u → R I β κ tk (.v x) u
  | ptr {b off : Nat} : R I β κ tk (.ptr b off) (.pointer (some ⟨β b, off, none⟩))
  | acc0 {t : Nat} : R I β κ tk (.acc t []) (.slice none 0 0)
  | own {b n : Nat} : R I β κ tk (.own b n) (.slice (some ⟨β b, 0, none⟩) n n)
  | acc {t : Nat} {els : List PV} {c n cap sz : Nat} : els ≠ [] → n = els.length → n ≤ cap → RowAt I c sz els → n ≤ tk t → (n = tk t → κ t = (c, cap, sz)) →
      R I β κ tk (.acc t els) (.slice (some ⟨c, 0, none⟩) n cap)

inductive Rs (I : Imm) (β : Nat → Nat) (κ : Nat → Nat × Nat × Nat) (tk : Nat → Nat) : List TV → List Value → Prop
  | nil : Rs I β κ tk [] []
  | cons {x : TV} {v : Value} {xs : List TV} {vs : List Value} : R I β κ tk x v → Rs I β κ tk xs vs → Rs I β κ tk (x :: xs) (v :: vs)

inductive Rss (I : Imm) (β : Nat → Nat) (κ : Nat → Nat × Nat × Nat) (tk : Nat → Nat) : List (List TV) → List (Array Value) → Prop
  | nil : Rss I β κ tk [] []
  | cons {x : List TV} {v : Array Value} {xs : List (List TV)} {vs : List (Array Value)} : Rs I β κ tk x v.toList → Rss I β κ tk xs vs → Rss I β κ tk (x :: xs) (v :: vs)

section
variable {I J : Imm} {β β' : Nat → Nat} {κ κ' : Nat → Nat × Nat × Nat} {tk tk' : Nat → Nat}

/-- From one reading of slots to another, slot by slot. -/
theorem Rs.map {f : TV → TV} (h : ∀ x u, R I β κ tk x u → R J β' κ' tk' (f x) u) {xs : List TV} {vs : List Value} (k : Rs I β κ tk xs vs) : Rs J β' κ' tk' (xs.map f) vs := by
  induction k with
  | nil => exact .nil
  | cons hx _ ih => exact .cons (h _ _ hx) ih

theorem Rss.map {f : TV → TV} (h : ∀ x u, R I β κ tk x u → R J β' κ' tk' (f x) u) {xs : List (List TV)} {vs : List (Array Value)} (k : Rss I β κ tk xs vs) : Rss J β' κ' tk' (xs.map fun l => l.map f) vs := by
  induction k with
  | nil => exact .nil
  | cons hx _ ih => exact .cons (hx.map h) ih

theorem Rs.length {xs : List TV} {vs : List Value} (h : Rs I β κ tk xs vs) : xs.length = vs.length := by
  induction h with
  | nil => rfl
  | cons _ _ ih => simp [ih]

theorem Rs.get {xs : List TV} {vs : List Value} (h : Rs I β κ tk xs vs) {i : Nat} {x : TV} (hi : xs[i]? = some x) : ∃ v, vs[i]? = some v ∧ R I β κ tk x v := by
  induction h generalizing i with
  | nil => simp at hi
  | cons hx _ ih =>
    cases i with
    | zero => simp at hi; subst hi; exact ⟨_, rfl, hx⟩
    | succ i => simp at hi; simpa using ih hi

theorem Rs.set {xs : List TV} {vs : List Value} (h : Rs I β κ tk xs vs) (i : Nat) {x : TV} {v : Value} (hx : R I β κ tk x v) : Rs I β κ tk (xs.set i x) (vs.set i v) := by
  induction h generalizing i with
  | nil => exact .nil
  | cons hy hs ih =>
    cases i with
    | zero => exact .cons hx hs
    | succ i => exact .cons hy (ih i)

theorem RowAt.mono (h : I.le J) {c sz : Nat} {els : List PV} (k : RowAt I c sz els) : RowAt J c sz els := by
  obtain ⟨arr, ha, hu, hc, hl⟩ := k
  obtain ⟨m, hm⟩ := h _ _ ha
  refine ⟨_, hm, hu, ?_, by simp; omega⟩
  rw [List.take_append_of_le_length hl]
  exact hc.mono h

theorem R.mono (h : I.le J) {x : TV} {u : Value} (k : R I β κ tk x u) : R J β κ tk x u := by
  cases k with
  | v hx => exact .v (hx.mono h)
  | ptr => exact .ptr
  | own => exact .own
  | acc0 => exact .acc0
  | acc h1 h2 h3 h4 h5 h6 => exact .acc h1 h2 h3 (h4.mono h) h5 h6

/-- What is being appended to, as a value. -/
theorem R.toC {t : Nat} {els : List PV} {u : Value} (h : R I β κ tk (.acc t els) u) : C I (.sl false els) u := by
  cases h with
  | acc0 => exact .sl0
  | acc h1 h2 h3 h4 h5 h6 =>
    obtain ⟨arr, ha, hu, hc, hl⟩ := h4
    exact .sl ha hu h2 (by simpa using hc) (by omega) h3 (fun h => by cases h)

end

/-- The model's state is what the told one says. w0, I0: the world as the call began, and what was known then. sav: the slots as they were where loops over functions were entered. -/
structure Sim (w0 : World) (I0 I : Imm) (β : Nat → Nat) (κ : Nat → Nat × Nat × Nat) (s : St) (sav : List (Array Value)) (a : Act) (w : World) : Prop where
  below : Below w0.heap.size w0 w
  good : Good I w
  ext : I0.le I
  old : ∀ b, b < w0.heap.size → I b = I0 b
  tm : Rs I β κ (tkOf s.tk) s.tm a.tmps.toList
  sv : Rss I β κ (tkOf s.tk) s.sv sav
  box : ∀ b cells, lk b s.bx = some cells → w0.heap.size ≤ β b ∧ I (β b) = none ∧ ∃ cs ty, w.heap[β b]? = some (.cells cs ty (0, 0)) ∧ Rs I β κ (tkOf s.tk) cells cs.toList ∧ ∀ v ∈ cs.toList, v.oneCell' = true
  rob : ∀ b cells, lk b s.ro = some cells → ∃ arr, I (β b) = some arr ∧ Cs I cells (arr.take cells.length) ∧ cells.length ≤ arr.length
  inj : ∀ b b' c c', lk b s.bx = some c → lk b' s.bx = some c' → β b = β b' → b = b'
  tok : ∀ t, 0 < tkOf s.tk t → w0.heap.size ≤ (κ t).1 ∧ ∃ cs ty arr, w.heap[(κ t).1]? = some (.cells cs ty (0, 0)) ∧ cs.size = (κ t).2.1 * (κ t).2.2 ∧ I (κ t).1 = some arr ∧ arr.length = tkOf s.tk t * (κ t).2.2 ∧ tkOf s.tk t ≤ (κ t).2.1
  tinj : ∀ t t', 0 < tkOf s.tk t → 0 < tkOf s.tk t' → (κ t).1 = (κ t').1 → t = t'
  dfr : ∃ Ds : List Nat, a.defers = Ds.map (fun D => { target := .collected D, args := #[] }) ∧ Ds.Nodup ∧ ∀ D ∈ Ds, w0.heap.size ≤ D ∧ w.heap[D]? = some (.deferred (some []))

end Go.Proofs.Ytadfcbpakfaaaaa.A

/- What each step of the model does to a state that reads as a told one. -/
set_option linter.unusedVariables false
set_option linter.unusedSimpArgs false
namespace Go.Proofs.Ytadfcbpakfaaaaa.A
open Go Go.RowKit

def rm {β : Type} (k : Nat) : List (Nat × β) → List (Nat × β)
  | [] => []
  | (j, y) :: l => if j = k then rm k l else (j, y) :: rm k l

theorem lk_rm {β : Type} (k j : Nat) (l : List (Nat × β)) : lk j (rm k l) = if j = k then none else lk j l := by
  induction l with
  | nil => simp [rm, lk]
  | cons p l ih =>
    obtain ⟨i, y⟩ := p
    simp only [rm]
    by_cases h : i = k
    · subst h
      simp only [if_true, ih, lk]
      by_cases h' : i = j
      · simp [h']
      · have h'' : ¬ j = i := fun e => h' e.symm
        simp [h', h'']
    · simp only [h, if_false, lk, ih]
      by_cases h' : i = j
      · subst h'; simp [h]
      · simp [h']

theorem lk_map {β γ : Type} (f : β → γ) (k : Nat) (l : List (Nat × β)) : lk k (l.map fun p => (p.1, f p.2)) = (lk k l).map f := by
  induction l with
  | nil => rfl
  | cons p l ih =>
    obtain ⟨i, y⟩ := p
    simp only [List.map_cons, lk, ih]
    split <;> rfl

theorem tkOf_upd (l : List (Nat × Nat)) (t t' n : Nat) : tkOf (upd t n l) t' = if t' = t then n else tkOf l t' := by
  unfold tkOf
  rw [lk_upd]
  split <;> simp_all

/-- One block has turned, at most. -/
structure OnlyAt (k : Nat) (w w' : World) : Prop where
  os : w'.os = w.os
  tape : w'.tape = w.tape
  output : w'.output = w.output
  size : w'.heap.size = w.heap.size
  block : ∀ j, j ≠ k → w'.heap[j]? = w.heap[j]?

theorem OnlyAt.refl (k : Nat) (w : World) : OnlyAt k w w := ⟨rfl, rfl, rfl, rfl, fun _ _ => rfl⟩
theorem OnlyAt.trans {k : Nat} {w w' w'' : World} (h : OnlyAt k w w') (g : OnlyAt k w' w'') : OnlyAt k w w'' :=
  ⟨g.os.trans h.os, g.tape.trans h.tape, g.output.trans h.output, g.size.trans h.size, fun j hj => (g.block j hj).trans (h.block j hj)⟩
theorem OnlyAt.setCell (w : World) (p : Addr) (v : Value) : OnlyAt p.block w (w.setCell p v) :=
  ⟨rfl, rfl, rfl, by simp, fun j hj => Below.heap_setCell _ _ _ _ hj⟩
theorem OnlyAt.below {k B : Nat} {w w' : World} (h : OnlyAt k w w') (hk : B ≤ k) : Below B w w' :=
  ⟨h.os, h.tape, h.output, Nat.le_of_eq h.size.symm, fun j hj => h.block j (by omega)⟩

section
variable {w0 w w' : World} {I0 I J : Imm} {β : Nat → Nat} {κ : Nat → Nat × Nat × Nat} {s : St} {sav : List (Array Value)} {a : Act}

theorem Sim.size (h : Sim w0 I0 I β κ s sav a w) : w0.heap.size ≤ w.heap.size := h.below.size

theorem Sim.put (h : Sim w0 I0 I β κ s sav a w) (d : Nat) {x : TV} {v : Value} (hx : R I β κ (tkOf s.tk) x v) :
    Sim w0 I0 I β κ { s with tm := s.tm.set d x } sav (a.put (some d) v) w :=
  { h with
    tm := by simp only [Act.put, Array.toList_setIfInBounds]; exact h.tm.set d hx
    dfr := by simpa [Act.put] using h.dfr }

/-- Slots told by less. -/
theorem Sim.put_junk (h : Sim w0 I0 I β κ s sav a w) (d : Option Nat) (v : Value) :
    Sim w0 I0 I β κ (match d with | some d => { s with tm := s.tm.set d (.v .junk) } | none => s) sav (a.put d v) w := by
  cases d with
  | none => exact h
  | some d => exact h.put d (.v (.junk v))

theorem Sim.grow (h : Sim w0 I0 I β κ s sav a w) (hb : Below w.heap.size w w') (hJ : I.le J) (hold : ∀ b, b < w.heap.size → J b = I b) (hg : Good J w') :
    Sim w0 I0 J β κ s sav a w' where
  below := h.below.trans (hb.mono h.size)
  good := hg
  ext := Imm.le_trans h.ext hJ
  old := fun b hlt => (hold b (Nat.lt_of_lt_of_le hlt h.size)).trans (h.old b hlt)
  tm := by have := h.tm.map (f := id) (fun _ _ k => k.mono hJ); rwa [List.map_id] at this
  sv := by have := h.sv.map (f := id) (fun _ _ k => k.mono hJ); simpa using this
  box := fun b cells hc => by
    obtain ⟨h1, h2, cs, ty, h3, h4⟩ := h.box b cells hc
    have hlt := (Array.getElem?_eq_some_iff.1 h3).1
    refine ⟨h1, by rw [hold _ hlt, h2], cs, ty, by rw [hb.block _ hlt, h3], ?_, h4.2⟩
    have := h4.1.map (f := id) (fun _ _ k => k.mono hJ)
    rwa [List.map_id] at this
  rob := fun b cells hc => by
    obtain ⟨arr, h1, h2, h3⟩ := h.rob b cells hc
    obtain ⟨m, hm⟩ := hJ _ _ h1
    refine ⟨_, hm, ?_, by simp; omega⟩
    rw [List.take_append_of_le_length h3]
    exact h2.mono hJ
  inj := h.inj
  tok := fun t ht => by
    obtain ⟨h1, cs, ty, arr, h2, h3, h4, h5⟩ := h.tok t ht
    have hlt := (Array.getElem?_eq_some_iff.1 h2).1
    exact ⟨h1, cs, ty, arr, by rw [hb.block _ hlt, h2], h3, by rw [hold _ hlt, h4], h5⟩
  tinj := h.tinj
  dfr := by
    obtain ⟨Ds, h1, h2, h3⟩ := h.dfr
    exact ⟨Ds, h1, h2, fun D hD => ⟨(h3 D hD).1, by rw [hb.block _ (Array.getElem?_eq_some_iff.1 (h3 D hD).2).1, (h3 D hD).2]⟩⟩

theorem Imm.none_new (h : Good I w) {b : Nat} (hb : w.heap.size ≤ b) : I b = none := by
  cases hi : I b with
  | none => rfl
  | some arr => have := h.lt hi; omega

theorem Sim.draw (h : Sim w0 I0 I β κ s sav a w) (n : Nat) : Sim w0 I0 I β κ s sav a { w with drawn := n } :=
  h.grow ⟨rfl, rfl, rfl, Nat.le_refl _, fun _ _ => rfl⟩ (Imm.le_refl _) (fun _ _ => rfl) (h.good)

theorem Sim.drew (h : Sim w0 I0 I β κ s sav a w) : Sim w0 I0 I β κ s sav a w.drew := h.draw _

/-- A new block of which nothing is told. -/
theorem Sim.alloc (h : Sim w0 I0 I β κ s sav a w) (o : Obj) : Sim w0 I0 I β κ s sav a (w.alloc o) :=
  h.grow ((Below.refl _ w).alloc (Nat.le_refl _) o) (Imm.le_refl _) (fun _ _ => rfl) (h.good.below ((Below.refl _ w).alloc (Nat.le_refl _) o))

/-- A new variable of the call's own. -/
def St.newBox (b : Nat) (cells : List TV) (s : St) : St :=
  { s.mapTV (TV.killPtr b) with bx := upd b (cells.map (TV.killPtr b)) (s.mapTV (TV.killPtr b)).bx }

theorem R.killPtr {tk : Nat → Nat} (b c : Nat) (x : TV) (u : Value) (h : R I β κ tk x u) : R I (fun j => if j = b then c else β j) κ tk (x.killPtr b) u := by
  cases h with
  | v hx => exact .v hx
  | @ptr b' off =>
    simp only [TV.killPtr]
    by_cases e : b' = b
    · rw [if_pos e]; exact .v (.junk _)
    · rw [if_neg e]
      have : R I (fun j => if j = b then c else β j) κ tk (.ptr b' off) (.pointer (some ⟨(fun j => if j = b then c else β j) b', off, none⟩)) := .ptr
      simpa [e] using this
  | @own b' n =>
    simp only [TV.killPtr]
    by_cases e : b' = b
    · rw [if_pos e]; exact .v (.junk _)
    · rw [if_neg e]
      have : R I (fun j => if j = b then c else β j) κ tk (.own b' n) (.slice (some ⟨(fun j => if j = b then c else β j) b', 0, none⟩) n n) := .own
      simpa [e] using this
  | acc0 => exact .acc0
  | acc h1 h2 h3 h4 h5 h6 => exact .acc h1 h2 h3 h4 h5 h6

theorem Sim.newBox (h : Sim w0 I0 I β κ s sav a w) (b : Nat) (cells : List TV) (cs : Array Value) (ty : TypeId) (hro : lk b s.ro = none) (hc : Rs I β κ (tkOf s.tk) cells cs.toList) (hone : ∀ v ∈ cs.toList, v.oneCell' = true) :
    Sim w0 I0 I (fun j => if j = b then w.heap.size else β j) κ (s.newBox b cells) sav a (w.alloc (.cells cs ty)) := by
  have h0 := h.alloc (.cells cs ty)
  have hnew : (w.alloc (.cells cs ty)).heap[w.heap.size]? = some (.cells cs ty (0, 0)) := World.alloc_heap_new w _
  have lt_box : ∀ j c, lk j s.bx = some c → β j < w.heap.size := fun j c hj => by
    obtain ⟨_, _, cs', ty', h3, _⟩ := h.box j c hj
    exact (Array.getElem?_eq_some_iff.1 h3).1
  have hbx : ∀ j, lk j (s.newBox b cells).bx = if j = b then some (cells.map (TV.killPtr b)) else (lk j s.bx).map fun l => l.map (TV.killPtr b) := fun j => by
    simp only [St.newBox, St.mapTV, lk_upd, lk_map]
  exact
    { below := h0.below
      good := h0.good
      ext := h0.ext
      old := h0.old
      tm := h.tm.map fun x u k => k.killPtr b _
      sv := h.sv.map fun x u k => k.killPtr b _
      box := fun j c hj => by
        rw [hbx] at hj
        by_cases e : j = b
        · simp only [e, if_true, Option.some.injEq] at hj ⊢
          subst hj
          exact ⟨h.size, Imm.none_new h.good (Nat.le_refl _), cs, ty, hnew, hc.map fun x u k => k.killPtr b _, hone⟩
        · simp only [e, if_false, Option.map_eq_some_iff] at hj ⊢
          obtain ⟨c', hj', rfl⟩ := hj
          obtain ⟨h1, h2, cs', ty', h3, h4⟩ := h0.box j c' hj'
          exact ⟨h1, h2, cs', ty', h3, h4.1.map fun x u k => k.killPtr b _, h4.2⟩
      rob := fun j c hj => by
        have hj' : lk j s.ro = some c := hj
        have e : j ≠ b := fun e => by subst e; rw [hro] at hj'; cases hj'
        simpa [e] using h0.rob j c hj'
      inj := fun j j' c c' hj hj' hβ => by
        rw [hbx] at hj hj'
        by_cases e : j = b <;> by_cases e' : j' = b
        · rw [e, e']
        · simp only [e, e', if_true, if_false, Option.map_eq_some_iff] at hj hj' hβ
          obtain ⟨c1, hj1, _⟩ := hj'
          have := lt_box _ _ hj1
          omega
        · simp only [e, e', if_true, if_false, Option.map_eq_some_iff] at hj hj' hβ
          obtain ⟨c1, hj1, _⟩ := hj
          have := lt_box _ _ hj1
          omega
        · simp only [e, e', if_false, Option.map_eq_some_iff] at hj hj' hβ
          obtain ⟨c1, hj1, _⟩ := hj
          obtain ⟨c2, hj2, _⟩ := hj'
          exact h.inj _ _ _ _ hj1 hj2 hβ
      tok := h0.tok
      tinj := h0.tinj
      dfr := h0.dfr }

/-- A store into a variable of the call's own. -/
theorem Sim.store (h : Sim w0 I0 I β κ s sav a w) {b : Nat} {cells cells' : List TV} (hb : lk b s.bx = some cells) (ho : OnlyAt (β b) w w') {cs' : Array Value} {ty : TypeId}
    (hw : w'.heap[β b]? = some (.cells cs' ty (0, 0))) (hc : Rs I β κ (tkOf s.tk) cells' cs'.toList) (hone : ∀ v ∈ cs'.toList, v.oneCell' = true) :
    Sim w0 I0 I β κ { s with bx := upd b cells' s.bx } sav a w' := by
  obtain ⟨hb1, hb2, _⟩ := h.box b cells hb
  have hI : ∀ k arr, I k = some arr → k ≠ β b := fun k arr hk e => by rw [e, hb2] at hk; cases hk
  exact
    { below := h.below.trans (ho.below hb1)
      good := fun k arr hk => by
        obtain ⟨cs, ty, fz, more, h1, h2⟩ := h.good k arr hk
        exact ⟨cs, ty, fz, more, (ho.block k (hI k arr hk)).trans h1, h2⟩
      ext := h.ext
      old := h.old
      tm := h.tm
      sv := h.sv
      box := fun j c hj => by
        simp only [lk_upd] at hj
        by_cases e : j = b
        · simp only [e, if_true, Option.some.injEq] at hj ⊢
          subst hj
          exact ⟨hb1, hb2, cs', ty, hw, hc, hone⟩
        · simp only [e, if_false] at hj
          obtain ⟨h1, h2, cs, ty, h3, h4⟩ := h.box j c hj
          exact ⟨h1, h2, cs, ty, (ho.block _ (fun e' => e (h.inj _ _ _ _ hj hb e'))).trans h3, h4⟩
      rob := h.rob
      inj := fun j j' c c' hj hj' hβ => by
        simp only [lk_upd] at hj hj'
        have k1 : ∃ c1, lk j s.bx = some c1 := by
          by_cases e : j = b
          · exact ⟨_, e ▸ hb⟩
          · simp only [e, if_false] at hj; exact ⟨_, hj⟩
        have k2 : ∃ c1, lk j' s.bx = some c1 := by
          by_cases e : j' = b
          · exact ⟨_, e ▸ hb⟩
          · simp only [e, if_false] at hj'; exact ⟨_, hj'⟩
        obtain ⟨c1, k1⟩ := k1
        obtain ⟨c2, k2⟩ := k2
        exact h.inj _ _ _ _ k1 k2 hβ
      tok := fun t ht => by
        obtain ⟨h1, cs, ty, arr, h2, h3, h4, h5⟩ := h.tok t ht
        exact ⟨h1, cs, ty, arr, (ho.block _ (hI _ _ h4)).trans h2, h3, h4, h5⟩
      tinj := h.tinj
      dfr := by
        obtain ⟨Ds, h1, h2, h3⟩ := h.dfr
        refine ⟨Ds, h1, h2, fun D hD => ⟨(h3 D hD).1, (ho.block D (fun e => ?_)).trans (h3 D hD).2⟩⟩
        obtain ⟨_, _, cs, ty, k3, _⟩ := h.box b cells hb
        have h4 := (h3 D hD).2
        rw [e, k3] at h4
        cases h4 }

/-- Of a variable of the call's own it is said that it is not written again. -/
def St.freeze (b : Nat) (cells : List PV) (s : St) : St := { s with bx := rm b s.bx, ro := upd b cells s.ro }

theorem Sim.freeze (h : Sim w0 I0 I β κ s sav a w) {b : Nat} {cells : List PV} (hb : lk b s.bx = some (cells.map .v)) :
    ∃ J, I.le J ∧ Sim w0 I0 J β κ (s.freeze b cells) sav a w := by
  obtain ⟨hb1, hb2, cs, ty, hw, hc, hone⟩ := h.box b _ hb
  have hIJ : I.le (fun k => if k = β b then some cs.toList else I k) := fun k arr hk => by
    by_cases e : k = β b
    · rw [e, hb2] at hk; cases hk
    · exact ⟨[], by simp [e, hk]⟩
  have hC : Cs I cells cs.toList := by
    clear hb hIJ hw
    generalize cs.toList = l at hc
    induction cells generalizing l with
    | nil => cases hc; exact .nil
    | cons x xs ih => cases hc with | cons hx hs => cases hx with | v hx => exact .cons hx (ih _ hs)
  refine ⟨_, hIJ, ?_⟩
  have hmap : ∀ x u, R I β κ (tkOf s.tk) x u → R (fun k => if k = β b then some cs.toList else I k) β κ (tkOf s.tk) (id x) u := fun _ _ k => k.mono hIJ
  exact
    { below := h.below
      good := fun k arr hk => by
        by_cases e : k = β b
        · simp only [e, if_true, Option.some.injEq] at hk
          subst hk
          exact ⟨cs, ty, (0, 0), [], by rw [e]; exact hw, by simp⟩
        · simp only [e, if_false] at hk
          exact h.good k arr hk
      ext := Imm.le_trans h.ext hIJ
      old := fun k hk => by
        have e : k ≠ β b := by omega
        simpa [e] using h.old k hk
      tm := by have := h.tm.map hmap; rwa [List.map_id] at this
      sv := by
        have := h.sv.map hmap
        have e : (s.sv.map fun l => l.map id) = s.sv := by simp
        rw [e] at this
        exact this
      box := fun j c hj => by
        simp only [St.freeze, lk_rm] at hj
        by_cases e : j = b
        · simp [e] at hj
        · simp only [e, if_false] at hj
          obtain ⟨h1, h2, cs', ty', h3, h4⟩ := h.box j c hj
          have hne : β j ≠ β b := fun e' => e (h.inj _ _ _ _ hj hb e')
          refine ⟨h1, by simp [hne, h2], cs', ty', h3, ?_, h4.2⟩
          have := h4.1.map hmap
          rwa [List.map_id] at this
      rob := fun j c hj => by
        simp only [St.freeze, lk_upd] at hj
        by_cases e : j = b
        · simp only [e, if_true, Option.some.injEq] at hj
          subst hj
          have hl := hC.length
          refine ⟨cs.toList, by simp [e], ?_, by omega⟩
          rw [List.take_of_length_le (by omega)]
          exact hC.mono hIJ
        · simp only [e, if_false] at hj
          obtain ⟨arr, h1, h2, h3⟩ := h.rob j c hj
          obtain ⟨m, hm⟩ := hIJ _ _ h1
          refine ⟨_, hm, ?_, by simp; omega⟩
          rw [List.take_append_of_le_length h3]
          exact h2.mono hIJ
      inj := fun j j' c c' hj hj' hβ => by
        simp only [St.freeze, lk_rm] at hj hj'
        by_cases e : j = b
        · simp [e] at hj
        · by_cases e' : j' = b
          · simp [e'] at hj'
          · simp only [e, e', if_false] at hj hj'
            exact h.inj _ _ _ _ hj hj' hβ
      tok := fun t ht => by
        obtain ⟨h1, cs', ty', arr, h2, h3, h4, h5⟩ := h.tok t ht
        have hne : (κ t).1 ≠ β b := fun e => by rw [e, hb2] at h4; cases h4
        exact ⟨h1, cs', ty', arr, h2, h3, by simp [hne, h4], h5⟩
      tinj := h.tinj
      dfr := h.dfr }

/-- Of a row that the call has made it is said that it is not written again. -/
def TV.shut (b : Nat) (cells : List PV) : TV → TV
  | .v x => .v x
  | .ptr b' off => .ptr b' off
  | .acc t els => .acc t els
  | .own b' n => if b' = b then (if n = cells.length then .v (.sl true cells) else .v .junk) else .own b' n
def St.shut (b : Nat) (cells : List PV) (s : St) : St := ({ s with bx := rm b s.bx } : St).mapTV (TV.shut b cells)

theorem flat_cells {cells : List PV} (h : cells.all PV.one = true) : flat cells = cells := by
  induction cells with
  | nil => rfl
  | cons x xs ih =>
    simp only [List.all_cons, Bool.and_eq_true] at h
    have hx : x.cells = [x] := by
      cases x <;> simp_all [PV.one, PV.cells]
    simp only [flat, List.flatMap_cons, hx] at ih ⊢
    rw [ih h.2]
    rfl

theorem Sim.shut (h : Sim w0 I0 I β κ s sav a w) {b : Nat} {cells : List PV} (hb : lk b s.bx = some (cells.map .v)) (hone' : cells.all PV.one = true) :
    ∃ J, I.le J ∧ Sim w0 I0 J β κ (s.shut b cells) sav a w := by
  obtain ⟨hb1, hb2, cs, ty, hw, hc, hone⟩ := h.box b _ hb
  have hIJ : I.le (fun k => if k = β b then some cs.toList else I k) := fun k arr hk => by
    by_cases e : k = β b
    · rw [e, hb2] at hk; cases hk
    · exact ⟨[], by simp [e, hk]⟩
  have hC : Cs I cells cs.toList := by
    clear hb hIJ hw hone'
    generalize cs.toList = l at hc
    induction cells generalizing l with
    | nil => cases hc; exact .nil
    | cons x xs ih => cases hc with | cons hx hs => cases hx with | v hx => exact .cons hx (ih _ hs)
  have hlen := hC.length
  have hfl := flat_cells hone'
  refine ⟨_, hIJ, ?_⟩
  have hmap : ∀ x u, R I β κ (tkOf s.tk) x u → R (fun k => if k = β b then some cs.toList else I k) β κ (tkOf s.tk) (x.shut b cells) u := fun x u k => by
    cases k with
    | v hx => exact .v (hx.mono hIJ)
    | ptr => exact .ptr
    | acc0 => exact .acc0
    | acc h1 h2 h3 h4 h5 h6 => exact .acc h1 h2 h3 (h4.mono hIJ) h5 h6
    | @own b' n =>
      simp only [TV.shut]
      split
      · rename_i e
        subst e
        split
        · rename_i hn
          refine .v (.sl (sz := 1) (arr := cs.toList) (by simp) (fun e he => ?_) hn ?_ ?_ (Nat.le_refl _) (fun _ => rfl))
          · have := List.all_eq_true.1 hone' e he
            cases e <;> simp_all [PV.one, PV.cells]
          · rw [hfl, List.drop_zero, List.take_of_length_le (by omega)]
            exact hC.mono hIJ
          · rw [hfl]
            omega
        · exact .v (.junk _)
      · exact .own
  exact
    { below := h.below
      good := fun k arr hk => by
        by_cases e : k = β b
        · simp only [e, if_true, Option.some.injEq] at hk
          subst hk
          exact ⟨cs, ty, (0, 0), [], by rw [e]; exact hw, by simp⟩
        · simp only [e, if_false] at hk
          exact h.good k arr hk
      ext := Imm.le_trans h.ext hIJ
      old := fun k hk => by
        have e : k ≠ β b := by omega
        simpa [e] using h.old k hk
      tm := h.tm.map hmap
      sv := h.sv.map hmap
      box := fun j c hj => by
        simp only [St.shut, St.mapTV, lk_map, lk_rm] at hj
        by_cases e : j = b
        · simp [e] at hj
        · simp only [e, if_false] at hj
          obtain ⟨c0, hj0, rfl⟩ := Option.map_eq_some_iff.1 hj
          obtain ⟨h1, h2, cs', ty', h3, h4⟩ := h.box j c0 hj0
          have hne : β j ≠ β b := fun e' => e (h.inj _ _ _ _ hj0 hb e')
          exact ⟨h1, by simp [hne, h2], cs', ty', h3, h4.1.map hmap, h4.2⟩
      rob := fun j c hj => by
        simp only [St.shut, St.mapTV] at hj
        obtain ⟨arr, h1, h2, h3⟩ := h.rob j c hj
        obtain ⟨m, hm⟩ := hIJ _ _ h1
        refine ⟨_, hm, ?_, by simp; omega⟩
        rw [List.take_append_of_le_length h3]
        exact h2.mono hIJ
      inj := fun j j' c c' hj hj' hβ => by
        simp only [St.shut, St.mapTV, lk_map, lk_rm] at hj hj'
        by_cases e : j = b
        · simp [e] at hj
        · by_cases e' : j' = b
          · simp [e'] at hj'
          · simp only [e, e', if_false] at hj hj'
            obtain ⟨c0, hj0, _⟩ := Option.map_eq_some_iff.1 hj
            obtain ⟨c1, hj1, _⟩ := Option.map_eq_some_iff.1 hj'
            exact h.inj _ _ _ _ hj0 hj1 hβ
      tok := fun t ht => by
        obtain ⟨h1, cs', ty', arr, h2, h3, h4, h5⟩ := h.tok t ht
        have hne : (κ t).1 ≠ β b := fun e => by rw [e, hb2] at h4; cases h4
        exact ⟨h1, cs', ty', arr, h2, h3, by simp [hne, h4], h5⟩
      tinj := h.tinj
      dfr := h.dfr }

end
end Go.Proofs.Ytadfcbpakfaaaaa.A

/- Rows that the call appends to: a new one, one that moves, one that grows where it lies. -/
set_option linter.unusedVariables false
set_option linter.unusedSimpArgs false
namespace Go.Proofs.Ytadfcbpakfaaaaa.A
open Go Go.RowKit

theorem flat_length {els : List PV} {sz : Nat} (h : ∀ e ∈ els, e.cells.length = sz) : (flat els).length = els.length * sz := by
  induction els with
  | nil => simp [flat]
  | cons e es ih =>
    have h1 := h e (by simp)
    have h2 := ih (fun x hx => h x (by simp [hx]))
    simp only [flat, List.flatMap_cons, List.length_append, List.length_cons] at h2 ⊢
    rw [h1, h2, Nat.succ_mul]
    omega

theorem flat_append (xs ys : List PV) : flat (xs ++ ys) = flat xs ++ flat ys := by simp [flat]

def St.newTok (t : Nat) (s : St) : St := { s.mapTV (TV.killTok t) with tk := upd t 0 s.tk }

section
variable {w0 w w' : World} {I0 I J : Imm} {β : Nat → Nat} {κ : Nat → Nat × Nat × Nat} {s : St} {sav : List (Array Value)} {a : Act}

theorem R.killTok {tk : List (Nat × Nat)} (t : Nat) (x : TV) (u : Value) (h : R I β κ (tkOf tk) x u) : R I β κ (tkOf (upd t 0 tk)) (x.killTok t) u := by
  cases x with
  | v x => cases h with | v hx => exact .v hx
  | ptr b off => cases h; exact .ptr
  | own b n => cases h; exact .own
  | acc t' els =>
    simp only [TV.killTok]
    by_cases e : t' = t
    · rw [if_pos e]; exact .v h.toC
    · rw [if_neg e]
      cases h with
      | acc0 => exact .acc0
      | acc h1 h2 h3 h4 h5 h6 => exact .acc h1 h2 h3 h4 (by rw [tkOf_upd, if_neg e]; exact h5) (by rw [tkOf_upd, if_neg e]; exact h6)

theorem Sim.newTok (h : Sim w0 I0 I β κ s sav a w) (t : Nat) : Sim w0 I0 I β κ (s.newTok t) sav a w where
  below := h.below
  good := h.good
  ext := h.ext
  old := h.old
  tm := h.tm.map fun x u k => k.killTok t
  sv := h.sv.map fun x u k => k.killTok t
  box := fun b cells hc => by
    simp only [St.newTok, St.mapTV, lk_map, Option.map_eq_some_iff] at hc
    obtain ⟨c, hc, rfl⟩ := hc
    obtain ⟨h1, h2, cs, ty, h3, h4⟩ := h.box b c hc
    exact ⟨h1, h2, cs, ty, h3, h4.1.map fun x u k => k.killTok t, h4.2⟩
  rob := h.rob
  inj := fun b b' c c' hc hc' hβ => by
    simp only [St.newTok, St.mapTV, lk_map, Option.map_eq_some_iff] at hc hc'
    obtain ⟨c1, hc, _⟩ := hc
    obtain ⟨c2, hc', _⟩ := hc'
    exact h.inj _ _ _ _ hc hc' hβ
  tok := fun t' ht => by
    simp only [St.newTok, tkOf_upd] at ht ⊢
    by_cases e : t' = t
    · simp [e] at ht
    · simp only [e, if_false] at ht ⊢
      exact h.tok t' ht
  tinj := fun t1 t2 h1 h2 hκ => by
    simp only [St.newTok, tkOf_upd] at h1 h2
    by_cases e1 : t1 = t
    · simp [e1] at h1
    · by_cases e2 : t2 = t
      · simp [e2] at h2
      · simp only [e1, e2, if_false] at h1 h2
        exact h.tinj _ _ h1 h2 hκ
  dfr := h.dfr

/-- What held of slots holds when row t has become longer. -/
theorem R.longer {tk : List (Nat × Nat)} {t n : Nat} {p : Nat × Nat × Nat} (hIJ : I.le J) (hn : tkOf tk t < n) (x : TV) (u : Value) (h : R I β κ (tkOf tk) x u) :
    R J β (fun j => if j = t then p else κ j) (tkOf (upd t n tk)) x u := by
  cases h with
  | v hx => exact .v (hx.mono hIJ)
  | ptr => exact .ptr
  | own => exact .own
  | acc0 => exact .acc0
  | @acc t' els c m cap sz h1 h2 h3 h4 h5 h6 =>
    by_cases e : t' = t
    · subst e
      exact .acc h1 h2 h3 (h4.mono hIJ) (by rw [tkOf_upd, if_pos rfl]; omega) (fun e => by rw [tkOf_upd, if_pos rfl] at e; omega)
    · exact .acc h1 h2 h3 (h4.mono hIJ) (by rw [tkOf_upd, if_neg e]; exact h5) (fun e' => by rw [tkOf_upd, if_neg e] at e'; simpa [e] using h6 e')

theorem id_map (l : List (List TV)) : (l.map fun x => x.map id) = l := by simp

/-- A row in a new block. -/
theorem Sim.ownNew (h : Sim w0 I0 I β κ s sav a w) (t n cap sz : Nat) (els : List PV) (cs : Array Value) (ty : TypeId) (hn : n = els.length) (ht : tkOf s.tk t < n) (hcs : cs.size = cap * sz) (hcap : n ≤ cap)
    (hu : ∀ e ∈ els, e.cells.length = sz) (hc : Cs I (flat els) (cs.toList.take (flat els).length)) (hone : ∀ v ∈ cs.toList.take (n * sz), v.oneCell' = true) :
    ∃ J κ', I.le J ∧ Sim w0 I0 J β κ' { s with tk := upd t n s.tk } sav a (w.alloc (.cells cs ty)) ∧
      R J β κ' (tkOf (upd t n s.tk)) (.acc t els) (.slice (some ⟨w.heap.size, 0, none⟩) n cap) := by
  have hfl := flat_length hu
  have hnone : I w.heap.size = none := Imm.none_new h.good (Nat.le_refl _)
  have hle : n * sz ≤ cs.toList.length := by rw [Array.length_toList, hcs]; exact Nat.mul_le_mul_right _ hcap
  have hIJ : I.le (fun k => if k = w.heap.size then some (cs.toList.take (n * sz)) else I k) := fun k arr hk => by
    by_cases e : k = w.heap.size
    · rw [e, hnone] at hk; cases hk
    · exact ⟨[], by simp [e, hk]⟩
  have hnew : (w.alloc (.cells cs ty)).heap[w.heap.size]? = some (.cells cs ty (0, 0)) := World.alloc_heap_new w _
  have hg : Good (fun k => if k = w.heap.size then some (cs.toList.take (n * sz)) else I k) (w.alloc (.cells cs ty)) := fun k arr hk => by
    by_cases e : k = w.heap.size
    · simp only [e, if_true, Option.some.injEq] at hk
      subst hk
      exact ⟨cs, ty, (0, 0), cs.toList.drop (n * sz), by rw [e]; exact hnew, (List.take_append_drop _ _).symm⟩
    · simp only [e, if_false] at hk
      exact (h.good.below ((Below.refl _ w).alloc (Nat.le_refl _) _)) k arr hk
  have h0 := h.grow (J := fun k => if k = w.heap.size then some (cs.toList.take (n * sz)) else I k) ((Below.refl _ w).alloc (Nat.le_refl _) (.cells cs ty)) hIJ
    (fun b hb => by have : b ≠ w.heap.size := by omega
                    simp [this]) hg
  have hrow : RowAt (fun k => if k = w.heap.size then some (cs.toList.take (n * sz)) else I k) w.heap.size sz els :=
    ⟨cs.toList.take (n * sz), by simp, hu, by rw [hfl, ← hn, List.take_take, Nat.min_self]; rw [hfl, ← hn] at hc; exact hc.mono hIJ, by rw [hfl, ← hn, List.length_take]; omega⟩
  have hmap : ∀ x u, R I β κ (tkOf s.tk) x u → R (fun k => if k = w.heap.size then some (cs.toList.take (n * sz)) else I k) β (fun j => if j = t then (w.heap.size, cap, sz) else κ j) (tkOf (upd t n s.tk)) (id x) u :=
    fun x u k => k.longer hIJ ht
  refine ⟨_, fun j => if j = t then (w.heap.size, cap, sz) else κ j, hIJ, ?_, .acc (by intro e; subst e; simp at hn; omega) hn hcap hrow (by rw [tkOf_upd, if_pos rfl]; exact Nat.le_refl _) (fun _ => by simp)⟩
  exact
    { below := h0.below
      good := h0.good
      ext := h0.ext
      old := h0.old
      tm := by have := h.tm.map hmap; rwa [List.map_id] at this
      sv := by have := h.sv.map hmap; rwa [id_map] at this
      box := fun b cells hb => by
        obtain ⟨h1, h2, cs', ty', h3, h4⟩ := h0.box b cells hb
        obtain ⟨_, _, cs2, ty2, k3, k4⟩ := h.box b cells hb
        have hlt := (Array.getElem?_eq_some_iff.1 k3).1
        have e : cs2 = cs' ∧ ty2 = ty' := by
          have := (Below.heap_alloc w (.cells cs ty) _ hlt).trans k3
          rw [h3] at this
          cases this
          exact ⟨rfl, rfl⟩
        obtain ⟨rfl, rfl⟩ := e
        refine ⟨h1, h2, cs2, ty2, h3, ?_, k4.2⟩
        have := k4.1.map hmap
        rwa [List.map_id] at this
      rob := h0.rob
      inj := h0.inj
      tok := fun t' ht' => by
        simp only [tkOf_upd] at ht' ⊢
        by_cases e : t' = t
        · simp only [e, if_true]
          exact ⟨h.size, cs, ty, cs.toList.take (n * sz), hnew, hcs, rfl, by rw [List.length_take]; omega, hcap⟩
        · simp only [e, if_false] at ht' ⊢
          exact h0.tok t' ht'
      tinj := fun t1 t2 h1 h2 hκ => by
        simp only [tkOf_upd] at h1 h2
        have lt_tok : ∀ t', 0 < tkOf s.tk t' → (κ t').1 < w.heap.size := fun t' ht' => by
          obtain ⟨_, cs', ty', arr, k2, _⟩ := h.tok t' ht'
          exact (Array.getElem?_eq_some_iff.1 k2).1
        by_cases e1 : t1 = t <;> by_cases e2 : t2 = t
        · rw [e1, e2]
        · simp only [e1, e2, if_true, if_false] at h1 h2 hκ
          have := lt_tok _ h2; omega
        · simp only [e1, e2, if_true, if_false] at h1 h2 hκ
          have := lt_tok _ h1; omega
        · simp only [e1, e2, if_false] at h1 h2 hκ
          exact h.tinj _ _ h1 h2 hκ
      dfr := h0.dfr }

/-- A row that grows where it lies. -/
theorem Sim.ownGrow (h : Sim w0 I0 I β κ s sav a w) {t n c cap sz : Nat} {els ys : List PV} {new : List Value} {cs cs' : Array Value} {ty : TypeId} (hm : tkOf s.tk t = els.length) (hm0 : els ≠ []) (hy0 : ys ≠ [])
    (hn : n = els.length + ys.length) (hκ : κ t = (c, cap, sz)) (hcap : n ≤ cap) (hrow : RowAt I c sz els) (hu : ∀ e ∈ ys, e.cells.length = sz) (hc : Cs I (flat ys) new)
    (hw : w.heap[c]? = some (.cells cs ty (0, 0))) (ho : OnlyAt c w w') (hw' : w'.heap[c]? = some (.cells cs' ty (0, 0))) (hsz : cs'.size = cs.size)
    (hcs' : ∃ rest, cs'.toList = cs.toList.take (els.length * sz) ++ new ++ rest) (hone : ∀ v ∈ new, v.oneCell' = true) :
    ∃ J κ', I.le J ∧ Sim w0 I0 J β κ' { s with tk := upd t n s.tk } sav a w' ∧ R J β κ' (tkOf (upd t n s.tk)) (.acc t (els ++ ys)) (.slice (some ⟨c, 0, none⟩) n cap) := by
  have hlen0 : 0 < els.length := List.length_pos_iff.2 hm0
  have hylen : 0 < ys.length := List.length_pos_iff.2 hy0
  obtain ⟨h1, cs1, ty1, arr, h2, h3, h4, h5, h6⟩ := h.tok t (by omega)
  rw [hκ] at h1 h2 h3 h4 h5 h6
  simp only at h1 h2 h3 h4 h5 h6
  rw [hw] at h2
  cases h2
  obtain ⟨arr', hr1, hu1, hr2, hr3⟩ := hrow
  rw [h4] at hr1
  cases hr1
  have hfl := flat_length hu1
  have hfy := flat_length hu
  have hnl : new.length = ys.length * sz := by rw [← hc.length, hfy]
  obtain ⟨cs0, ty0, fz0, more, hg1, hg2⟩ := h.good c arr h4
  rw [hw] at hg1
  cases hg1
  have h5' : arr.length = els.length * sz := by rw [h5, hm]
  have harr : cs.toList.take (els.length * sz) = arr := by
    rw [hg2, List.take_append_of_le_length (by omega), List.take_of_length_le (by omega)]
  obtain ⟨rest, hcs'⟩ := hcs'
  rw [harr] at hcs'
  have hIJ : I.le (fun k => if k = c then some (arr ++ new) else I k) := fun k ar hk => by
    by_cases e : k = c
    · rw [e, h4] at hk; cases hk; exact ⟨new, by simp [e]⟩
    · exact ⟨[], by simp [e, hk]⟩
  have hbc : ∀ b cells, lk b s.bx = some cells → β b ≠ c := fun b cells hb e => by
    obtain ⟨_, k2, _⟩ := h.box b cells hb
    rw [e, h4] at k2; cases k2
  have hmap : ∀ x u, R I β κ (tkOf s.tk) x u → R (fun k => if k = c then some (arr ++ new) else I k) β (fun j => if j = t then (c, cap, sz) else κ j) (tkOf (upd t n s.tk)) (id x) u :=
    fun x u k => k.longer hIJ (by omega)
  have hrow' : RowAt (fun k => if k = c then some (arr ++ new) else I k) c sz (els ++ ys) := by
    refine ⟨arr ++ new, by simp, fun e he => ?_, ?_, ?_⟩
    · rcases List.mem_append.1 he with he | he
      · exact hu1 e he
      · exact hu e he
    · rw [flat_append]
      have e1 : (flat els ++ flat ys).length = (arr ++ new).length := by simp only [List.length_append]; rw [hfl, hfy, h5, hnl, hm]
      rw [e1, List.take_length]
      have e2 : arr.take (flat els).length = arr := List.take_of_length_le (by omega)
      rw [e2] at hr2
      exact (hr2.mono hIJ).append (hc.mono hIJ)
    · rw [flat_append]
      simp only [List.length_append]
      omega
  refine ⟨_, fun j => if j = t then (c, cap, sz) else κ j, hIJ, ?_, .acc (by simp [hm0]) (by simp [hn]) hcap hrow' (by rw [tkOf_upd, if_pos rfl]; exact Nat.le_refl _) (fun _ => by simp)⟩
  exact
    { below := h.below.trans (ho.below h1)
      good := fun k ar hk => by
        by_cases e : k = c
        · simp only [e, if_true, Option.some.injEq] at hk
          subst hk
          exact ⟨cs', _, (0, 0), rest, by rw [e]; exact hw', hcs'⟩
        · simp only [e, if_false] at hk
          obtain ⟨cs3, ty3, fz, more3, k1, k2⟩ := h.good k ar hk
          exact ⟨cs3, ty3, fz, more3, (ho.block k e).trans k1, k2⟩
      ext := Imm.le_trans h.ext hIJ
      old := fun k hk => by
        have e : k ≠ c := by omega
        simpa [e] using h.old k hk
      tm := by have := h.tm.map hmap; rwa [List.map_id] at this
      sv := by have := h.sv.map hmap; rwa [id_map] at this
      box := fun b cells hb => by
        obtain ⟨k1, k2, cs2, ty2, k3, k4⟩ := h.box b cells hb
        have hne := hbc b cells hb
        refine ⟨k1, by simp [hne, k2], cs2, ty2, (ho.block _ hne).trans k3, ?_, k4.2⟩
        have := k4.1.map hmap
        rwa [List.map_id] at this
      rob := fun b cells hb => by
        obtain ⟨ar, k1, k2, k3⟩ := h.rob b cells hb
        obtain ⟨m, hm'⟩ := hIJ _ _ k1
        refine ⟨_, hm', ?_, by simp; omega⟩
        rw [List.take_append_of_le_length k3]
        exact k2.mono hIJ
      inj := h.inj
      tok := fun t' ht' => by
        simp only [tkOf_upd] at ht' ⊢
        by_cases e : t' = t
        · simp only [e, if_true]
          refine ⟨h1, cs', _, arr ++ new, hw', by rw [hsz, h3], rfl, ?_, hcap⟩
          rw [List.length_append, h5, hnl, hm, hn, Nat.add_mul]
        · simp only [e, if_false] at ht' ⊢
          obtain ⟨k1, cs2, ty2, ar, k2, k3, k4, k5⟩ := h.tok t' ht'
          have hne : (κ t').1 ≠ c := fun e' => e (h.tinj t' t ht' (by omega) (by rw [e', hκ]))
          exact ⟨k1, cs2, ty2, ar, (ho.block _ hne).trans k2, k3, by simp [hne, k4], k5⟩
      tinj := fun t1 t2 k1 k2 hκ' => by
        simp only [tkOf_upd] at k1 k2
        by_cases e1 : t1 = t <;> by_cases e2 : t2 = t
        · rw [e1, e2]
        · simp only [e1, e2, if_true, if_false] at k1 k2 hκ'
          have := h.tinj t t2 (by omega) k2 (by rw [hκ]; exact hκ')
          rw [e1, this]
        · simp only [e1, e2, if_true, if_false] at k1 k2 hκ'
          have := h.tinj t1 t k1 (by omega) (by rw [hκ]; exact hκ')
          rw [e2, this]
        · simp only [e1, e2, if_false] at k1 k2 hκ'
          exact h.tinj _ _ k1 k2 hκ'
      dfr := by
        obtain ⟨Ds, k1, k2, k3⟩ := h.dfr
        refine ⟨Ds, k1, k2, fun D hD => ⟨(k3 D hD).1, (ho.block D (fun e => ?_)).trans (k3 D hD).2⟩⟩
        have k4 := (k3 D hD).2
        rw [e, hw] at k4
        cases k4 }

end
end Go.Proofs.Ytadfcbpakfaaaaa.A

