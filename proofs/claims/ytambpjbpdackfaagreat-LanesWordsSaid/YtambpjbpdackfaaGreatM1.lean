/- Values of a run, told without memory: 'PV' (slices and closures by what they hold), and when a value of the model reads as one ('C'), given what is known never to change ('Imm'). -/
import Derived.CallsIn
import Derived.RangeFuncNested
import Derived.RangeFuncLeaves
import Derived.Below
import Derived.KernelRfl
import Derived.Laws.StructEq
import Derived.Laws.Cells
import Derived.Laws.CopyRow
import Derived.Great.FillDense
import Derived.Deep.AppendSrc
import Derived.Laws.MakeOwn
set_option linter.unusedVariables false
set_option linter.unusedSimpArgs false
namespace Go.Proofs.YtambpjbpdackfaaGreat.A
open Go Go.RowKit

/-- A value, told by what it holds. -/
inductive PV where
  | s (v : Value)
  | agg (l : List PV)
  | tup (l : List PV)
  | sl (ex : Bool) (els : List PV)
  | vp (cells : List PV)
  | fn (f : Fn) (cap : List PV)
  | ifc (t : TypeId) (x : PV)
  | junk
  deriving Inhabited

def PV.cells : PV → List PV
  | .agg l => l
  | x => [x]

/-- Is it one cell, that is no struct? -/
def PV.one : PV → Bool
  | .agg _ => false
  | _ => true

/-- All cells of a row of elements. -/
def flat (els : List PV) : List PV := els.flatMap PV.cells

/-- Of some blocks: the first cells, which stay. -/
abbrev Imm := Nat → Option (List Value)

mutual
/-- The model's value v is what the told one says. -/
inductive C (I : Imm) : PV → Value → Prop
  | s (v : Value) : C I (.s v) v
  | junk (v : Value) : C I .junk v
  | agg {l : List PV} {a : Array Value} : Cs I l a.toList → C I (.agg l) (.agg a)
  | tup {l : List PV} {a : Array Value} : Cs I l a.toList → C I (.tup l) (.tuple a)
  | sl {ex : Bool} {els : List PV} {b off n sz cap : Nat} {arr : List Value} : I b = some arr → (∀ e ∈ els, e.cells.length = sz) → n = els.length →
      Cs I (flat els) ((arr.drop off).take (flat els).length) → off + (flat els).length ≤ arr.length → n ≤ cap → (ex = true → cap = n) → C I (.sl ex els) (.slice (some ⟨b, off, none⟩) n cap)
  | sl0 {ex : Bool} : C I (.sl ex []) (.slice none 0 0)
  | sle {ex : Bool} {a : Addr} : C I (.sl ex []) (.slice (some a) 0 0)
  | vp {cells : List PV} {b off : Nat} {arr : List Value} : I b = some arr → Cs I cells ((arr.drop off).take cells.length) → off + cells.length ≤ arr.length →
      C I (.vp cells) (.pointer (some ⟨b, off, none⟩))
  | fn {f : Fn} {l : List PV} {a : Array Value} : Cs I l a.toList → C I (.fn f l) (.func f #[] a)
  | ifc {t : TypeId} {x : PV} {v : Value} : C I x v → C I (.ifc t x) (.iface t v)
inductive Cs (I : Imm) : List PV → List Value → Prop
  | nil : Cs I [] []
  | cons {x : PV} {v : Value} {xs : List PV} {vs : List Value} : C I x v → Cs I xs vs → Cs I (x :: xs) (v :: vs)
end
/-- More is known. -/
def Imm.le (I J : Imm) : Prop := ∀ b arr, I b = some arr → ∃ more, J b = some (arr ++ more)

theorem Imm.le_refl (I : Imm) : I.le I := fun _ arr h => ⟨[], by simpa using h⟩
theorem Imm.le_trans {I J K : Imm} (h : I.le J) (k : J.le K) : I.le K := fun b arr hb => by
  obtain ⟨m, hm⟩ := h b arr hb
  obtain ⟨m', hm'⟩ := k b _ hm
  exact ⟨m ++ m', by simpa [List.append_assoc] using hm'⟩

theorem take_drop_append {α : Type} (l m : List α) (off n : Nat) (h : off + n ≤ l.length) : ((l ++ m).drop off).take n = (l.drop off).take n := by
  rw [List.drop_append_of_le_length (by omega), List.take_append_of_le_length (by simp; omega)]

mutual
theorem C.mono {I J : Imm} (h : I.le J) : ∀ {x : PV} {v : Value}, C I x v → C J x v
  | _, _, .s v => .s v
  | _, _, .junk v => .junk v
  | _, _, .agg hl => .agg (Cs.mono h hl)
  | _, _, .tup hl => .tup (Cs.mono h hl)
  | _, _, .sl hb hu hn hc hl hcap hex => by
    obtain ⟨m, hm⟩ := h _ _ hb
    refine .sl hm hu hn ?_ (by simp; omega) hcap hex
    rw [take_drop_append _ _ _ _ hl]
    exact Cs.mono h hc
  | _, _, .sl0 => .sl0
  | _, _, .sle => .sle
  | _, _, .vp hb hc hl => by
    obtain ⟨m, hm⟩ := h _ _ hb
    refine .vp hm ?_ (by simp; omega)
    rw [take_drop_append _ _ _ _ hl]
    exact Cs.mono h hc
  | _, _, .fn hl => .fn (Cs.mono h hl)
  | _, _, .ifc hx => .ifc (C.mono h hx)
theorem Cs.mono {I J : Imm} (h : I.le J) : ∀ {xs : List PV} {vs : List Value}, Cs I xs vs → Cs J xs vs
  | _, _, .nil => .nil
  | _, _, .cons hx hs => .cons (C.mono h hx) (Cs.mono h hs)
end
theorem Cs.length {I : Imm} {xs : List PV} {vs : List Value} (h : Cs I xs vs) : xs.length = vs.length := by
  induction xs generalizing vs with
  | nil => cases h; rfl
  | cons x xs ih => cases h with | cons _ hs => simp [ih hs]

theorem Cs.append {I : Imm} {xs ys : List PV} {vs us : List Value} (h : Cs I xs vs) (k : Cs I ys us) : Cs I (xs ++ ys) (vs ++ us) := by
  induction xs generalizing vs with
  | nil => cases h; exact k
  | cons x xs ih => cases h with | cons hx hs => exact .cons hx (ih hs)

theorem Cs.take {I : Imm} {xs : List PV} {vs : List Value} (h : Cs I xs vs) (n : Nat) : Cs I (xs.take n) (vs.take n) := by
  induction n generalizing xs vs with
  | zero => simp; exact .nil
  | succ n ih => cases h with
    | nil => simp; exact .nil
    | cons hx hs => simp; exact .cons hx (ih hs)

theorem Cs.drop {I : Imm} {xs : List PV} {vs : List Value} (h : Cs I xs vs) (n : Nat) : Cs I (xs.drop n) (vs.drop n) := by
  induction n generalizing xs vs with
  | zero => simpa using h
  | succ n ih => cases h with
    | nil => simp; exact .nil
    | cons hx hs => simpa using ih hs

theorem Cs.get {I : Imm} {xs : List PV} {vs : List Value} (h : Cs I xs vs) {i : Nat} {x : PV} (hi : xs[i]? = some x) : ∃ v, vs[i]? = some v ∧ C I x v := by
  induction i generalizing xs vs with
  | zero => cases h with
    | nil => simp at hi
    | cons hx hs => simp at hi; subst hi; exact ⟨_, rfl, hx⟩
  | succ i ih => cases h with
    | nil => simp at hi
    | cons hx hs => simp at hi; simpa using ih hs hi

theorem Cs.set {I : Imm} {xs : List PV} {vs : List Value} (h : Cs I xs vs) (i : Nat) {x : PV} {v : Value} (hx : C I x v) : Cs I (xs.set i x) (vs.set i v) := by
  induction i generalizing xs vs with
  | zero => cases h with
    | nil => exact .nil
    | cons _ hs => exact .cons hx hs
  | succ i ih => cases h with
    | nil => exact .nil
    | cons hy hs => exact .cons hy (ih hs)

theorem Cs.snoc {I : Imm} {xs : List PV} {vs : List Value} {x : PV} {v : Value} (h : Cs I xs vs) (hx : C I x v) : Cs I (xs ++ [x]) (vs ++ [v]) := h.append (.cons hx .nil)

/-- A value's cells read as the told one's cells. -/
theorem C.cells {I : Imm} {x : PV} {v : Value} (h : C I x v) (hx : x ≠ .junk) (hv : ∀ w, x = .s w → ∀ a, w ≠ .agg a) : Cs I x.cells v.cells.toList := by
  cases h with
  | s => 
    have hv' := hv _ rfl
    cases v <;> first | exact .cons (.s _) .nil | exact absurd rfl (hv' _)
  | junk => exact absurd rfl hx
  | agg hl => exact hl
  | tup hl => exact .cons (.tup hl) .nil
  | sl hb hu hn hc hl hcap hex => exact .cons (.sl hb hu hn hc hl hcap hex) .nil
  | sl0 => exact .cons .sl0 .nil
  | sle => exact .cons .sle .nil
  | vp hb hc hl => exact .cons (.vp hb hc hl) .nil
  | fn hl => exact .cons (.fn hl) .nil
  | ifc hx' => exact .cons (.ifc hx') .nil

/-- What the world must hold of what is known to stay. -/
def Good (I : Imm) (w : World) : Prop := ∀ b arr, I b = some arr → ∃ cs ty fz more, w.heap[b]? = some (.cells cs ty fz) ∧ cs.toList = arr ++ more

theorem Good.lt {I : Imm} {w : World} (h : Good I w) {b : Nat} {arr : List Value} (hb : I b = some arr) : b < w.heap.size := by
  obtain ⟨cs, ty, fz, more, hw, _⟩ := h b arr hb
  exact (Array.getElem?_eq_some_iff.1 hw).1

/-! ### Memory that is known, and may be written -/
/-- Of some blocks: all cells, as they are now. -/
abbrev Mem := Nat → Option (List PV)
def nomem : Mem := fun _ => none
def Mem.put (m : Mem) (c : Nat) (x : List PV) : Mem := fun b => if b = c then some x else m b
theorem Mem.put_same (m : Mem) (c : Nat) (x : List PV) : m.put c x c = some x := by simp [Mem.put]
theorem Mem.put_other (m : Mem) {b c : Nat} (x : List PV) (h : b ≠ c) : m.put c x b = m b := by simp [Mem.put, h]

/-- What the world holds of it. -/
def MemAt (I : Imm) (m : Mem) (w : World) : Prop := ∀ c cells, m c = some cells → I c = none ∧ ∃ cs ty, w.heap[c]? = some (.cells cs ty (0, 0)) ∧ Cs I cells cs.toList

/-- What a call is measured against: the world as it began, and which of its blocks were handed over to be written. -/
structure Bs where
  w : World
  ln : Nat → Bool
def Bs.heap (b : Bs) : Array Obj := b.w.heap
def Bs.of (w : World) : Bs := ⟨w, fun _ => false⟩

/-- Of the world of old nothing has turned, but what was handed over. -/
structure BelowL (w0 : Bs) (w' : World) : Prop where
  os : w'.os = w0.w.os
  tape : w'.tape = w0.w.tape
  output : w'.output = w0.w.output
  size : w0.heap.size ≤ w'.heap.size
  block : ∀ k, k < w0.heap.size → w0.ln k = false → w'.heap[k]? = w0.w.heap[k]?

theorem BelowL.refl (w0 : Bs) : BelowL w0 w0.w := ⟨rfl, rfl, rfl, Nat.le_refl _, fun _ _ _ => rfl⟩
theorem BelowL.trans {w0 : Bs} {w w' : World} (h : BelowL w0 w) (k : Below w0.heap.size w w') : BelowL w0 w' :=
  ⟨k.os.trans h.os, k.tape.trans h.tape, k.output.trans h.output, Nat.le_trans h.size k.size, fun i hi hl => (k.block i hi).trans (h.block i hi hl)⟩
theorem BelowL.all {w0 : Bs} {w : World} (h : BelowL w0 w) (hl : ∀ k, w0.ln k = false) : Below w0.heap.size w0.w w := ⟨h.os, h.tape, h.output, h.size, fun k hk => h.block k hk (hl k)⟩

/-- May block c be written? -/
def Bs.may (w0 : Bs) (c : Nat) : Prop := w0.heap.size ≤ c ∨ w0.ln c = true

/-- What was known stays, below what is new. -/
theorem Good.below {I : Imm} {w w' : World} (h : Good I w) (hb : Below w.heap.size w w') : Good I w' := fun b arr hI => by
  obtain ⟨cs, ty, fz, more, hw, hc⟩ := h b arr hI
  exact ⟨cs, ty, fz, more, (hb.block b (h.lt hI)).trans hw, hc⟩

end Go.Proofs.YtambpjbpdackfaaGreat.A


/- The state of a call, told without memory ('St'): its slots, its own variables, and the rows that it appends to; and when the model's state reads as one ('Sim'). -/
set_option linter.unusedVariables false
set_option linter.unusedSimpArgs false
namespace Go.Proofs.YtambpjbpdackfaaGreat.A
open Go Go.RowKit

/-- What a slot, or a cell of a variable of the call's own, holds: a value; the address of a variable of the call's own; a row that is being appended to. -/
inductive TV where
  | v (x : PV)
  | ptr (b off : Nat)
  | acc (t : Nat) (els : List PV)
  | own (b n : Nat)
  deriving Inhabited

def lk {β : Type} : Nat → List (Nat × β) → Option β
  | _, [] => none
  | k, (j, x) :: l => if j = k then some x else lk k l

def upd {β : Type} (k : Nat) (x : β) : List (Nat × β) → List (Nat × β)
  | [] => [(k, x)]
  | (j, y) :: l => if j = k then (k, x) :: l else if k < j then (k, x) :: (j, y) :: l else (j, y) :: upd k x l

theorem lk_upd {β : Type} (k j : Nat) (x : β) (l : List (Nat × β)) : lk j (upd k x l) = if j = k then some x else lk j l := by
  induction l with
  | nil => simp only [upd, lk]; split <;> split <;> simp_all
  | cons p l ih =>
    obtain ⟨i, y⟩ := p
    simp only [upd]
    by_cases h : i = k
    · subst h
      simp only [if_true, lk]
      by_cases h' : i = j
      · simp [h']
      · have h'' : ¬ j = i := fun e => h' e.symm
        simp [h', h'']
    · by_cases hlt : k < i
      · simp only [h, if_false, hlt, if_true, lk]
        by_cases h' : k = j
        · subst h'; simp
        · have h'' : ¬ j = k := fun e => h' e.symm
          simp [h', h'']
      · simp only [h, hlt, if_false, lk, ih]
        by_cases h' : i = j
        · subst h'; simp [h]
        · simp [h']

theorem upd_comm {β : Type} {k j : Nat} {x y : β} (h : k ≠ j) : ∀ (l : List (Nat × β)), upd k x (upd j y l) = upd j y (upd k x l)
  | [] => by
    have h' : ¬ j = k := fun e => h e.symm
    by_cases e1 : k < j
    · have : ¬ j < k := by omega
      simp [upd, h, h', e1, this]
    · have : j < k := by omega
      simp [upd, h, h', e1, this]
  | (i, z) :: l => by
    have h' : ¬ j = k := fun e => h e.symm
    by_cases e1 : i = k
    · subst e1
      have : ¬ i = j := h
      by_cases e2 : j < i
      · have e3 : ¬ i < j := by omega
        simp [upd, this, h', e2, e3]
      · simp [upd, this, e2]
    · by_cases e2 : i = j
      · subst e2
        by_cases e3 : k < i
        · have e4 : ¬ i < k := by omega
          simp [upd, e1, h, e3, e4]
        · simp [upd, e1, e3]
      · by_cases e3 : k < i
        · by_cases e4 : j < i
          · by_cases e5 : k < j
            · have e6 : ¬ j < k := by omega
              simp [upd, e1, e2, e3, e4, e5, e6, h, h']
            · have e6 : j < k := by omega
              simp [upd, e1, e2, e3, e4, e5, e6, h, h']
          · have e5 : k < j := by omega
            have e6 : ¬ j < k := by omega
            simp [upd, e1, e2, e3, e4, e5, e6, h, h']
        · by_cases e4 : j < i
          · have e5 : ¬ k < j := by omega
            have e6 : j < k := by omega
            simp [upd, e1, e2, e3, e4, e5, e6, h, h']
          · simp [upd, e1, e2, e3, e4, upd_comm h l]

structure St where
  tm : List TV
  bx : List (Nat × List TV)
  ro : List (Nat × List PV)
  tk : List (Nat × Nat)
  sv : List (List TV)
  it : Nat := 0
  mm : Mem := nomem
  deriving Inhabited

def tkOf (l : List (Nat × Nat)) (t : Nat) : Nat := (lk t l).getD 0

def TV.killPtr (b : Nat) : TV → TV
  | .v x => .v x
  | .ptr b' off => if b' = b then .v .junk else .ptr b' off
  | .acc t els => .acc t els
  | .own b' n => if b' = b then .v .junk else .own b' n

def TV.killTok (t : Nat) : TV → TV
  | .v x => .v x
  | .ptr b off => .ptr b off
  | .acc t' els => if t' = t then .v (.sl false els) else .acc t' els
  | .own b n => .own b n

def St.mapTV (f : TV → TV) (s : St) : St :=
  { s with tm := s.tm.map f, bx := s.bx.map fun p => (p.1, p.2.map f), sv := s.sv.map fun l => l.map f }

/-- A row of cells that reads as a row of told ones: of block c, from its first cell on. -/
def RowAt (I : Imm) (c sz : Nat) (els : List PV) : Prop :=
  ∃ arr, I c = some arr ∧ (∀ e ∈ els, e.cells.length = sz) ∧ Cs I (flat els) (arr.take (flat els).length) ∧ (flat els).length ≤ arr.length

/-- The model's value u is what the told one says; β: where the call's own variables lie; κ: of each row that is being appended to its block, how many elements that can take, how many cells each has; tk: how long it is now. -/
inductive R (I : Imm) (β : Nat → Nat) (κ : Nat → Nat × Nat × Nat) (tk : Nat → Nat) : TV → Value → Prop
  | v {x : PV} {u : Value} : C I x u → R I β κ tk (.v x) u
  | ptr {b off : Nat} : R I β κ tk (.ptr b off) (.pointer (some ⟨β b, off, none⟩))
  | acc0 {t : Nat} : R I β κ tk (.acc t []) (.slice none 0 0)
  | own {b n : Nat} : R I β κ tk (.own b n) (.slice (some ⟨β b, 0, none⟩) n n)
  | acc {t : Nat} {els : List PV} {c n cap sz : Nat} : els ≠ [] → n = els.length → n ≤ cap → RowAt I c sz els → n ≤ tk t → (n = tk t → κ t = (c, cap, sz)) →
      R I β κ tk (.acc t els) (.slice (some ⟨c, 0, none⟩) n cap)

inductive Rs (I : Imm) (β : Nat → Nat) (κ : Nat → Nat × Nat × Nat) (tk : Nat → Nat) : List TV → List Value → Prop
  | nil : Rs I β κ tk [] []
  | cons {x : TV} {v : Value} {xs : List TV} {vs : List Value} : R I β κ tk x v → Rs I β κ tk xs vs → Rs I β κ tk (x :: xs) (v :: vs)

inductive Rss (I : Imm) (β : Nat → Nat) (κ : Nat → Nat × Nat × Nat) (tk : Nat → Nat) : List (List TV) → List (Array Value) → Prop
  | nil : Rss I β κ tk [] []
  | cons {x : List TV} {v : Array Value} {xs : List (List TV)} {vs : List (Array Value)} : Rs I β κ tk x v.toList → Rss I β κ tk xs vs → Rss I β κ tk (x :: xs) (v :: vs)

section
variable {I J : Imm} {β β' : Nat → Nat} {κ κ' : Nat → Nat × Nat × Nat} {tk tk' : Nat → Nat}

/-- From one reading of slots to another, slot by slot. -/
theorem Rs.map {f : TV → TV} (h : ∀ x u, R I β κ tk x u → R J β' κ' tk' (f x) u) {xs : List TV} {vs : List Value} (k : Rs I β κ tk xs vs) : Rs J β' κ' tk' (xs.map f) vs := by
  induction k with
  | nil => exact .nil
  | cons hx _ ih => exact .cons (h _ _ hx) ih

theorem Rss.map {f : TV → TV} (h : ∀ x u, R I β κ tk x u → R J β' κ' tk' (f x) u) {xs : List (List TV)} {vs : List (Array Value)} (k : Rss I β κ tk xs vs) : Rss J β' κ' tk' (xs.map fun l => l.map f) vs := by
  induction k with
  | nil => exact .nil
  | cons hx _ ih => exact .cons (hx.map h) ih

theorem Rs.length {xs : List TV} {vs : List Value} (h : Rs I β κ tk xs vs) : xs.length = vs.length := by
  induction h with
  | nil => rfl
  | cons _ _ ih => simp [ih]

theorem Rs.get {xs : List TV} {vs : List Value} (h : Rs I β κ tk xs vs) {i : Nat} {x : TV} (hi : xs[i]? = some x) : ∃ v, vs[i]? = some v ∧ R I β κ tk x v := by
  induction h generalizing i with
  | nil => simp at hi
  | cons hx _ ih =>
    cases i with
    | zero => simp at hi; subst hi; exact ⟨_, rfl, hx⟩
    | succ i => simp at hi; simpa using ih hi

theorem Rs.set {xs : List TV} {vs : List Value} (h : Rs I β κ tk xs vs) (i : Nat) {x : TV} {v : Value} (hx : R I β κ tk x v) : Rs I β κ tk (xs.set i x) (vs.set i v) := by
  induction h generalizing i with
  | nil => exact .nil
  | cons hy hs ih =>
    cases i with
    | zero => exact .cons hx hs
    | succ i => exact .cons hy (ih i)

theorem RowAt.mono (h : I.le J) {c sz : Nat} {els : List PV} (k : RowAt I c sz els) : RowAt J c sz els := by
  obtain ⟨arr, ha, hu, hc, hl⟩ := k
  obtain ⟨m, hm⟩ := h _ _ ha
  refine ⟨_, hm, hu, ?_, by simp; omega⟩
  rw [List.take_append_of_le_length hl]
  exact hc.mono h

theorem R.mono (h : I.le J) {x : TV} {u : Value} (k : R I β κ tk x u) : R J β κ tk x u := by
  cases k with
  | v hx => exact .v (hx.mono h)
  | ptr => exact .ptr
  | own => exact .own
  | acc0 => exact .acc0
  | acc h1 h2 h3 h4 h5 h6 => exact .acc h1 h2 h3 (h4.mono h) h5 h6

/-- What is being appended to, as a value. -/
theorem R.toC {t : Nat} {els : List PV} {u : Value} (h : R I β κ tk (.acc t els) u) : C I (.sl false els) u := by
  cases h with
  | acc0 => exact .sl0
  | acc h1 h2 h3 h4 h5 h6 =>
    obtain ⟨arr, ha, hu, hc, hl⟩ := h4
    exact .sl ha hu h2 (by simpa using hc) (by omega) h3 (fun h => by cases h)

end

/-- The model's state is what the told one says. w0, I0: the world as the call began, and what was known then. sav: the slots as they were where loops over functions were entered. -/
structure Sim (w0 : Bs) (I0 I : Imm) (β : Nat → Nat) (κ : Nat → Nat × Nat × Nat) (s : St) (sav : List (Array Value)) (a : Act) (w : World) : Prop where
  below : BelowL w0 w
  good : Good I w
  ext : I0.le I
  old : ∀ b, b < w0.heap.size → I b = I0 b
  tm : Rs I β κ (tkOf s.tk) s.tm a.tmps.toList
  sv : Rss I β κ (tkOf s.tk) s.sv sav
  box : ∀ b cells, lk b s.bx = some cells → w0.heap.size ≤ β b ∧ I (β b) = none ∧ ∃ cs ty, w.heap[β b]? = some (.cells cs ty (0, 0)) ∧ Rs I β κ (tkOf s.tk) cells cs.toList ∧ ∀ v ∈ cs.toList, v.oneCell' = true
  mem : ∀ c cells, s.mm c = some cells → w0.may c ∧ I c = none ∧ ∃ cs ty, w.heap[c]? = some (.cells cs ty (0, 0)) ∧ Cs I cells cs.toList
  mbx : ∀ b cells, lk b s.bx = some cells → s.mm (β b) = none
  rob : ∀ b cells, lk b s.ro = some cells → ∃ arr, I (β b) = some arr ∧ Cs I cells (arr.take cells.length) ∧ cells.length ≤ arr.length
  inj : ∀ b b' c c', lk b s.bx = some c → lk b' s.bx = some c' → β b = β b' → b = b'
  tok : ∀ t, 0 < tkOf s.tk t → w0.heap.size ≤ (κ t).1 ∧ ∃ cs ty arr, w.heap[(κ t).1]? = some (.cells cs ty (0, 0)) ∧ cs.size = (κ t).2.1 * (κ t).2.2 ∧ I (κ t).1 = some arr ∧ arr.length = tkOf s.tk t * (κ t).2.2 ∧ tkOf s.tk t ≤ (κ t).2.1
  tinj : ∀ t t', 0 < tkOf s.tk t → 0 < tkOf s.tk t' → (κ t).1 = (κ t').1 → t = t'
  dfr : ∃ Ds : List Nat, a.defers = Ds.map (fun D => { target := .collected D, args := #[] }) ∧ Ds.Nodup ∧ ∀ D ∈ Ds, w0.heap.size ≤ D ∧ w.heap[D]? = some (.deferred (some []))

end Go.Proofs.YtambpjbpdackfaaGreat.A


/- What each step of the model does to a state that reads as a told one. -/
set_option linter.unusedVariables false
set_option linter.unusedSimpArgs false
namespace Go.Proofs.YtambpjbpdackfaaGreat.A
open Go Go.RowKit

def rm {β : Type} (k : Nat) : List (Nat × β) → List (Nat × β)
  | [] => []
  | (j, y) :: l => if j = k then rm k l else (j, y) :: rm k l

theorem lk_rm {β : Type} (k j : Nat) (l : List (Nat × β)) : lk j (rm k l) = if j = k then none else lk j l := by
  induction l with
  | nil => simp [rm, lk]
  | cons p l ih =>
    obtain ⟨i, y⟩ := p
    simp only [rm]
    by_cases h : i = k
    · subst h
      simp only [if_true, ih, lk]
      by_cases h' : i = j
      · simp [h']
      · have h'' : ¬ j = i := fun e => h' e.symm
        simp [h', h'']
    · simp only [h, if_false, lk, ih]
      by_cases h' : i = j
      · subst h'; simp [h]
      · simp [h']

theorem lk_map {β γ : Type} (f : β → γ) (k : Nat) (l : List (Nat × β)) : lk k (l.map fun p => (p.1, f p.2)) = (lk k l).map f := by
  induction l with
  | nil => rfl
  | cons p l ih =>
    obtain ⟨i, y⟩ := p
    simp only [List.map_cons, lk, ih]
    split <;> rfl

theorem tkOf_upd (l : List (Nat × Nat)) (t t' n : Nat) : tkOf (upd t n l) t' = if t' = t then n else tkOf l t' := by
  unfold tkOf
  rw [lk_upd]
  split <;> simp_all

/-- One block has turned, at most. -/
structure OnlyAt (k : Nat) (w w' : World) : Prop where
  os : w'.os = w.os
  tape : w'.tape = w.tape
  output : w'.output = w.output
  size : w'.heap.size = w.heap.size
  block : ∀ j, j ≠ k → w'.heap[j]? = w.heap[j]?

theorem OnlyAt.refl (k : Nat) (w : World) : OnlyAt k w w := ⟨rfl, rfl, rfl, rfl, fun _ _ => rfl⟩
theorem OnlyAt.trans {k : Nat} {w w' w'' : World} (h : OnlyAt k w w') (g : OnlyAt k w' w'') : OnlyAt k w w'' :=
  ⟨g.os.trans h.os, g.tape.trans h.tape, g.output.trans h.output, g.size.trans h.size, fun j hj => (g.block j hj).trans (h.block j hj)⟩
theorem OnlyAt.setCell (w : World) (p : Addr) (v : Value) : OnlyAt p.block w (w.setCell p v) :=
  ⟨rfl, rfl, rfl, by simp, fun j hj => Below.heap_setCell _ _ _ _ hj⟩
theorem OnlyAt.below {k B : Nat} {w w' : World} (h : OnlyAt k w w') (hk : B ≤ k) : Below B w w' :=
  ⟨h.os, h.tape, h.output, Nat.le_of_eq h.size.symm, fun j hj => h.block j (by omega)⟩

section
variable {w0 : Bs} {w w' : World} {I0 I J : Imm} {β : Nat → Nat} {κ : Nat → Nat × Nat × Nat} {s : St} {sav : List (Array Value)} {a : Act}

theorem BelowL.only {k : Nat} (h : BelowL w0 w) (ho : OnlyAt k w w') (hk : w0.may k) : BelowL w0 w' :=
  ⟨ho.os.trans h.os, ho.tape.trans h.tape, ho.output.trans h.output, Nat.le_trans h.size (Nat.le_of_eq ho.size.symm), fun j hj hl => (ho.block j (fun e => by
    subst e
    rcases hk with hk | hk
    · omega
    · rw [hk] at hl; cases hl)).trans (h.block j hj hl)⟩

/-- What is known of memory that may be written, told of another world. -/
theorem Sim.memKeep (h : Sim w0 I0 I β κ s sav a w) (hIJ : I.le J) (hJ : ∀ c cells, s.mm c = some cells → J c = none) (hw : ∀ c cells, s.mm c = some cells → w'.heap[c]? = w.heap[c]?) :
    ∀ c cells, s.mm c = some cells → w0.may c ∧ J c = none ∧ ∃ cs ty, w'.heap[c]? = some (.cells cs ty (0, 0)) ∧ Cs J cells cs.toList := fun c cells hc => by
  obtain ⟨h1, h2, cs, ty, h3, h4⟩ := h.mem c cells hc
  exact ⟨h1, hJ c cells hc, cs, ty, (hw c cells hc).trans h3, h4.mono hIJ⟩
theorem Sim.memLt (h : Sim w0 I0 I β κ s sav a w) {c : Nat} {cells : List PV} (hc : s.mm c = some cells) : c < w.heap.size := by
  obtain ⟨_, _, cs, ty, h3, _⟩ := h.mem c cells hc
  exact (Array.getElem?_eq_some_iff.1 h3).1
theorem Sim.memNone (h : Sim w0 I0 I β κ s sav a w) {c : Nat} (hc : w.heap.size ≤ c) : s.mm c = none := by
  cases hm : s.mm c with
  | none => rfl
  | some x => have := h.memLt hm; omega

theorem Sim.size (h : Sim w0 I0 I β κ s sav a w) : w0.heap.size ≤ w.heap.size := h.below.size

theorem Sim.put (h : Sim w0 I0 I β κ s sav a w) (d : Nat) {x : TV} {v : Value} (hx : R I β κ (tkOf s.tk) x v) :
    Sim w0 I0 I β κ { s with tm := s.tm.set d x } sav (a.put (some d) v) w :=
  { h with
    tm := by simp only [Act.put, Array.toList_setIfInBounds]; exact h.tm.set d hx
    dfr := by simpa [Act.put] using h.dfr }

theorem Sim.grow (h : Sim w0 I0 I β κ s sav a w) (hb : Below w.heap.size w w') (hJ : I.le J) (hold : ∀ b, b < w.heap.size → J b = I b) (hg : Good J w') :
    Sim w0 I0 J β κ s sav a w' where
  below := h.below.trans (hb.mono h.size)
  good := hg
  ext := Imm.le_trans h.ext hJ
  old := fun b hlt => (hold b (Nat.lt_of_lt_of_le hlt h.size)).trans (h.old b hlt)
  tm := by have := h.tm.map (f := id) (fun _ _ k => k.mono hJ); rwa [List.map_id] at this
  sv := by have := h.sv.map (f := id) (fun _ _ k => k.mono hJ); simpa using this
  box := fun b cells hc => by
    obtain ⟨h1, h2, cs, ty, h3, h4⟩ := h.box b cells hc
    have hlt := (Array.getElem?_eq_some_iff.1 h3).1
    refine ⟨h1, by rw [hold _ hlt, h2], cs, ty, by rw [hb.block _ hlt, h3], ?_, h4.2⟩
    have := h4.1.map (f := id) (fun _ _ k => k.mono hJ)
    rwa [List.map_id] at this
  rob := fun b cells hc => by
    obtain ⟨arr, h1, h2, h3⟩ := h.rob b cells hc
    obtain ⟨m, hm⟩ := hJ _ _ h1
    refine ⟨_, hm, ?_, by simp; omega⟩
    rw [List.take_append_of_le_length h3]
    exact h2.mono hJ
  mem := h.memKeep hJ (fun c cells hc => (hold c (h.memLt hc)).trans (h.mem c cells hc).2.1) (fun c cells hc => hb.block c (h.memLt hc))
  mbx := h.mbx
  inj := h.inj
  tok := fun t ht => by
    obtain ⟨h1, cs, ty, arr, h2, h3, h4, h5⟩ := h.tok t ht
    have hlt := (Array.getElem?_eq_some_iff.1 h2).1
    exact ⟨h1, cs, ty, arr, by rw [hb.block _ hlt, h2], h3, by rw [hold _ hlt, h4], h5⟩
  tinj := h.tinj
  dfr := by
    obtain ⟨Ds, h1, h2, h3⟩ := h.dfr
    exact ⟨Ds, h1, h2, fun D hD => ⟨(h3 D hD).1, by rw [hb.block _ (Array.getElem?_eq_some_iff.1 (h3 D hD).2).1, (h3 D hD).2]⟩⟩

theorem Imm.none_new (h : Good I w) {b : Nat} (hb : w.heap.size ≤ b) : I b = none := by
  cases hi : I b with
  | none => rfl
  | some arr => have := h.lt hi; omega

theorem Sim.draw (h : Sim w0 I0 I β κ s sav a w) (n : Nat) : Sim w0 I0 I β κ s sav a { w with drawn := n } :=
  h.grow ⟨rfl, rfl, rfl, Nat.le_refl _, fun _ _ => rfl⟩ (Imm.le_refl _) (fun _ _ => rfl) (h.good)

theorem Sim.drew (h : Sim w0 I0 I β κ s sav a w) : Sim w0 I0 I β κ s sav a w.drew := h.draw _

/-- A new block of which nothing is told. -/
theorem Sim.alloc (h : Sim w0 I0 I β κ s sav a w) (o : Obj) : Sim w0 I0 I β κ s sav a (w.alloc o) :=
  h.grow ((Below.refl _ w).alloc (Nat.le_refl _) o) (Imm.le_refl _) (fun _ _ => rfl) (h.good.below ((Below.refl _ w).alloc (Nat.le_refl _) o))

/-- A new variable of the call's own. -/
def St.newBox (b : Nat) (cells : List TV) (s : St) : St :=
  { s.mapTV (TV.killPtr b) with bx := upd b (cells.map (TV.killPtr b)) (s.mapTV (TV.killPtr b)).bx }

theorem R.killPtr {tk : Nat → Nat} (b c : Nat) (x : TV) (u : Value) (h : R I β κ tk x u) : R I (fun j => if j = b then c else β j) κ tk (x.killPtr b) u := by
  cases h with
  | v hx => exact .v hx
  | @ptr b' off =>
    simp only [TV.killPtr]
    by_cases e : b' = b
    · rw [if_pos e]; exact .v (.junk _)
    · rw [if_neg e]
      have : R I (fun j => if j = b then c else β j) κ tk (.ptr b' off) (.pointer (some ⟨(fun j => if j = b then c else β j) b', off, none⟩)) := .ptr
      simpa [e] using this
  | @own b' n =>
    simp only [TV.killPtr]
    by_cases e : b' = b
    · rw [if_pos e]; exact .v (.junk _)
    · rw [if_neg e]
      have : R I (fun j => if j = b then c else β j) κ tk (.own b' n) (.slice (some ⟨(fun j => if j = b then c else β j) b', 0, none⟩) n n) := .own
      simpa [e] using this
  | acc0 => exact .acc0
  | acc h1 h2 h3 h4 h5 h6 => exact .acc h1 h2 h3 h4 h5 h6

theorem Sim.newBox (h : Sim w0 I0 I β κ s sav a w) (b : Nat) (cells : List TV) (cs : Array Value) (ty : TypeId) (hro : lk b s.ro = none) (hc : Rs I β κ (tkOf s.tk) cells cs.toList) (hone : ∀ v ∈ cs.toList, v.oneCell' = true) :
    Sim w0 I0 I (fun j => if j = b then w.heap.size else β j) κ (s.newBox b cells) sav a (w.alloc (.cells cs ty)) := by
  have h0 := h.alloc (.cells cs ty)
  have hnew : (w.alloc (.cells cs ty)).heap[w.heap.size]? = some (.cells cs ty (0, 0)) := World.alloc_heap_new w _
  have lt_box : ∀ j c, lk j s.bx = some c → β j < w.heap.size := fun j c hj => by
    obtain ⟨_, _, cs', ty', h3, _⟩ := h.box j c hj
    exact (Array.getElem?_eq_some_iff.1 h3).1
  have hbx : ∀ j, lk j (s.newBox b cells).bx = if j = b then some (cells.map (TV.killPtr b)) else (lk j s.bx).map fun l => l.map (TV.killPtr b) := fun j => by
    simp only [St.newBox, St.mapTV, lk_upd, lk_map]
  exact
    { below := h0.below
      good := h0.good
      ext := h0.ext
      old := h0.old
      tm := h.tm.map fun x u k => k.killPtr b _
      sv := h.sv.map fun x u k => k.killPtr b _
      box := fun j c hj => by
        rw [hbx] at hj
        by_cases e : j = b
        · simp only [e, if_true, Option.some.injEq] at hj ⊢
          subst hj
          exact ⟨h.size, Imm.none_new h.good (Nat.le_refl _), cs, ty, hnew, hc.map fun x u k => k.killPtr b _, hone⟩
        · simp only [e, if_false, Option.map_eq_some_iff] at hj ⊢
          obtain ⟨c', hj', rfl⟩ := hj
          obtain ⟨h1, h2, cs', ty', h3, h4⟩ := h0.box j c' hj'
          exact ⟨h1, h2, cs', ty', h3, h4.1.map fun x u k => k.killPtr b _, h4.2⟩
      rob := fun j c hj => by
        have hj' : lk j s.ro = some c := hj
        have e : j ≠ b := fun e => by subst e; rw [hro] at hj'; cases hj'
        simpa [e] using h0.rob j c hj'
      mem := h0.mem
      mbx := fun j c hj => by
        rw [hbx] at hj
        by_cases e : j = b
        · simp only [e, if_true]
          exact h.memNone (Nat.le_refl _)
        · simp only [e, if_false, Option.map_eq_some_iff] at hj ⊢
          obtain ⟨c', hj', _⟩ := hj
          exact h.mbx j c' hj'
      inj := fun j j' c c' hj hj' hβ => by
        rw [hbx] at hj hj'
        by_cases e : j = b <;> by_cases e' : j' = b
        · rw [e, e']
        · simp only [e, e', if_true, if_false, Option.map_eq_some_iff] at hj hj' hβ
          obtain ⟨c1, hj1, _⟩ := hj'
          have := lt_box _ _ hj1
          omega
        · simp only [e, e', if_true, if_false, Option.map_eq_some_iff] at hj hj' hβ
          obtain ⟨c1, hj1, _⟩ := hj
          have := lt_box _ _ hj1
          omega
        · simp only [e, e', if_false, Option.map_eq_some_iff] at hj hj' hβ
          obtain ⟨c1, hj1, _⟩ := hj
          obtain ⟨c2, hj2, _⟩ := hj'
          exact h.inj _ _ _ _ hj1 hj2 hβ
      tok := h0.tok
      tinj := h0.tinj
      dfr := h0.dfr }

/-- A store into a variable of the call's own. -/
theorem Sim.store (h : Sim w0 I0 I β κ s sav a w) {b : Nat} {cells cells' : List TV} (hb : lk b s.bx = some cells) (ho : OnlyAt (β b) w w') {cs' : Array Value} {ty : TypeId}
    (hw : w'.heap[β b]? = some (.cells cs' ty (0, 0))) (hc : Rs I β κ (tkOf s.tk) cells' cs'.toList) (hone : ∀ v ∈ cs'.toList, v.oneCell' = true) :
    Sim w0 I0 I β κ { s with bx := upd b cells' s.bx } sav a w' := by
  obtain ⟨hb1, hb2, _⟩ := h.box b cells hb
  have hI : ∀ k arr, I k = some arr → k ≠ β b := fun k arr hk e => by rw [e, hb2] at hk; cases hk
  exact
    { below := h.below.trans (ho.below hb1)
      mem := h.memKeep (Imm.le_refl _) (fun c cells hc => (h.mem c cells hc).2.1) (fun c x hc => ho.block c (fun e => by rw [e, h.mbx b cells hb] at hc; cases hc))
      mbx := fun j c hj => by
        simp only [lk_upd] at hj
        by_cases e : j = b
        · rw [e]; exact h.mbx b cells hb
        · simp only [e, if_false] at hj
          exact h.mbx j c hj
      good := fun k arr hk => by
        obtain ⟨cs, ty, fz, more, h1, h2⟩ := h.good k arr hk
        exact ⟨cs, ty, fz, more, (ho.block k (hI k arr hk)).trans h1, h2⟩
      ext := h.ext
      old := h.old
      tm := h.tm
      sv := h.sv
      box := fun j c hj => by
        simp only [lk_upd] at hj
        by_cases e : j = b
        · simp only [e, if_true, Option.some.injEq] at hj ⊢
          subst hj
          exact ⟨hb1, hb2, cs', ty, hw, hc, hone⟩
        · simp only [e, if_false] at hj
          obtain ⟨h1, h2, cs, ty, h3, h4⟩ := h.box j c hj
          exact ⟨h1, h2, cs, ty, (ho.block _ (fun e' => e (h.inj _ _ _ _ hj hb e'))).trans h3, h4⟩
      rob := h.rob
      inj := fun j j' c c' hj hj' hβ => by
        simp only [lk_upd] at hj hj'
        have k1 : ∃ c1, lk j s.bx = some c1 := by
          by_cases e : j = b
          · exact ⟨_, e ▸ hb⟩
          · simp only [e, if_false] at hj; exact ⟨_, hj⟩
        have k2 : ∃ c1, lk j' s.bx = some c1 := by
          by_cases e : j' = b
          · exact ⟨_, e ▸ hb⟩
          · simp only [e, if_false] at hj'; exact ⟨_, hj'⟩
        obtain ⟨c1, k1⟩ := k1
        obtain ⟨c2, k2⟩ := k2
        exact h.inj _ _ _ _ k1 k2 hβ
      tok := fun t ht => by
        obtain ⟨h1, cs, ty, arr, h2, h3, h4, h5⟩ := h.tok t ht
        exact ⟨h1, cs, ty, arr, (ho.block _ (hI _ _ h4)).trans h2, h3, h4, h5⟩
      tinj := h.tinj
      dfr := by
        obtain ⟨Ds, h1, h2, h3⟩ := h.dfr
        refine ⟨Ds, h1, h2, fun D hD => ⟨(h3 D hD).1, (ho.block D (fun e => ?_)).trans (h3 D hD).2⟩⟩
        obtain ⟨_, _, cs, ty, k3, _⟩ := h.box b cells hb
        have h4 := (h3 D hD).2
        rw [e, k3] at h4
        cases h4 }

/-- Of a variable of the call's own it is said that it is not written again. -/
def St.freeze (b : Nat) (cells : List PV) (s : St) : St := { s with bx := rm b s.bx, ro := upd b cells s.ro }

theorem Sim.freeze (h : Sim w0 I0 I β κ s sav a w) {b : Nat} {cells : List PV} (hb : lk b s.bx = some (cells.map .v)) :
    ∃ J, I.le J ∧ Sim w0 I0 J β κ (s.freeze b cells) sav a w := by
  obtain ⟨hb1, hb2, cs, ty, hw, hc, hone⟩ := h.box b _ hb
  have hIJ : I.le (fun k => if k = β b then some cs.toList else I k) := fun k arr hk => by
    by_cases e : k = β b
    · rw [e, hb2] at hk; cases hk
    · exact ⟨[], by simp [e, hk]⟩
  have hC : Cs I cells cs.toList := by
    clear hb hIJ hw
    generalize cs.toList = l at hc
    induction cells generalizing l with
    | nil => cases hc; exact .nil
    | cons x xs ih => cases hc with | cons hx hs => cases hx with | v hx => exact .cons hx (ih _ hs)
  refine ⟨_, hIJ, ?_⟩
  have hmap : ∀ x u, R I β κ (tkOf s.tk) x u → R (fun k => if k = β b then some cs.toList else I k) β κ (tkOf s.tk) (id x) u := fun _ _ k => k.mono hIJ
  exact
    { below := h.below
      good := fun k arr hk => by
        by_cases e : k = β b
        · simp only [e, if_true, Option.some.injEq] at hk
          subst hk
          exact ⟨cs, ty, (0, 0), [], by rw [e]; exact hw, by simp⟩
        · simp only [e, if_false] at hk
          exact h.good k arr hk
      ext := Imm.le_trans h.ext hIJ
      old := fun k hk => by
        have e : k ≠ β b := by omega
        simpa [e] using h.old k hk
      tm := by have := h.tm.map hmap; rwa [List.map_id] at this
      sv := by
        have := h.sv.map hmap
        have e : (s.sv.map fun l => l.map id) = s.sv := by simp
        rw [e] at this
        exact this
      box := fun j c hj => by
        simp only [St.freeze, lk_rm] at hj
        by_cases e : j = b
        · simp [e] at hj
        · simp only [e, if_false] at hj
          obtain ⟨h1, h2, cs', ty', h3, h4⟩ := h.box j c hj
          have hne : β j ≠ β b := fun e' => e (h.inj _ _ _ _ hj hb e')
          refine ⟨h1, by simp [hne, h2], cs', ty', h3, ?_, h4.2⟩
          have := h4.1.map hmap
          rwa [List.map_id] at this
      rob := fun j c hj => by
        simp only [St.freeze, lk_upd] at hj
        by_cases e : j = b
        · simp only [e, if_true, Option.some.injEq] at hj
          subst hj
          have hl := hC.length
          refine ⟨cs.toList, by simp [e], ?_, by omega⟩
          rw [List.take_of_length_le (by omega)]
          exact hC.mono hIJ
        · simp only [e, if_false] at hj
          obtain ⟨arr, h1, h2, h3⟩ := h.rob j c hj
          obtain ⟨m, hm⟩ := hIJ _ _ h1
          refine ⟨_, hm, ?_, by simp; omega⟩
          rw [List.take_append_of_le_length h3]
          exact h2.mono hIJ
      mem := h.memKeep hIJ (fun c x hc => by
        have hne : c ≠ β b := fun e => by rw [e, h.mbx b _ hb] at hc; cases hc
        simp [hne, (h.mem c x hc).2.1]) (fun _ _ _ => rfl)
      mbx := fun j c hj => by
        simp only [St.freeze, lk_rm] at hj
        by_cases e : j = b
        · simp [e] at hj
        · simp only [e, if_false] at hj
          exact h.mbx j c hj
      inj := fun j j' c c' hj hj' hβ => by
        simp only [St.freeze, lk_rm] at hj hj'
        by_cases e : j = b
        · simp [e] at hj
        · by_cases e' : j' = b
          · simp [e'] at hj'
          · simp only [e, e', if_false] at hj hj'
            exact h.inj _ _ _ _ hj hj' hβ
      tok := fun t ht => by
        obtain ⟨h1, cs', ty', arr, h2, h3, h4, h5⟩ := h.tok t ht
        have hne : (κ t).1 ≠ β b := fun e => by rw [e, hb2] at h4; cases h4
        exact ⟨h1, cs', ty', arr, h2, h3, by simp [hne, h4], h5⟩
      tinj := h.tinj
      dfr := h.dfr }

/-- Of a row that the call has made it is said that it is not written again. -/
def TV.shut (b : Nat) (cells : List PV) : TV → TV
  | .v x => .v x
  | .ptr b' off => .ptr b' off
  | .acc t els => .acc t els
  | .own b' n => if b' = b then (if n = cells.length then .v (.sl true cells) else .v .junk) else .own b' n
def St.shut (b : Nat) (cells : List PV) (s : St) : St := ({ s with bx := rm b s.bx } : St).mapTV (TV.shut b cells)

theorem flat_cells {cells : List PV} (h : cells.all PV.one = true) : flat cells = cells := by
  induction cells with
  | nil => rfl
  | cons x xs ih =>
    simp only [List.all_cons, Bool.and_eq_true] at h
    have hx : x.cells = [x] := by
      cases x <;> simp_all [PV.one, PV.cells]
    simp only [flat, List.flatMap_cons, hx] at ih ⊢
    rw [ih h.2]
    rfl

theorem Sim.shut (h : Sim w0 I0 I β κ s sav a w) {b : Nat} {cells : List PV} (hb : lk b s.bx = some (cells.map .v)) (hone' : cells.all PV.one = true) :
    ∃ J, I.le J ∧ Sim w0 I0 J β κ (s.shut b cells) sav a w := by
  obtain ⟨hb1, hb2, cs, ty, hw, hc, hone⟩ := h.box b _ hb
  have hIJ : I.le (fun k => if k = β b then some cs.toList else I k) := fun k arr hk => by
    by_cases e : k = β b
    · rw [e, hb2] at hk; cases hk
    · exact ⟨[], by simp [e, hk]⟩
  have hC : Cs I cells cs.toList := by
    clear hb hIJ hw hone'
    generalize cs.toList = l at hc
    induction cells generalizing l with
    | nil => cases hc; exact .nil
    | cons x xs ih => cases hc with | cons hx hs => cases hx with | v hx => exact .cons hx (ih _ hs)
  have hlen := hC.length
  have hfl := flat_cells hone'
  refine ⟨_, hIJ, ?_⟩
  have hmap : ∀ x u, R I β κ (tkOf s.tk) x u → R (fun k => if k = β b then some cs.toList else I k) β κ (tkOf s.tk) (x.shut b cells) u := fun x u k => by
    cases k with
    | v hx => exact .v (hx.mono hIJ)
    | ptr => exact .ptr
    | acc0 => exact .acc0
    | acc h1 h2 h3 h4 h5 h6 => exact .acc h1 h2 h3 (h4.mono hIJ) h5 h6
    | @own b' n =>
      simp only [TV.shut]
      split
      · rename_i e
        subst e
        split
        · rename_i hn
          refine .v (.sl (sz := 1) (arr := cs.toList) (by simp) (fun e he => ?_) hn ?_ ?_ (Nat.le_refl _) (fun _ => rfl))
          · have := List.all_eq_true.1 hone' e he
            cases e <;> simp_all [PV.one, PV.cells]
          · rw [hfl, List.drop_zero, List.take_of_length_le (by omega)]
            exact hC.mono hIJ
          · rw [hfl]
            omega
        · exact .v (.junk _)
      · exact .own
  exact
    { below := h.below
      good := fun k arr hk => by
        by_cases e : k = β b
        · simp only [e, if_true, Option.some.injEq] at hk
          subst hk
          exact ⟨cs, ty, (0, 0), [], by rw [e]; exact hw, by simp⟩
        · simp only [e, if_false] at hk
          exact h.good k arr hk
      ext := Imm.le_trans h.ext hIJ
      old := fun k hk => by
        have e : k ≠ β b := by omega
        simpa [e] using h.old k hk
      tm := h.tm.map hmap
      sv := h.sv.map hmap
      box := fun j c hj => by
        simp only [St.shut, St.mapTV, lk_map, lk_rm] at hj
        by_cases e : j = b
        · simp [e] at hj
        · simp only [e, if_false] at hj
          obtain ⟨c0, hj0, rfl⟩ := Option.map_eq_some_iff.1 hj
          obtain ⟨h1, h2, cs', ty', h3, h4⟩ := h.box j c0 hj0
          have hne : β j ≠ β b := fun e' => e (h.inj _ _ _ _ hj0 hb e')
          exact ⟨h1, by simp [hne, h2], cs', ty', h3, h4.1.map hmap, h4.2⟩
      rob := fun j c hj => by
        simp only [St.shut, St.mapTV] at hj
        obtain ⟨arr, h1, h2, h3⟩ := h.rob j c hj
        obtain ⟨m, hm⟩ := hIJ _ _ h1
        refine ⟨_, hm, ?_, by simp; omega⟩
        rw [List.take_append_of_le_length h3]
        exact h2.mono hIJ
      mem := h.memKeep hIJ (fun c x hc => by
        have hne : c ≠ β b := fun e => by rw [e, h.mbx b _ hb] at hc; cases hc
        simp [hne, (h.mem c x hc).2.1]) (fun _ _ _ => rfl)
      mbx := fun j c hj => by
        simp only [St.shut, St.mapTV, lk_map, lk_rm] at hj
        by_cases e : j = b
        · simp [e] at hj
        · simp only [e, if_false] at hj
          obtain ⟨c0, hj0, rfl⟩ := Option.map_eq_some_iff.1 hj
          exact h.mbx j c0 hj0
      inj := fun j j' c c' hj hj' hβ => by
        simp only [St.shut, St.mapTV, lk_map, lk_rm] at hj hj'
        by_cases e : j = b
        · simp [e] at hj
        · by_cases e' : j' = b
          · simp [e'] at hj'
          · simp only [e, e', if_false] at hj hj'
            obtain ⟨c0, hj0, _⟩ := Option.map_eq_some_iff.1 hj
            obtain ⟨c1, hj1, _⟩ := Option.map_eq_some_iff.1 hj'
            exact h.inj _ _ _ _ hj0 hj1 hβ
      tok := fun t ht => by
        obtain ⟨h1, cs', ty', arr, h2, h3, h4, h5⟩ := h.tok t ht
        have hne : (κ t).1 ≠ β b := fun e => by rw [e, hb2] at h4; cases h4
        exact ⟨h1, cs', ty', arr, h2, h3, by simp [hne, h4], h5⟩
      tinj := h.tinj
      dfr := h.dfr }

/-! ### Memory that is known, and may be written -/
/-- A store into it. -/
theorem Sim.memStore (h : Sim w0 I0 I β κ s sav a w) {c : Nat} {cells cells' : List PV} (hc : s.mm c = some cells) (ho : OnlyAt c w w') {cs' : Array Value} {ty : TypeId}
    (hw : w'.heap[c]? = some (.cells cs' ty (0, 0))) (hC : Cs I cells' cs'.toList) :
    Sim w0 I0 I β κ { s with mm := s.mm.put c cells' } sav a w' := by
  obtain ⟨hmay, hI, cs, ty0, hw0, _⟩ := h.mem c cells hc
  have hIc : ∀ k arr, I k = some arr → k ≠ c := fun k arr hk e => by rw [e, hI] at hk; cases hk
  exact
    { below := h.below.only ho hmay
      good := fun k arr hk => by
        obtain ⟨cs, ty, fz, more, h1, h2⟩ := h.good k arr hk
        exact ⟨cs, ty, fz, more, (ho.block k (hIc k arr hk)).trans h1, h2⟩
      ext := h.ext
      old := h.old
      tm := h.tm
      sv := h.sv
      box := fun j x hj => by
        obtain ⟨h1, h2, cs, ty, h3, h4⟩ := h.box j x hj
        exact ⟨h1, h2, cs, ty, (ho.block _ (fun e => by have := h.mbx j x hj; rw [e, hc] at this; cases this)).trans h3, h4⟩
      rob := h.rob
      mem := fun d x hd => by
        replace hd : (s.mm.put c cells') d = some x := hd
        by_cases e : d = c
        · subst e
          rw [Mem.put_same] at hd
          cases hd
          exact ⟨hmay, hI, cs', ty, hw, hC⟩
        · rw [Mem.put_other _ _ e] at hd
          obtain ⟨h1, h2, cs, ty, h3, h4⟩ := h.mem d x hd
          exact ⟨h1, h2, cs, ty, (ho.block _ e).trans h3, h4⟩
      mbx := fun j x hj => by
        have h1 := h.mbx j x hj
        have e : β j ≠ c := fun e => by rw [e, hc] at h1; cases h1
        show (s.mm.put c cells') (β j) = none
        rw [Mem.put_other _ _ e]
        exact h1
      inj := h.inj
      tok := fun t ht => by
        obtain ⟨h1, cs, ty, arr, h2, h3, h4, h5⟩ := h.tok t ht
        exact ⟨h1, cs, ty, arr, (ho.block _ (hIc _ _ h4)).trans h2, h3, h4, h5⟩
      tinj := h.tinj
      dfr := by
        obtain ⟨Ds, h1, h2, h3⟩ := h.dfr
        refine ⟨Ds, h1, h2, fun D hD => ⟨(h3 D hD).1, (ho.block D (fun e => ?_)).trans (h3 D hD).2⟩⟩
        have h4 := (h3 D hD).2
        rw [e, hw0] at h4
        cases h4 }

/-- A new block of it. -/
theorem Sim.memNew (h : Sim w0 I0 I β κ s sav a w) {cells : List PV} {cs : Array Value} {ty : TypeId} (hC : Cs I cells cs.toList) :
    Sim w0 I0 I β κ { s with mm := s.mm.put w.heap.size cells } sav a (w.alloc (.cells cs ty)) := by
  have h0 := h.alloc (.cells cs ty)
  have hnew : (w.alloc (.cells cs ty)).heap[w.heap.size]? = some (.cells cs ty (0, 0)) := World.alloc_heap_new w _
  exact
    { h0 with
      mem := fun d x hd => by
        replace hd : (s.mm.put w.heap.size cells) d = some x := hd
        by_cases e : d = w.heap.size
        · subst e
          rw [Mem.put_same] at hd
          cases hd
          exact ⟨.inl h.size, Imm.none_new h.good (Nat.le_refl _), cs, ty, hnew, hC⟩
        · rw [Mem.put_other _ _ e] at hd
          exact h0.mem d x hd
      mbx := fun j x hj => by
        obtain ⟨_, _, cs', ty', h3, _⟩ := h.box j x hj
        have hlt := (Array.getElem?_eq_some_iff.1 h3).1
        show (s.mm.put w.heap.size cells) (β j) = none
        rw [Mem.put_other _ _ (by omega)]
        exact h.mbx j x hj }

end
end Go.Proofs.YtambpjbpdackfaaGreat.A


/- Rows that the call appends to: a new one, one that moves, one that grows where it lies. -/
set_option linter.unusedVariables false
set_option linter.unusedSimpArgs false
namespace Go.Proofs.YtambpjbpdackfaaGreat.A
open Go Go.RowKit

theorem flat_length {els : List PV} {sz : Nat} (h : ∀ e ∈ els, e.cells.length = sz) : (flat els).length = els.length * sz := by
  induction els with
  | nil => simp [flat]
  | cons e es ih =>
    have h1 := h e (by simp)
    have h2 := ih (fun x hx => h x (by simp [hx]))
    simp only [flat, List.flatMap_cons, List.length_append, List.length_cons] at h2 ⊢
    rw [h1, h2, Nat.succ_mul]
    omega

theorem flat_append (xs ys : List PV) : flat (xs ++ ys) = flat xs ++ flat ys := by simp [flat]

def St.newTok (t : Nat) (s : St) : St := { s.mapTV (TV.killTok t) with tk := upd t 0 s.tk }

section
variable {w0 : Bs} {w w' : World} {I0 I J : Imm} {β : Nat → Nat} {κ : Nat → Nat × Nat × Nat} {s : St} {sav : List (Array Value)} {a : Act}

theorem R.killTok {tk : List (Nat × Nat)} (t : Nat) (x : TV) (u : Value) (h : R I β κ (tkOf tk) x u) : R I β κ (tkOf (upd t 0 tk)) (x.killTok t) u := by
  cases x with
  | v x => cases h with | v hx => exact .v hx
  | ptr b off => cases h; exact .ptr
  | own b n => cases h; exact .own
  | acc t' els =>
    simp only [TV.killTok]
    by_cases e : t' = t
    · rw [if_pos e]; exact .v h.toC
    · rw [if_neg e]
      cases h with
      | acc0 => exact .acc0
      | acc h1 h2 h3 h4 h5 h6 => exact .acc h1 h2 h3 h4 (by rw [tkOf_upd, if_neg e]; exact h5) (by rw [tkOf_upd, if_neg e]; exact h6)

theorem Sim.newTok (h : Sim w0 I0 I β κ s sav a w) (t : Nat) : Sim w0 I0 I β κ (s.newTok t) sav a w where
  below := h.below
  good := h.good
  ext := h.ext
  old := h.old
  tm := h.tm.map fun x u k => k.killTok t
  sv := h.sv.map fun x u k => k.killTok t
  box := fun b cells hc => by
    simp only [St.newTok, St.mapTV, lk_map, Option.map_eq_some_iff] at hc
    obtain ⟨c, hc, rfl⟩ := hc
    obtain ⟨h1, h2, cs, ty, h3, h4⟩ := h.box b c hc
    exact ⟨h1, h2, cs, ty, h3, h4.1.map fun x u k => k.killTok t, h4.2⟩
  rob := h.rob
  mem := h.mem
  mbx := fun b cells hc => by
    simp only [St.newTok, St.mapTV, lk_map, Option.map_eq_some_iff] at hc
    obtain ⟨c, hc, rfl⟩ := hc
    exact h.mbx b c hc
  inj := fun b b' c c' hc hc' hβ => by
    simp only [St.newTok, St.mapTV, lk_map, Option.map_eq_some_iff] at hc hc'
    obtain ⟨c1, hc, _⟩ := hc
    obtain ⟨c2, hc', _⟩ := hc'
    exact h.inj _ _ _ _ hc hc' hβ
  tok := fun t' ht => by
    simp only [St.newTok, tkOf_upd] at ht ⊢
    by_cases e : t' = t
    · simp [e] at ht
    · simp only [e, if_false] at ht ⊢
      exact h.tok t' ht
  tinj := fun t1 t2 h1 h2 hκ => by
    simp only [St.newTok, tkOf_upd] at h1 h2
    by_cases e1 : t1 = t
    · simp [e1] at h1
    · by_cases e2 : t2 = t
      · simp [e2] at h2
      · simp only [e1, e2, if_false] at h1 h2
        exact h.tinj _ _ h1 h2 hκ
  dfr := h.dfr

/-- What held of slots holds when row t has become longer. -/
theorem R.longer {tk : List (Nat × Nat)} {t n : Nat} {p : Nat × Nat × Nat} (hIJ : I.le J) (hn : tkOf tk t < n) (x : TV) (u : Value) (h : R I β κ (tkOf tk) x u) :
    R J β (fun j => if j = t then p else κ j) (tkOf (upd t n tk)) x u := by
  cases h with
  | v hx => exact .v (hx.mono hIJ)
  | ptr => exact .ptr
  | own => exact .own
  | acc0 => exact .acc0
  | @acc t' els c m cap sz h1 h2 h3 h4 h5 h6 =>
    by_cases e : t' = t
    · subst e
      exact .acc h1 h2 h3 (h4.mono hIJ) (by rw [tkOf_upd, if_pos rfl]; omega) (fun e => by rw [tkOf_upd, if_pos rfl] at e; omega)
    · exact .acc h1 h2 h3 (h4.mono hIJ) (by rw [tkOf_upd, if_neg e]; exact h5) (fun e' => by rw [tkOf_upd, if_neg e] at e'; simpa [e] using h6 e')

theorem id_map (l : List (List TV)) : (l.map fun x => x.map id) = l := by simp

/-- A row in a new block. -/
theorem Sim.ownNew (h : Sim w0 I0 I β κ s sav a w) (t n cap sz : Nat) (els : List PV) (cs : Array Value) (ty : TypeId) (hn : n = els.length) (ht : tkOf s.tk t < n) (hcs : cs.size = cap * sz) (hcap : n ≤ cap)
    (hu : ∀ e ∈ els, e.cells.length = sz) (hc : Cs I (flat els) (cs.toList.take (flat els).length)) (hone : ∀ v ∈ cs.toList.take (n * sz), v.oneCell' = true) :
    ∃ J κ', I.le J ∧ Sim w0 I0 J β κ' { s with tk := upd t n s.tk } sav a (w.alloc (.cells cs ty)) ∧
      R J β κ' (tkOf (upd t n s.tk)) (.acc t els) (.slice (some ⟨w.heap.size, 0, none⟩) n cap) := by
  have hfl := flat_length hu
  have hnone : I w.heap.size = none := Imm.none_new h.good (Nat.le_refl _)
  have hle : n * sz ≤ cs.toList.length := by rw [Array.length_toList, hcs]; exact Nat.mul_le_mul_right _ hcap
  have hIJ : I.le (fun k => if k = w.heap.size then some (cs.toList.take (n * sz)) else I k) := fun k arr hk => by
    by_cases e : k = w.heap.size
    · rw [e, hnone] at hk; cases hk
    · exact ⟨[], by simp [e, hk]⟩
  have hnew : (w.alloc (.cells cs ty)).heap[w.heap.size]? = some (.cells cs ty (0, 0)) := World.alloc_heap_new w _
  have hg : Good (fun k => if k = w.heap.size then some (cs.toList.take (n * sz)) else I k) (w.alloc (.cells cs ty)) := fun k arr hk => by
    by_cases e : k = w.heap.size
    · simp only [e, if_true, Option.some.injEq] at hk
      subst hk
      exact ⟨cs, ty, (0, 0), cs.toList.drop (n * sz), by rw [e]; exact hnew, (List.take_append_drop _ _).symm⟩
    · simp only [e, if_false] at hk
      exact (h.good.below ((Below.refl _ w).alloc (Nat.le_refl _) _)) k arr hk
  have h0 := h.grow (J := fun k => if k = w.heap.size then some (cs.toList.take (n * sz)) else I k) ((Below.refl _ w).alloc (Nat.le_refl _) (.cells cs ty)) hIJ
    (fun b hb => by have : b ≠ w.heap.size := by omega
                    simp [this]) hg
  have hrow : RowAt (fun k => if k = w.heap.size then some (cs.toList.take (n * sz)) else I k) w.heap.size sz els :=
    ⟨cs.toList.take (n * sz), by simp, hu, by rw [hfl, ← hn, List.take_take, Nat.min_self]; rw [hfl, ← hn] at hc; exact hc.mono hIJ, by rw [hfl, ← hn, List.length_take]; omega⟩
  have hmap : ∀ x u, R I β κ (tkOf s.tk) x u → R (fun k => if k = w.heap.size then some (cs.toList.take (n * sz)) else I k) β (fun j => if j = t then (w.heap.size, cap, sz) else κ j) (tkOf (upd t n s.tk)) (id x) u :=
    fun x u k => k.longer hIJ ht
  refine ⟨_, fun j => if j = t then (w.heap.size, cap, sz) else κ j, hIJ, ?_, .acc (by intro e; subst e; simp at hn; omega) hn hcap hrow (by rw [tkOf_upd, if_pos rfl]; exact Nat.le_refl _) (fun _ => by simp)⟩
  exact
    { below := h0.below
      good := h0.good
      ext := h0.ext
      old := h0.old
      tm := by have := h.tm.map hmap; rwa [List.map_id] at this
      sv := by have := h.sv.map hmap; rwa [id_map] at this
      box := fun b cells hb => by
        obtain ⟨h1, h2, cs', ty', h3, h4⟩ := h0.box b cells hb
        obtain ⟨_, _, cs2, ty2, k3, k4⟩ := h.box b cells hb
        have hlt := (Array.getElem?_eq_some_iff.1 k3).1
        have e : cs2 = cs' ∧ ty2 = ty' := by
          have := (Below.heap_alloc w (.cells cs ty) _ hlt).trans k3
          rw [h3] at this
          cases this
          exact ⟨rfl, rfl⟩
        obtain ⟨rfl, rfl⟩ := e
        refine ⟨h1, h2, cs2, ty2, h3, ?_, k4.2⟩
        have := k4.1.map hmap
        rwa [List.map_id] at this
      rob := h0.rob
      mem := h0.mem
      mbx := h0.mbx
      inj := h0.inj
      tok := fun t' ht' => by
        simp only [tkOf_upd] at ht' ⊢
        by_cases e : t' = t
        · simp only [e, if_true]
          exact ⟨h.size, cs, ty, cs.toList.take (n * sz), hnew, hcs, rfl, by rw [List.length_take]; omega, hcap⟩
        · simp only [e, if_false] at ht' ⊢
          exact h0.tok t' ht'
      tinj := fun t1 t2 h1 h2 hκ => by
        simp only [tkOf_upd] at h1 h2
        have lt_tok : ∀ t', 0 < tkOf s.tk t' → (κ t').1 < w.heap.size := fun t' ht' => by
          obtain ⟨_, cs', ty', arr, k2, _⟩ := h.tok t' ht'
          exact (Array.getElem?_eq_some_iff.1 k2).1
        by_cases e1 : t1 = t <;> by_cases e2 : t2 = t
        · rw [e1, e2]
        · simp only [e1, e2, if_true, if_false] at h1 h2 hκ
          have := lt_tok _ h2; omega
        · simp only [e1, e2, if_true, if_false] at h1 h2 hκ
          have := lt_tok _ h1; omega
        · simp only [e1, e2, if_false] at h1 h2 hκ
          exact h.tinj _ _ h1 h2 hκ
      dfr := h0.dfr }

/-- A row that grows where it lies. -/
theorem Sim.ownGrow (h : Sim w0 I0 I β κ s sav a w) {t n c cap sz : Nat} {els ys : List PV} {new : List Value} {cs cs' : Array Value} {ty : TypeId} (hm : tkOf s.tk t = els.length) (hm0 : els ≠ []) (hy0 : ys ≠ [])
    (hn : n = els.length + ys.length) (hκ : κ t = (c, cap, sz)) (hcap : n ≤ cap) (hrow : RowAt I c sz els) (hu : ∀ e ∈ ys, e.cells.length = sz) (hc : Cs I (flat ys) new)
    (hw : w.heap[c]? = some (.cells cs ty (0, 0))) (ho : OnlyAt c w w') (hw' : w'.heap[c]? = some (.cells cs' ty (0, 0))) (hsz : cs'.size = cs.size)
    (hcs' : ∃ rest, cs'.toList = cs.toList.take (els.length * sz) ++ new ++ rest) (hone : ∀ v ∈ new, v.oneCell' = true) :
    ∃ J κ', I.le J ∧ Sim w0 I0 J β κ' { s with tk := upd t n s.tk } sav a w' ∧ R J β κ' (tkOf (upd t n s.tk)) (.acc t (els ++ ys)) (.slice (some ⟨c, 0, none⟩) n cap) := by
  have hlen0 : 0 < els.length := List.length_pos_iff.2 hm0
  have hylen : 0 < ys.length := List.length_pos_iff.2 hy0
  obtain ⟨h1, cs1, ty1, arr, h2, h3, h4, h5, h6⟩ := h.tok t (by omega)
  rw [hκ] at h1 h2 h3 h4 h5 h6
  simp only at h1 h2 h3 h4 h5 h6
  rw [hw] at h2
  cases h2
  obtain ⟨arr', hr1, hu1, hr2, hr3⟩ := hrow
  rw [h4] at hr1
  cases hr1
  have hfl := flat_length hu1
  have hfy := flat_length hu
  have hnl : new.length = ys.length * sz := by rw [← hc.length, hfy]
  obtain ⟨cs0, ty0, fz0, more, hg1, hg2⟩ := h.good c arr h4
  rw [hw] at hg1
  cases hg1
  have h5' : arr.length = els.length * sz := by rw [h5, hm]
  have harr : cs.toList.take (els.length * sz) = arr := by
    rw [hg2, List.take_append_of_le_length (by omega), List.take_of_length_le (by omega)]
  obtain ⟨rest, hcs'⟩ := hcs'
  rw [harr] at hcs'
  have hIJ : I.le (fun k => if k = c then some (arr ++ new) else I k) := fun k ar hk => by
    by_cases e : k = c
    · rw [e, h4] at hk; cases hk; exact ⟨new, by simp [e]⟩
    · exact ⟨[], by simp [e, hk]⟩
  have hbc : ∀ b cells, lk b s.bx = some cells → β b ≠ c := fun b cells hb e => by
    obtain ⟨_, k2, _⟩ := h.box b cells hb
    rw [e, h4] at k2; cases k2
  have hmap : ∀ x u, R I β κ (tkOf s.tk) x u → R (fun k => if k = c then some (arr ++ new) else I k) β (fun j => if j = t then (c, cap, sz) else κ j) (tkOf (upd t n s.tk)) (id x) u :=
    fun x u k => k.longer hIJ (by omega)
  have hrow' : RowAt (fun k => if k = c then some (arr ++ new) else I k) c sz (els ++ ys) := by
    refine ⟨arr ++ new, by simp, fun e he => ?_, ?_, ?_⟩
    · rcases List.mem_append.1 he with he | he
      · exact hu1 e he
      · exact hu e he
    · rw [flat_append]
      have e1 : (flat els ++ flat ys).length = (arr ++ new).length := by simp only [List.length_append]; rw [hfl, hfy, h5, hnl, hm]
      rw [e1, List.take_length]
      have e2 : arr.take (flat els).length = arr := List.take_of_length_le (by omega)
      rw [e2] at hr2
      exact (hr2.mono hIJ).append (hc.mono hIJ)
    · rw [flat_append]
      simp only [List.length_append]
      omega
  refine ⟨_, fun j => if j = t then (c, cap, sz) else κ j, hIJ, ?_, .acc (by simp [hm0]) (by simp [hn]) hcap hrow' (by rw [tkOf_upd, if_pos rfl]; exact Nat.le_refl _) (fun _ => by simp)⟩
  exact
    { below := h.below.trans (ho.below h1)
      good := fun k ar hk => by
        by_cases e : k = c
        · simp only [e, if_true, Option.some.injEq] at hk
          subst hk
          exact ⟨cs', _, (0, 0), rest, by rw [e]; exact hw', hcs'⟩
        · simp only [e, if_false] at hk
          obtain ⟨cs3, ty3, fz, more3, k1, k2⟩ := h.good k ar hk
          exact ⟨cs3, ty3, fz, more3, (ho.block k e).trans k1, k2⟩
      ext := Imm.le_trans h.ext hIJ
      old := fun k hk => by
        have e : k ≠ c := by omega
        simpa [e] using h.old k hk
      tm := by have := h.tm.map hmap; rwa [List.map_id] at this
      sv := by have := h.sv.map hmap; rwa [id_map] at this
      box := fun b cells hb => by
        obtain ⟨k1, k2, cs2, ty2, k3, k4⟩ := h.box b cells hb
        have hne := hbc b cells hb
        refine ⟨k1, by simp [hne, k2], cs2, ty2, (ho.block _ hne).trans k3, ?_, k4.2⟩
        have := k4.1.map hmap
        rwa [List.map_id] at this
      rob := fun b cells hb => by
        obtain ⟨ar, k1, k2, k3⟩ := h.rob b cells hb
        obtain ⟨m, hm'⟩ := hIJ _ _ k1
        refine ⟨_, hm', ?_, by simp; omega⟩
        rw [List.take_append_of_le_length k3]
        exact k2.mono hIJ
      mem := h.memKeep hIJ (fun d x hd => by
        have hne : d ≠ c := fun e => by have := (h.mem d x hd).2.1; rw [e, h4] at this; cases this
        simp [hne, (h.mem d x hd).2.1]) (fun d x hd => ho.block d (fun e => by have := (h.mem d x hd).2.1; rw [e, h4] at this; cases this))
      mbx := h.mbx
      inj := h.inj
      tok := fun t' ht' => by
        simp only [tkOf_upd] at ht' ⊢
        by_cases e : t' = t
        · simp only [e, if_true]
          refine ⟨h1, cs', _, arr ++ new, hw', by rw [hsz, h3], rfl, ?_, hcap⟩
          rw [List.length_append, h5, hnl, hm, hn, Nat.add_mul]
        · simp only [e, if_false] at ht' ⊢
          obtain ⟨k1, cs2, ty2, ar, k2, k3, k4, k5⟩ := h.tok t' ht'
          have hne : (κ t').1 ≠ c := fun e' => e (h.tinj t' t ht' (by omega) (by rw [e', hκ]))
          exact ⟨k1, cs2, ty2, ar, (ho.block _ hne).trans k2, k3, by simp [hne, k4], k5⟩
      tinj := fun t1 t2 k1 k2 hκ' => by
        simp only [tkOf_upd] at k1 k2
        by_cases e1 : t1 = t <;> by_cases e2 : t2 = t
        · rw [e1, e2]
        · simp only [e1, e2, if_true, if_false] at k1 k2 hκ'
          have := h.tinj t t2 (by omega) k2 (by rw [hκ]; exact hκ')
          rw [e1, this]
        · simp only [e1, e2, if_true, if_false] at k1 k2 hκ'
          have := h.tinj t1 t k1 (by omega) (by rw [hκ]; exact hκ')
          rw [e2, this]
        · simp only [e1, e2, if_false] at k1 k2 hκ'
          exact h.tinj _ _ k1 k2 hκ'
      dfr := by
        obtain ⟨Ds, k1, k2, k3⟩ := h.dfr
        refine ⟨Ds, k1, k2, fun D hD => ⟨(k3 D hD).1, (ho.block D (fun e => ?_)).trans (k3 D hD).2⟩⟩
        have k4 := (k3 D hD).2
        rw [e, hw] at k4
        cases k4 }

end
end Go.Proofs.YtambpjbpdackfaaGreat.A


/- The operations that only compute, or read: what they tell ('valA'), and that the model tells the same. -/
set_option linter.unusedVariables false
set_option linter.unusedSimpArgs false
namespace Go.Proofs.YtambpjbpdackfaaGreat.A
open Go Go.RowKit

/-! ### What is asked of the program's types -/
def tAgg (P : Program) (t : TypeId) : Option Bool := (P.underlying t).map fun | .struct _ | .array _ _ => true | _ => false
def tSize (P : Program) (t : TypeId) : Option Nat := (P.info? t).map (·.size)
def tElem (P : Program) (t : TypeId) : Option TypeId := (P.underlying t).bind fun | .slice e => some e | _ => none
def tField (P : Program) (t : TypeId) (f : Nat) : Option Field := (P.underlying t).bind fun | .struct fs => fs[f]? | _ => none

theorem run_isAgg_of {P : Program} {t : TypeId} {b : Bool} (h : tAgg P t = some b) (w : World) : (isAgg t).run P w = .ok b w := by
  unfold tAgg at h
  obtain ⟨d, hd, hb⟩ := Option.map_eq_some_iff.1 h
  unfold isAgg
  simp only [Sem.run_bind, run_underlying hd, Result.andThen_ok]
  cases d <;> simp_all

theorem run_sizeOf_of {P : Program} {t : TypeId} {n : Nat} (h : tSize P t = some n) (w : World) : (sizeOf t).run P w = .ok n w := by
  unfold tSize at h
  obtain ⟨i, hi, hn⟩ := Option.map_eq_some_iff.1 h
  simp [sizeOf, typeInfo, go_sem, hi, hn]

theorem run_underlying_elem {P : Program} {t e : TypeId} (h : tElem P t = some e) : P.underlying t = some (.slice e) := by
  unfold tElem at h
  cases hu : P.underlying t with
  | none => simp [hu] at h
  | some d => cases d <;> simp_all

theorem tField_of {P : Program} {t : TypeId} {f : Nat} {fd : Field} (h : tField P t f = some fd) : ∃ fs, P.underlying t = some (.struct fs) ∧ fs[f]? = some fd := by
  unfold tField at h
  cases hu : P.underlying t with
  | none => simp [hu] at h
  | some d => cases d <;> simp_all

/-- What is known of an operation's types, beside its text. -/
structure Inf where
  n : Nat := 0
  agg : Bool := false
  off : Nat := 0
  zero : List Value := []
  places : List (Nat × Nat) := []
  ks : List (Option IntKind) := []
  acc : List (Nat × Nat) := []
  t : Nat := 0
  mc : Nat := 0
  deriving Inhabited

/-! ### Operands -/
def nilSlice : Value := .slice none 0 0

def ev (s : St) : Operand → Option TV
  | .tmp n => s.tm[n]?
  | .const v => some (.v (.s v))
  | .func f => some (.v (.fn (.func f) []))
  | .global _ => none

def tov : TV → Option PV
  | .v x => some x
  | .acc _ els => some (.sl false els)
  | .ptr _ _ => none
  | .own _ _ => none

def tovs : List TV → Option (List PV)
  | [] => some []
  | x :: xs => match tov x, tovs xs with
    | some y, some ys => some (y :: ys)
    | _, _ => none

def pv (s : St) (x : Operand) : Option PV := (ev s x).bind tov

def pvs (s : St) : List Operand → Option (List PV)
  | [] => some []
  | x :: xs => match pv s x, pvs s xs with
    | some y, some ys => some (y :: ys)
    | _, _ => none

/-! ### Numbers -/
def binV : BinOp → Value → Value → Option Value
  | .add, .int k a, .int k' b => if k = k' then some (.int k (k.wrap (a + b))) else none
  | .sub, .int k a, .int k' b => if k = k' then some (.int k (k.wrap (a - b))) else none
  | .mul, .int k a, .int k' b => if k = k' then some (.int k (k.wrap (a * b))) else none
  | .quo, .int k a, .int k' b => if k = k' ∧ b ≠ 0 then some (.int k (k.wrap (a.tdiv b))) else none
  | .rem, .int k a, .int k' b => if k = k' ∧ b ≠ 0 then some (.int k (a.tmod b)) else none
  | .eql, .int k a, .int k' b => if k = k' then some (.bool (a == b)) else none
  | .neq, .int k a, .int k' b => if k = k' then some (.bool (a != b)) else none
  | .lss, .int k a, .int k' b => if k = k' then some (.bool (decide (a < b))) else none
  | .leq, .int k a, .int k' b => if k = k' then some (.bool (decide (a ≤ b))) else none
  | .gtr, .int k a, .int k' b => if k = k' then some (.bool (decide (a > b))) else none
  | .geq, .int k a, .int k' b => if k = k' then some (.bool (decide (a ≥ b))) else none
  | .and, .int k a, .int k' b => if k = k' then some (.int k (k.wrap (BitVec.ofInt k.bits a &&& BitVec.ofInt k.bits b).toNat)) else none
  | .or, .int k a, .int k' b => if k = k' then some (.int k (k.wrap (BitVec.ofInt k.bits a ||| BitVec.ofInt k.bits b).toNat)) else none
  | .xor, .int k a, .int k' b => if k = k' then some (.int k (k.wrap (BitVec.ofInt k.bits a ^^^ BitVec.ofInt k.bits b).toNat)) else none
  | .shl, .int k a, .int _ b => if 0 ≤ b then some (.int k (k.wrap (a * 2 ^ (min b.toNat k.bits)))) else none
  | .shr, .int k a, .int _ b => if 0 ≤ b then some (.int k (a.fdiv (2 ^ (min b.toNat k.bits)))) else none
  | _, _, _ => none

theorem run_binV {P : Program} {op : BinOp} {t : TypeId} {a b r : Value} (h : binV op a b = some r) (w : World) : (binOp op t a b).run P w = .ok r w := by
  unfold binV at h
  split at h <;> first
    | cases h
    | (split at h
       · rename_i hk
         cases h
         first
           | (subst hk; simp [binOp, Op.intArith, Op.intCmp, Op.intBits])
           | (obtain ⟨hk, hb⟩ := hk; subst hk; simp [binOp, Op.intDiv, hb])
           | (have hn : ¬ (_ < (0 : Int)) := Int.not_lt.2 hk; simp [binOp, Op.shift, hn])
       · cases h)

theorem run_eqGuard_num {P : Program} {op : BinOp} {t : TypeId} {x y : Operand} {a b : Value} (ha : ∀ l, a ≠ .agg l) (hn : a ≠ .nilIface) (w : World) : (eqGuard op t x y a b).run P w = .ok () w := by
  cases a <;> first | exact absurd rfl (ha _) | exact absurd rfl hn | (cases op <;> simp [eqGuard])

theorem binV_left {op : BinOp} {a b r : Value} (h : binV op a b = some r) : (∀ l, a ≠ .agg l) ∧ a ≠ .nilIface := by
  unfold binV at h
  split at h <;> first | cases h | exact ⟨by simp, by simp⟩

/-- Are two rows of plain cells the same? -/
def cellsEq : List (Option IntKind) → List PV → List PV → Option Bool
  | [], [], [] => some true
  | some k :: ks, .s (.int k1 a) :: xs, .s (.int k2 b) :: ys => if k1 = k ∧ k2 = k then (cellsEq ks xs ys).map ((a == b) && ·) else none
  | none :: ks, .s (.bool a) :: xs, .s (.bool b) :: ys => (cellsEq ks xs ys).map ((a == b) && ·)
  | _, _, _ => none

/-- The fields of a struct are plain cells, one behind the other. -/
def eqKinds (P : Program) : Nat → List Field → List (Option IntKind) → Bool
  | _, [], [] => true
  | i, f :: fs, k :: ks => f.offset == i && !(f.name == "_") && (match P.underlying f.type, k with | some (.int j), some k => j == k | some .bool, none => true | _, _ => false) && eqKinds P (i + 1) fs ks
  | _, _, _ => false

/-- The fields of a struct are structs of plain cells, one behind the other. -/
def eqNest (P : Program) : Nat → List Field → List (Option IntKind) → Bool
  | _, [], ks => ks.isEmpty
  | i, f :: fs, ks => f.offset == i && !(f.name == "_") && (match P.underlying f.type with
    | some (.struct gs) => decide (gs.size ≤ ks.length) && eqKinds P 0 gs.toList (ks.take gs.size) && tSize P f.type == some gs.size && !P.stoodInHeld f.type && eqNest P (i + gs.size) fs (ks.drop gs.size)
    | _ => false)

theorem run_part_cell {P : Program} {t : TypeId} {d : TypeDesc} {cs : Array Value} {i : Nat} {v : Value} (hu : P.underlying t = some d) (hd : (match d with | .struct _ | .array _ _ => true | _ => false) = false) (hv : cs[i]? = some v) (w : World) :
    (part t cs i).run P w = .ok v w := by
  have hA : tAgg P t = some false := by
    unfold tAgg; rw [hu]; cases d <;> simp_all
  unfold part
  simp only [Sem.run_bind, run_isAgg_of hA, Result.andThen_ok, Bool.false_eq_true, if_false, hv]
  rfl

theorem run_eqFields {P : Program} {I : Imm} (d : Nat) (xs ys : Array Value) (w : World) : ∀ (fs : List Field) (ks : List (Option IntKind)) (i : Nat) (l m : List PV) (r : Bool), eqKinds P i fs ks = true →
    Cs I l (xs.toList.drop i) → Cs I m (ys.toList.drop i) → cellsEq ks l m = some r → (Op.eqFields (d + 1) xs ys fs).run P w = .ok r w
  | [], ks, i, l, m, r, hk, hl, hm, he => by
    cases ks with
    | cons k ks => simp [eqKinds] at hk
    | nil =>
      cases l <;> cases m <;> simp [cellsEq] at he
      subst he
      simp [Op.eqFields]
  | f :: fs, ks, i, l, m, r, hk, hl, hm, he => by
    cases ks with
    | nil => simp [eqKinds] at hk
    | cons k ks =>
      simp only [eqKinds, Bool.and_eq_true, beq_iff_eq, Bool.not_eq_true', beq_eq_false_iff_ne, ne_eq] at hk
      obtain ⟨⟨⟨ho, hname⟩, hty⟩, hrest⟩ := hk
      have step : ∀ (a b : Value) (r1 s : Bool), xs[i]? = some a → ys[i]? = some b → (∀ w, (part f.type xs f.offset).run P w = .ok a w) → (∀ w, (part f.type ys f.offset).run P w = .ok b w) →
          (Op.equalIn (d + 1) f.type a b).run P w = .ok r1 w → (Op.eqFields (d + 1) xs ys fs).run P w = .ok s w → (Op.eqFields (d + 1) xs ys (f :: fs)).run P w = .ok (r1 && s) w := by
        intro a b r1 s _ _ ha hb he hs
        rw [Op.eqFields]
        simp only [if_pos hname, Sem.run_bind, ha, hb, he, Result.andThen_ok]
        cases r1
        · simp
        · simpa using hs
      cases l with
      | nil => cases k <;> simp [cellsEq] at he
      | cons x l =>
        cases m with
        | nil => cases k <;> cases x <;> simp [cellsEq] at he
        | cons y m =>
          have hl' := hl.drop 1
          have hm' := hm.drop 1
          simp only [List.drop_succ_cons, List.drop_zero, List.drop_drop] at hl' hm'
          obtain ⟨a, ha, hxa⟩ := hl.get (i := 0) rfl
          obtain ⟨b, hb, hyb⟩ := hm.get (i := 0) rfl
          simp only [List.getElem?_drop, Nat.add_zero, Array.getElem?_toList] at ha hb
          cases k with
          | some k =>
            cases x with
            | s v =>
              cases v with
              | int k1 a' =>
                cases y with
                | s u =>
                  cases u with
                  | int k2 b' =>
                    simp only [cellsEq] at he
                    split at he
                    · rename_i hkk
                      obtain ⟨rfl, rfl⟩ := hkk
                      obtain ⟨s, hs, rfl⟩ := Option.map_eq_some_iff.1 he
                      cases hxa; cases hyb
                      have hu : P.underlying f.type = some (.int k2) := by
                        revert hty; cases hu : P.underlying f.type with
                        | none => simp
                        | some d => cases d <;> simp
                      have := run_eqFields d xs ys w fs ks (i + 1) l m s hrest hl' hm' hs
                      exact step _ _ _ _ ha hb (fun w => by rw [ho]; exact run_part_cell hu rfl ha w) (fun w => by rw [ho]; exact run_part_cell hu rfl hb w) (run_equalIn_int w d f.type k2 k2 a' b' hu) this
                    · cases he
                  | _ => simp [cellsEq] at he
                | _ => simp [cellsEq] at he
              | _ => simp [cellsEq] at he
            | _ => simp [cellsEq] at he
          | none =>
            cases x with
            | s v =>
              cases v with
              | bool a' =>
                cases y with
                | s u =>
                  cases u with
                  | bool b' =>
                    simp only [cellsEq] at he
                    obtain ⟨s, hs, rfl⟩ := Option.map_eq_some_iff.1 he
                    cases hxa; cases hyb
                    have hu : P.underlying f.type = some .bool := by
                      revert hty; cases hu : P.underlying f.type with
                      | none => simp
                      | some d => cases d <;> simp
                    have := run_eqFields d xs ys w fs ks (i + 1) l m s hrest hl' hm' hs
                    exact step _ _ _ _ ha hb (fun w => by rw [ho]; exact run_part_cell hu rfl ha w) (fun w => by rw [ho]; exact run_part_cell hu rfl hb w) (run_equalIn_bool' w d f.type a' b' hu) this
                  | _ => simp [cellsEq] at he
                | _ => simp [cellsEq] at he
              | _ => simp [cellsEq] at he
            | _ => simp [cellsEq] at he

end Go.Proofs.YtambpjbpdackfaaGreat.A


/- Operations that only compute, or read: one law for each. -/
set_option linter.unusedVariables false
set_option linter.unusedSimpArgs false
namespace Go.Proofs.YtambpjbpdackfaaGreat.A
open Go Go.RowKit

section
variable {P : Program} {w0 : Bs} {w : World} {I0 I : Imm} {β : Nat → Nat} {κ : Nat → Nat × Nat × Nat} {s : St} {sav : List (Array Value)} {a : Act}

theorem ev_R (h : Sim w0 I0 I β κ s sav a w) {x : Operand} {t : TV} (he : ev s x = some t) : R I β κ (tkOf s.tk) t (a.eval x) := by
  cases x with
  | tmp n =>
    obtain ⟨v, hv, hr⟩ := h.tm.get (i := n) he
    have : a.tmps[n]? = some v := by simpa using hv
    simp only [Act.eval, Array.getD_eq_getD_getElem?, this, Option.getD_some]
    exact hr
  | const v => simp only [ev, Option.some.injEq] at he; subst he; exact .v (.s v)
  | func f => simp only [ev, Option.some.injEq] at he; subst he; exact .v (.fn .nil)
  | global g => simp [ev] at he

theorem tov_C {t : TV} {v : Value} {x : PV} {tk : Nat → Nat} (h : R I β κ tk t v) (hx : tov t = some x) : C I x v := by
  cases t with
  | v y => simp only [tov, Option.some.injEq] at hx; subst hx; cases h with | v h => exact h
  | ptr => simp [tov] at hx
  | own => simp [tov] at hx
  | acc t els => simp only [tov, Option.some.injEq] at hx; subst hx; exact h.toC

theorem tovs_C {ts : List TV} {vs : List Value} {xs : List PV} {tk : Nat → Nat} (h : Rs I β κ tk ts vs) (hx : tovs ts = some xs) : Cs I xs vs := by
  induction h generalizing xs with
  | nil => simp only [tovs, Option.some.injEq] at hx; subst hx; exact .nil
  | cons h1 _ ih =>
    simp only [tovs] at hx
    split at hx
    · cases hx
      exact .cons (tov_C h1 ‹_›) (ih ‹_›)
    · cases hx

theorem pv_C (h : Sim w0 I0 I β κ s sav a w) {x : Operand} {p : PV} (he : pv s x = some p) : C I p (a.eval x) := by
  obtain ⟨t, h1, h2⟩ := Option.bind_eq_some_iff.1 he
  exact tov_C (ev_R h h1) h2

theorem pvs_C (h : Sim w0 I0 I β κ s sav a w) : ∀ {xs : List Operand} {ps : List PV}, pvs s xs = some ps → Cs I ps (xs.map a.eval)
  | [], ps, he => by simp only [pvs, Option.some.injEq] at he; subst he; exact .nil
  | x :: xs, ps, he => by
    simp only [pvs] at he
    split at he
    · cases he
      exact .cons (pv_C h ‹_›) (pvs_C h ‹_›)
    · cases he

theorem Rs.drop {tk : Nat → Nat} {xs : List TV} {vs : List Value} (h : Rs I β κ tk xs vs) (n : Nat) : Rs I β κ tk (xs.drop n) (vs.drop n) := by
  induction n generalizing xs vs with
  | zero => simpa using h
  | succ n ih => cases h with
    | nil => simp; exact .nil
    | cons hx hs => simpa using ih hs

theorem Rs.take {tk : Nat → Nat} {xs : List TV} {vs : List Value} (h : Rs I β κ tk xs vs) (n : Nat) : Rs I β κ tk (xs.take n) (vs.take n) := by
  induction n generalizing xs vs with
  | zero => simp; exact .nil
  | succ n ih => cases h with
    | nil => simp; exact .nil
    | cons hx hs => simp; exact .cons hx (ih hs)

theorem Rs.append {tk : Nat → Nat} {xs ys : List TV} {vs us : List Value} (h : Rs I β κ tk xs vs) (k : Rs I β κ tk ys us) : Rs I β κ tk (xs ++ ys) (vs ++ us) := by
  induction h with
  | nil => exact k
  | cons hx _ ih => exact .cons hx ih

theorem Rs.of_Cs {tk : Nat → Nat} {xs : List PV} {vs : List Value} (h : Cs I xs vs) : Rs I β κ tk (xs.map .v) vs := by
  induction xs generalizing vs with
  | nil => cases h; exact .nil
  | cons x xs ih => cases h with | cons hx hs => exact .cons (.v hx) (ih hs)

/-! ### Reading n cells -/
/-- The cells of block b from off on. -/
def CellsAt (w : World) (b off : Nat) (vs : List Value) : Prop := ∀ j v, vs[j]? = some v → w.cell? ⟨b, off + j, none⟩ = some v

theorem cellsAt_of {b off : Nat} {vs : List Value} {cs : Array Value} {ty : TypeId} {fz : Nat × Nat} (hw : w.heap[b]? = some (.cells cs ty fz)) (h : ∃ n, vs = (cs.toList.drop off).take n) : CellsAt w b off vs := by
  intro j v hj
  obtain ⟨n, rfl⟩ := h
  rw [List.getElem?_take] at hj
  split at hj
  · rw [List.getElem?_drop, Array.getElem?_toList] at hj
    simp [World.cell?, hw, hj]
  · cases hj

theorem addr_add (b off j : Nat) : (⟨b, off, none⟩ : Addr).add j = ⟨b, off + j, none⟩ := by unfold Addr.add; split <;> simp_all

theorem run_loadVar_at {t : TypeId} {agg : Bool} {n b off : Nat} {vs : List Value} (hA : tAgg P t = some agg) (hS : tSize P t = some n) (hc : CellsAt w b off vs) (hn : vs.length = n) (h1 : agg = false → n = 1) :
    ∃ v, (loadVar t ⟨b, off, none⟩).run P w = .ok v w ∧ (agg = true → v = .agg vs.toArray) ∧ (agg = false → vs = [v]) := by
  cases agg with
  | true =>
    refine ⟨.agg vs.toArray, ?_, fun _ => rfl, (fun h => by cases h)⟩
    unfold loadVar
    simp only [Sem.run_bind, run_isAgg_of hA, Result.andThen_ok, if_true, run_sizeOf_of hS]
    subst hn
    rw [run_loadCells_list w _ vs (fun j v hj => by rw [addr_add]; exact hc j v hj)]
    rfl
  | false =>
    have := h1 rfl
    subst this
    obtain ⟨v, rfl⟩ := List.length_eq_one_iff.1 hn
    refine ⟨v, ?_, (fun h => by cases h), fun _ => rfl⟩
    unfold loadVar
    have h0 := hc 0 v rfl
    simp only [Nat.add_zero] at h0
    simp only [Sem.run_bind, run_isAgg_of hA, Result.andThen_ok, Bool.false_eq_true, if_false, run_load, h0]

/-- What a load tells. -/
def ldC (agg : Bool) (n : Nat) (cs : List PV) : Option TV :=
  if n ≤ cs.length then (if agg then some (.v (.agg (cs.take n))) else (cs[0]?).map .v) else none

def ldT (agg : Bool) (n off : Nat) (cs : List TV) : Option TV :=
  if off + n ≤ cs.length then (if agg then (tovs ((cs.drop off).take n)).map (fun l => .v (.agg l)) else cs[off]?) else none

/-- What a load out of memory that may be written tells. -/
def ldM (agg : Bool) (n off : Nat) (cs : List PV) : Option TV := if off ≤ cs.length then ldC agg n (cs.drop off) else none

def ldA (s : St) (agg : Bool) (n : Nat) : TV → Option TV
  | .v (.vp cs) => ldC agg n cs
  | .ptr b off => match lk b s.bx with
    | some cs => ldT agg n off cs
    | none => match lk b s.ro with
      | some cs => if off ≤ cs.length then ldC agg n (cs.drop off) else none
      | none => none
  | .v (.s (.pointer (some ⟨c, off, none⟩))) => match s.mm c with
    | some cs => ldM agg n off cs
    | none => none
  | _ => none

theorem ldC_sound {t : TypeId} {agg : Bool} {n b off : Nat} {cs : List PV} {arr : List Value} {tv : TV} {tk : Nat → Nat} (hg : Good I w) (hA : tAgg P t = some agg) (hS : tSize P t = some n) (h1 : agg = false → n = 1)
    (hI : I b = some arr) (hc : Cs I cs ((arr.drop off).take cs.length)) (hl : off + cs.length ≤ arr.length) (h : ldC agg n cs = some tv) :
    ∃ v, (loadVar t ⟨b, off, none⟩).run P w = .ok v w ∧ R I β κ tk tv v := by
  unfold ldC at h
  split at h
  · rename_i hn
    obtain ⟨cs0, ty, fz, more, hw, hcs⟩ := hg b arr hI
    have hat : CellsAt w b off ((arr.drop off).take n) := by
      refine cellsAt_of hw ⟨n, ?_⟩
      rw [hcs, List.drop_append_of_le_length (by omega), List.take_append_of_le_length (by simp; omega)]
    have hlen : ((arr.drop off).take n).length = n := by simp; omega
    have hcn : Cs I (cs.take n) ((arr.drop off).take n) := by
      have := hc.take n
      rwa [List.take_take, Nat.min_eq_left hn] at this
    obtain ⟨v, hr, hv1, hv2⟩ := run_loadVar_at hA hS hat hlen h1
    refine ⟨v, hr, ?_⟩
    cases agg with
    | true =>
      simp only [if_true, Option.some.injEq] at h
      subst h
      rw [hv1 rfl]
      exact .v (.agg (by simpa using hcn))
    | false =>
      simp only [Bool.false_eq_true, if_false, Option.map_eq_some_iff] at h
      obtain ⟨x, hx, rfl⟩ := h
      obtain ⟨v', hv', hxv⟩ := hcn.get (i := 0) (x := x) (by rw [List.getElem?_take]; have := h1 rfl; simp [this, hx])
      rw [hv2 rfl] at hv'
      simp at hv'
      subst hv'
      exact .v hxv
  · cases h

theorem ldM_sound {t : TypeId} {agg : Bool} {n b off : Nat} {cs : List PV} {cs0 : Array Value} {ty : TypeId} {fz : Nat × Nat} {tv : TV} {tk : Nat → Nat} (hA : tAgg P t = some agg) (hS : tSize P t = some n) (h1 : agg = false → n = 1)
    (hw : w.heap[b]? = some (.cells cs0 ty fz)) (hc : Cs I cs (cs0.toList.drop off)) (h : ldC agg n cs = some tv) :
    ∃ v, (loadVar t ⟨b, off, none⟩).run P w = .ok v w ∧ R I β κ tk tv v := by
  unfold ldC at h
  split at h
  · rename_i hn
    have hl := hc.length
    have hat : CellsAt w b off ((cs0.toList.drop off).take n) := cellsAt_of hw ⟨n, rfl⟩
    have hlen : ((cs0.toList.drop off).take n).length = n := by rw [List.length_take]; omega
    have hcn := hc.take n
    obtain ⟨v, hr, hv1, hv2⟩ := run_loadVar_at hA hS hat hlen h1
    refine ⟨v, hr, ?_⟩
    cases agg with
    | true =>
      simp only [if_true, Option.some.injEq] at h
      subst h
      rw [hv1 rfl]
      exact .v (.agg (by simpa using hcn))
    | false =>
      simp only [Bool.false_eq_true, if_false, Option.map_eq_some_iff] at h
      obtain ⟨x, hx, rfl⟩ := h
      obtain ⟨v', hv', hxv⟩ := hcn.get (i := 0) (x := x) (by rw [List.getElem?_take]; have := h1 rfl; simp [this, hx])
      rw [hv2 rfl] at hv'
      simp at hv'
      subst hv'
      exact .v hxv
  · cases h

theorem ldA_sound (h : Sim w0 I0 I β κ s sav a w) {t : TypeId} {agg : Bool} {n : Nat} {p tv : TV} {x : Operand} (hA : tAgg P t = some agg) (hS : tSize P t = some n) (h1 : agg = false → n = 1) (hp : ev s x = some p) (hl : ldA s agg n p = some tv) :
    ∃ v, (Instr.loadAt t (a.eval x)).run P w = .ok v w ∧ R I β κ (tkOf s.tk) tv v := by
  have hR := ev_R h hp
  unfold ldA at hl
  split at hl
  · rename_i cs
    cases hR with
    | v hC =>
      generalize a.eval x = u at hC
      cases hC with
      | vp hI hc hlen =>
        obtain ⟨v, hr, hv⟩ := ldC_sound h.good hA hS h1 hI hc hlen hl
        exact ⟨v, by simpa [Instr.loadAt, Instr.sureAddr] using hr, hv⟩
  · rename_i b off
    generalize a.eval x = u at hR
    cases hR
    split at hl
    · rename_i cells hb
      obtain ⟨_, _, cs, ty, hw, hcs, _⟩ := h.box b cells hb
      unfold ldT at hl
      split at hl
      · rename_i hn
        have hlen : cells.length = cs.toList.length := hcs.length
        have hat : CellsAt w (β b) off ((cs.toList.drop off).take n) := cellsAt_of hw ⟨n, rfl⟩
        obtain ⟨v, hr, hv1, hv2⟩ := run_loadVar_at hA hS hat (by simp only [List.length_take, List.length_drop]; omega) h1
        refine ⟨v, by simpa [Instr.loadAt, Instr.sureAddr] using hr, ?_⟩
        cases agg with
        | true =>
          simp only [if_true, Option.map_eq_some_iff] at hl
          obtain ⟨l, hl, rfl⟩ := hl
          rw [hv1 rfl]
          exact .v (.agg (by simpa using tovs_C ((hcs.drop off).take n) hl))
        | false =>
          simp only [Bool.false_eq_true, if_false] at hl
          have hn1 := h1 rfl
          obtain ⟨v', hv', hxv⟩ := hcs.get (i := off) hl
          have e := hv2 rfl
          have e2 : ((cs.toList.drop off).take n)[0]? = some v' := by
            rw [List.getElem?_take, List.getElem?_drop]
            simp only [hn1, Nat.zero_lt_one, if_true, Nat.add_zero]
            exact hv'
          rw [e] at e2
          simp at e2
          subst e2
          exact hxv
      · cases hl
    · split at hl
      · rename_i cells hb
        obtain ⟨arr, hI, hc, hlen⟩ := h.rob b cells hb
        have hc' : Cs I (cells.drop off) ((arr.drop off).take (cells.drop off).length) := by
          have := hc.drop off
          rw [List.drop_take] at this
          simpa using this
        split at hl
        · rename_i hoff
          obtain ⟨v, hr, hv⟩ := ldC_sound (β := β) (κ := κ) (tk := tkOf s.tk) h.good hA hS h1 hI hc' (by simp only [List.length_drop]; omega) hl
          exact ⟨v, by simpa [Instr.loadAt, Instr.sureAddr] using hr, hv⟩
        · cases hl
      · cases hl
  · rename_i c off
    cases hR with
    | v hC =>
      generalize a.eval x = u at hC
      cases hC
      split at hl
      · rename_i cells hm
        unfold ldM at hl
        split at hl
        · obtain ⟨_, _, cs, ty, hw, hcs⟩ := h.mem c cells hm
          obtain ⟨v, hr, hv⟩ := ldM_sound hA hS h1 hw (hcs.drop off) hl
          exact ⟨v, by simpa [Instr.loadAt, Instr.sureAddr] using hr, hv⟩
        · cases hl
      · cases hl
  · cases hl

end
end Go.Proofs.YtambpjbpdackfaaGreat.A


/- 'valA': what an operation tells that neither makes nor writes memory; and that the model tells the same. -/
set_option linter.unusedVariables false
set_option linter.unusedSimpArgs false
namespace Go.Proofs.YtambpjbpdackfaaGreat.A
open Go Go.RowKit

section
variable {P : Program} {w0 : Bs} {w : World} {I0 I : Imm} {β : Nat → Nat} {κ : Nat → Nat × Nat × Nat} {s : St} {sav : List (Array Value)} {a : Act}

/-! ### Single operations -/
def fieldAddrA (off : Nat) : TV → Option TV
  | .ptr b o => some (.ptr b (o + off))
  | .v (.vp cs) => if off ≤ cs.length then some (.v (.vp (cs.drop off))) else none
  | .v (.s (.pointer (some ⟨c, o, none⟩))) => some (.v (.s (.pointer (some ⟨c, o + off, none⟩))))
  | _ => none

theorem fieldAddr_sound {t : TypeId} {f off : Nat} {fd : Field} {m : Nat} {tk : Nat → Nat} {p tv : TV} {u : Value} (hf : tField P t f = some fd) (ho : fd.offset = off) (hm : tSize P fd.type = some m) (hm0 : m ≠ 0)
    (hp : R I β κ tk p u) (h : fieldAddrA off p = some tv) : ∃ v, (Instr.fieldAt t u f).run P w = .ok v w ∧ R I β κ tk tv v := by
  obtain ⟨fs, hu, hfs⟩ := tField_of hf
  have run : ∀ b o, (Instr.fieldAt t (.pointer (some ⟨b, o, none⟩)) f).run P w = .ok (.pointer (some ⟨b, o + off, none⟩)) w := fun b o => by
    simp [Instr.fieldAt, run_underlying hu, hfs, Instr.sureAddr, fieldPlace, run_sizeOf_of hm, hm0, addr_add, ho]
  unfold fieldAddrA at h
  split at h
  · cases h; cases hp; exact ⟨_, run _ _, .ptr⟩
  · split at h
    · cases h
      cases hp with
      | v hC => cases hC with
        | vp hI hc hl =>
          refine ⟨_, run _ _, .v (.vp hI ?_ (by simp only [List.length_drop]; omega))⟩
          have := hc.drop off
          rw [List.drop_take, List.drop_drop] at this
          simpa [Nat.add_comm] using this
    · cases h
  · cases h
    cases hp with | v hC => cases hC; exact ⟨_, run _ _, .v (.s _)⟩
  · cases h

def fieldA (agg : Bool) (n off : Nat) : PV → Option TV
  | .agg l => if agg then (if off + n ≤ l.length then some (.v (.agg ((l.drop off).take n))) else none) else (l[off]?).map .v
  | _ => none

theorem part_sound {t : TypeId} {agg : Bool} {n off : Nat} {l : List PV} {cs : Array Value} {tv : TV} {tk : Nat → Nat} (hA : tAgg P t = some agg) (hS : tSize P t = some n) (hc : Cs I l cs.toList) (h : fieldA agg n off (.agg l) = some tv) :
    ∃ v, (part t cs off).run P w = .ok v w ∧ R I β κ tk tv v := by
  have hlen : l.length = cs.size := by simpa using hc.length
  unfold fieldA at h
  simp only at h
  unfold part
  simp only [Sem.run_bind, run_isAgg_of hA, Result.andThen_ok]
  cases agg with
  | true =>
    simp only [if_true] at h ⊢
    split at h
    · cases h
      simp only [Sem.run_bind, run_sizeOf_of hS, Result.andThen_ok]
      refine ⟨_, rfl, .v (.agg ?_)⟩
      have := (hc.drop off).take n
      simpa [List.take_drop, Nat.add_comm] using this
    · cases h
  | false =>
    simp only [Bool.false_eq_true, if_false] at h ⊢
    obtain ⟨x, hx, rfl⟩ := Option.map_eq_some_iff.1 h
    obtain ⟨v, hv, hxv⟩ := hc.get hx
    rw [Array.getElem?_toList] at hv
    simp only [hv]
    exact ⟨v, rfl, .v hxv⟩

def idxAddrA (n : Nat) : PV → PV → Option TV
  | .sl _ els, .s (.int _ k) => if 0 ≤ k then (match els[k.toNat]? with | some e => if e.cells.length = n then some (.v (.vp e.cells)) else none | none => none) else none
  | .s (.slice (some ⟨c, off, none⟩) len _), .s (.int _ k) => if 0 ≤ k ∧ k < len then some (.v (.s (.pointer (some ⟨c, off + k.toNat * n, none⟩)))) else none
  | _, _ => none

def idxA (n : Nat) : TV → PV → Option TV
  | .v p, q => idxAddrA n p q
  | .acc _ els, q => idxAddrA n (.sl false els) q
  | .own b m, .s (.int _ j) => if 0 ≤ j ∧ j < m ∧ n = 1 then some (.ptr b j.toNat) else none
  | _, _ => none

theorem flat_at {els : List PV} {sz k : Nat} {e : PV} (hu : ∀ x ∈ els, x.cells.length = sz) (hk : els[k]? = some e) : ∃ pre post, flat els = pre ++ e.cells ++ post ∧ pre.length = k * sz := by
  obtain ⟨hlt, he⟩ := List.getElem?_eq_some_iff.1 hk
  refine ⟨flat (els.take k), flat (els.drop (k + 1)), ?_, ?_⟩
  · rw [← he]
    have : els = els.take k ++ els[k] :: els.drop (k + 1) := by simp
    conv => lhs; rw [this]
    simp only [flat, List.flatMap_append, List.flatMap_cons, List.append_assoc]
  · rw [flat_length (fun x hx => hu x (List.mem_of_mem_take hx)), List.length_take, Nat.min_eq_left (by omega)]

theorem idxAddr_sound {t e : TypeId} {n : Nat} {p q : PV} {tv : TV} {u v : Value} {tk : Nat → Nat} (ht : tElem P t = some e) (hn : tSize P e = some n) (hp : C I p u) (hq : C I q v) (h : idxAddrA n p q = some tv) :
    ∃ r, (Instr.indexAt t u v).run P w = .ok r w ∧ R I β κ tk tv r := by
  have hu := run_underlying_elem ht
  unfold idxAddrA at h
  split at h
  · rename_i ex els kk k
    split at h
    · rename_i hk0
      split at h
      · rename_i el hel
        split at h
        · rename_i hsz
          cases h
          cases hq
          have hlt := (List.getElem?_eq_some_iff.1 hel).1
          cases hp with
          | sl0 => simp at hlt
          | sle => simp at hlt
          | @sl _ _ b off m sz cap arr hI huu hm hc hl hcap hex =>
            obtain ⟨pre, post, hfl, hpre⟩ := flat_at huu hel
            have hsz' : sz = n := by rw [← huu el (List.mem_of_getElem? hel), hsz]
            subst hsz'
            refine ⟨.pointer (some ⟨b, off + k.toNat * sz, none⟩), ?_, .v (.vp hI ?_ ?_)⟩
            · have h1 : 0 ≤ k ∧ k < (m : Int) := ⟨hk0, by omega⟩
              simp [Instr.indexAt, asIntOf, run_underlying hu, h1, run_sizeOf_of hn, addr_add]
            · have h1 := (hc.drop (k.toNat * sz)).take el.cells.length
              rw [hfl, ← hpre, List.append_assoc, List.drop_left, List.take_left] at h1
              rw [hpre] at h1
              have e1 : (List.drop (k.toNat * sz) (List.take (pre ++ (el.cells ++ post)).length (List.drop off arr))).take el.cells.length = (List.drop (off + k.toNat * sz) arr).take el.cells.length := by
                rw [List.drop_take, List.drop_drop, List.take_take]
                congr 1
                simp only [List.length_append]
                omega
              rwa [e1] at h1
            · rw [hfl] at hl
              simp only [List.length_append] at hl
              omega
        · cases h
      · cases h
    · cases h
  · rename_i c off len cap kk k
    split at h
    · rename_i hk
      cases h
      cases hq
      cases hp
      refine ⟨.pointer (some ⟨c, off + k.toNat * n, none⟩), ?_, .v (.s _)⟩
      simp [Instr.indexAt, asIntOf, run_underlying hu, hk, run_sizeOf_of hn, addr_add]
    · cases h
  · cases h

theorem idxA_sound {t e : TypeId} {n : Nat} {p : TV} {q : PV} {tv : TV} {u v : Value} {tk : Nat → Nat} (ht : tElem P t = some e) (hn : tSize P e = some n) (hp : R I β κ tk p u) (hq : C I q v) (h : idxA n p q = some tv) :
    ∃ r, (Instr.indexAt t u v).run P w = .ok r w ∧ R I β κ tk tv r := by
  unfold idxA at h
  split at h
  · cases hp with | v hp => exact idxAddr_sound ht hn hp hq h
  · exact idxAddr_sound ht hn hp.toC hq h
  · rename_i b m kk j
    split at h
    · rename_i hc
      obtain ⟨h0, h1, rfl⟩ := hc
      cases h
      cases hp
      cases hq
      have hu := run_underlying_elem ht
      refine ⟨.pointer (some ⟨β b, j.toNat, none⟩), ?_, .ptr⟩
      have h1' : 0 ≤ j ∧ j < (m : Int) := ⟨h0, h1⟩
      simp [Instr.indexAt, asIntOf, run_underlying hu, h1', run_sizeOf_of hn, addr_add]
    · cases h
  · cases h

/-- The address of an element of an array that lies in a variable. -/
def idxArr (n len : Nat) : TV → PV → Option TV
  | .ptr b o, .s (.int _ j) => if 0 ≤ j ∧ j.toNat < len then some (.ptr b (o + j.toNat * n)) else none
  | .v (.vp cs), .s (.int _ j) => if 0 ≤ j ∧ j.toNat < len ∧ j.toNat * n ≤ cs.length then some (.v (.vp (cs.drop (j.toNat * n)))) else none
  | .v (.s (.pointer (some ⟨c, o, none⟩))), .s (.int _ j) => if 0 ≤ j ∧ j.toNat < len then some (.v (.s (.pointer (some ⟨c, o + j.toNat * n, none⟩)))) else none
  | _, _ => none
theorem idxArr_sound {t e : TypeId} {n len : Nat} {p : TV} {q : PV} {tv : TV} {u v : Value} {tk : Nat → Nat} (ht : P.underlying t = some (.array len e)) (hn : tSize P e = some n) (hp : R I β κ tk p u) (hq : C I q v) (h : idxArr n len p q = some tv) :
    ∃ r, (Instr.indexAt t u v).run P w = .ok r w ∧ R I β κ tk tv r := by
  unfold idxArr at h
  split at h
  · rename_i b o kk j
    split at h
    · rename_i hc
      cases h
      cases hp
      cases hq
      refine ⟨.pointer (some ⟨β b, o + j.toNat * n, none⟩), ?_, .ptr⟩
      have hc2 : j < (len : Int) := by omega
      simp [Instr.indexAt, asIntOf, run_underlying ht, Instr.sureAddr, hc.1, hc2, run_sizeOf_of hn, addr_add]
    · cases h
  · rename_i cs kk j
    split at h
    · rename_i hc
      cases h
      cases hq
      cases hp with
      | v hC => cases hC with
        | @vp _ b off arr hI hcs hl =>
          refine ⟨.pointer (some ⟨b, off + j.toNat * n, none⟩), ?_, .v (.vp hI ?_ (by simp only [List.length_drop]; omega))⟩
          · have hc2 : j < (len : Int) := by omega
            simp [Instr.indexAt, asIntOf, run_underlying ht, Instr.sureAddr, hc.1, hc2, run_sizeOf_of hn, addr_add]
          · have := hcs.drop (j.toNat * n)
            rw [List.drop_take, List.drop_drop] at this
            simpa [Nat.add_comm] using this
    · cases h
  · rename_i c o kk j
    split at h
    · rename_i hc
      cases h
      cases hq
      cases hp with | v hC =>
      cases hC
      refine ⟨.pointer (some ⟨c, o + j.toNat * n, none⟩), ?_, .v (.s _)⟩
      have hc2 : j < (len : Int) := by omega
      simp [Instr.indexAt, asIntOf, run_underlying ht, Instr.sureAddr, hc.1, hc2, run_sizeOf_of hn, addr_add]
    · cases h
  · cases h

def lenA : PV → Option TV
  | .sl _ els => some (.v (.s (.int .i64 els.length)))
  | .s (.slice _ n _) => some (.v (.s (.int .i64 n)))
  | _ => none

theorem len_sound {t e : TypeId} {p : PV} {u : Value} {tv : TV} {tk : Nat → Nat} (ht : tElem P t = some e) (hp : C I p u) (h : lenA p = some tv) : ∃ r, (Builtin.len_ #[t] 0 #[u]).run P w = .ok r w ∧ R I β κ tk tv r := by
  have hu := run_underlying_elem ht
  unfold lenA at h
  split at h
  · cases h
    cases hp with
    | sl hI huu hm hc hl hcap hex => subst hm; exact ⟨_, by simp [Builtin.len_, run_underlying hu, goInt], .v (.s _)⟩
    | sl0 => exact ⟨_, by simp [Builtin.len_, run_underlying hu, goInt], .v (.s _)⟩
    | sle => exact ⟨_, by simp [Builtin.len_, run_underlying hu, goInt], .v (.s _)⟩
  · cases h
    cases hp
    exact ⟨_, by simp [Builtin.len_, run_underlying hu, goInt], .v (.s _)⟩
  · cases h

/-- Numbers of a row of values. -/
def ints : List PV → Option (List Int)
  | [] => some []
  | .s (.int _ y) :: r => (ints r).map (y :: ·)
  | _ => none

/-- min and max of whole numbers of one kind. -/
def extremeA (mx : Bool) : List PV → Option Value
  | .s (.int k x) :: r => (ints r).map fun ys => .int k (ys.foldl (fun m y => if mx then (if m < y then y else m) else (if y < m then y else m)) x)
  | _ => none

theorem max2_int' (k k' : IntKind) (x y : Int) : Builtin.max2 (.int k x) (.int k' y) = pure (.int k (if x < y then y else x)) := by simp only [Builtin.max2, gt_iff_lt]
theorem min2_int' (k k' : IntKind) (x y : Int) : Builtin.min2 (.int k x) (.int k' y) = pure (.int k (if y < x then y else x)) := by simp only [Builtin.min2]

theorem extreme_fold (mx : Bool) (k : IntKind) : ∀ (l : List PV) (vs : List Value) (x : Int) (ys : List Int), Cs I l vs → ints l = some ys →
    (vs.foldlM (if mx then Builtin.max2 else Builtin.min2) (.int k x)).run P w = .ok (.int k (ys.foldl (fun m y => if mx then (if m < y then y else m) else (if y < m then y else m)) x)) w
  | [], vs, x, ys, hc, h => by
    cases hc
    simp only [ints, Option.some.injEq] at h
    subst h
    rfl
  | y :: l, vs, x, ys, hc, h => by
    unfold ints at h
    split at h
    · rename_i e; cases e
    · rename_i k' y' r e
      cases e
      obtain ⟨ys, hys, rfl⟩ := Option.map_eq_some_iff.1 h
      cases hc with
      | cons h1 h2 =>
        cases h1
        have ih := extreme_fold mx k _ _ (if mx then (if x < y' then y' else x) else (if y' < x then y' else x)) ys h2 hys
        cases mx
        · simpa [min2_int'] using ih
        · simpa [max2_int'] using ih
    · cases h

theorem extreme_sound (mx : Bool) (l : List PV) (vs : List Value) (r : Value) (hc : Cs I l vs) (h : extremeA mx l = some r) (ts : Array TypeId) (t : TypeId) : (if mx then Builtin.max_ ts t vs.toArray else Builtin.min_ ts t vs.toArray).run P w = .ok r w := by
  unfold extremeA at h
  split at h
  · obtain ⟨ys, hys, rfl⟩ := Option.map_eq_some_iff.1 h
    cases hc with
    | cons h1 h2 =>
      cases h1
      rename_i k x _ _
      have := extreme_fold (P := P) (w := w) mx k _ _ x ys h2 hys
      cases mx
      · simpa [Builtin.min_] using this
      · simpa [Builtin.max_] using this
  · cases h

/-- One cell. -/
def PV.cell : PV → Bool
  | .s v => v.oneCell'
  | .sl _ _ => true
  | .vp _ => true
  | .fn _ _ => true
  | .ifc _ _ => true
  | _ => false

/-- Cells alone. -/
def PV.ok (x : PV) : Bool := x.cells.all PV.cell

theorem C.cell {x : PV} {v : Value} (h : C I x v) (hx : x.cell = true) : v.oneCell' = true := by
  cases h <;> first | exact hx | rfl | (simp [PV.cell] at hx)

theorem Cs.cell {xs : List PV} {vs : List Value} (h : Cs I xs vs) (hx : xs.all PV.cell = true) : ∀ v ∈ vs, v.oneCell' = true := by
  induction xs generalizing vs with
  | nil => cases h; simp
  | cons x xs ih =>
    cases h with
    | cons h1 h2 =>
      simp only [List.all_cons, Bool.and_eq_true] at hx
      intro v hv
      rcases List.mem_cons.1 hv with rfl | hv
      · exact h1.cell hx.1
      · exact ih h2 hx.2 v hv

theorem C.okCells {x : PV} {v : Value} (h : C I x v) (hx : x.ok = true) : Cs I x.cells v.cells.toList ∧ ∀ u ∈ v.cells.toList, u.oneCell' = true := by
  have key : Cs I x.cells v.cells.toList := by
    refine h.cells ?_ ?_
    · rintro rfl; simp [PV.ok, PV.cells, PV.cell] at hx
    · intro u hu l e
      subst hu e
      simp [PV.ok, PV.cells, PV.cell, Value.oneCell'] at hx
  exact ⟨key, key.cell hx⟩

/-! ### A struct put together -/
def setR {α : Type} (l : List α) (off : Nat) : List α → List α
  | [] => l
  | x :: xs => setR (l.set off x) (off + 1) xs

def fillA (places : List (Nat × Nat)) (cells : List PV) : List (Nat × PV) → Option (List PV)
  | [] => some cells
  | (i, x) :: rest => match places[i]? with
    | some (off, n) => if x.cells.length = n ∧ off + n ≤ cells.length ∧ x.ok = true then fillA places (setR cells off x.cells) rest else none
    | none => none

theorem setR_Cs {xs l : List PV} {off : Nat} {vs us : List Value} (hl : Cs I l vs) (hx : Cs I xs us) : Cs I (setR l off xs) (setR vs off us) := by
  induction xs generalizing l vs us off with
  | nil => cases hx; exact hl
  | cons x xs ih => cases hx with | cons h1 h2 => exact ih (hl.set off h1) h2

theorem foldl_setR (us : List Value) (off k : Nat) (cells : Array Value) : ((us.zipIdx k).foldl (fun cs (c, j) => cs.setIfInBounds (off + j) c) cells).toList = setR cells.toList (off + k) us := by
  induction us generalizing k cells with
  | nil => rfl
  | cons u us ih =>
    simp only [List.zipIdx_cons, List.foldl_cons, setR]
    rw [ih, Array.toList_setIfInBounds]
    rfl

theorem fill_sound {places : List (Nat × Nat)} {parts : List (Nat × PV)} {us : List (Nat × Value)} {cells : List PV} {cs : Array Value} {l : List PV} (hc : Cs I cells cs.toList) (hi : parts.map (·.1) = us.map (·.1))
    (hp : Cs I (parts.map (·.2)) (us.map (·.2))) (h : fillA places cells parts = some l) : ∃ r, Instr.fill (fun i => places[i]?) cs us = some r ∧ Cs I l r.toList := by
  induction parts generalizing us cells cs with
  | nil =>
    cases us with
    | nil => simp only [fillA, Option.some.injEq] at h; subst h; exact ⟨cs, rfl, hc⟩
    | cons => simp at hi
  | cons p parts ih =>
    obtain ⟨i, x⟩ := p
    cases us with
    | nil => simp at hi
    | cons q us =>
      obtain ⟨j, v⟩ := q
      simp only [List.map_cons, List.cons.injEq] at hi hp
      obtain ⟨rfl, hi⟩ := hi
      cases hp with
      | cons hxv hp =>
        simp only [fillA] at h
        split at h
        · rename_i off n hpl
          split at h
          · rename_i hcond
            obtain ⟨hn, hle, hm⟩ := hcond
            have hcells := (hxv.okCells hm).1
            have hsz : v.cells.size = n := by have := hcells.length; rw [hn] at this; simpa using this.symm
            have hlen : cells.length = cs.size := by simpa using hc.length
            have hnot : ¬ (v.cells.size ≠ n ∨ off + v.cells.size > cs.size) := by omega
            obtain ⟨r, hr, hl⟩ := ih (cs := v.cells.zipIdx.foldl (fun cs (c, j) => cs.setIfInBounds (off + j) c) cs)
              (by
                have := foldl_setR v.cells.toList off 0 cs
                rw [← Array.foldl_toList, Array.toList_zipIdx, this]
                exact setR_Cs hc hcells) hi hp h
            refine ⟨r, ?_, hl⟩
            simp only [Instr.fill, hpl]
            have hb : (decide (v.cells.size ≠ n) || decide (off + v.cells.size > cs.size)) = false := by simp; omega
            simp only [hb, Bool.false_eq_true, if_false]
            exact hr
          · cases h
        · cases h

end
end Go.Proofs.YtambpjbpdackfaaGreat.A


/- Slicing, closures, structs put together; 'valA' and its law. -/
set_option linter.unusedVariables false
set_option linter.unusedSimpArgs false
namespace Go.Proofs.YtambpjbpdackfaaGreat.A
open Go Go.RowKit

section
variable {P : Program} {w0 : Bs} {w : World} {I0 I : Imm} {β : Nat → Nat} {κ : Nat → Nat × Nat × Nat} {s : St} {sav : List (Array Value)} {a : Act}

/-- A bound of a slice expression: none is written; it is a number. -/
def bndA : Option (Option PV) → Option (Option Nat)
  | none => some none
  | some (some (.s (.int _ k))) => if 0 ≤ k then some (some k.toNat) else none
  | some _ => none

/-- Is it known that a slice ends where its block does? -/
def exA (mx : Option Nat) (ex : Bool) (h len : Nat) : Bool := match mx with | some m => decide (m = h) | none => ex && decide (h = len)

def sliceA (n : Nat) (els : List PV) (ex : Bool) (lo hi mx : Option Nat) : Option PV :=
  let h := hi.getD els.length
  let l := lo.getD 0
  if l ≤ h ∧ h ≤ els.length ∧ (∀ m ∈ mx, h ≤ m ∧ m ≤ els.length ∧ hi.isSome) ∧ els.all (fun e => e.cells.length == n) then
    some (.sl (exA mx ex h els.length) ((els.take h).drop l))
  else none

theorem run_sliceBound {x : Value} {k : IntKind} {i : Int} {y : Nat} {code : BoundsCode} (hx : x = .int k i) (h0 : 0 ≤ i) (h : i.toNat ≤ y) : (Instr.sliceBound x y code).run P w = .ok i.toNat w := by
  subst hx
  have : 0 ≤ i ∧ i ≤ (y : Int) := ⟨h0, by omega⟩
  simp [Instr.sliceBound, asIntOf, this]

/-- A bound as the model has it. -/
inductive Bnd : Option Nat → Option Value → Prop
  | none : Bnd none none
  | some {k : IntKind} {i : Int} : 0 ≤ i → Bnd (some i.toNat) (some (.int k i))

theorem bnd_of {x : Option Operand} {r : Option Nat} {f : Operand → Option PV} (h : bndA (x.map f) = some r) (hf : ∀ y p, f y = some p → C I p (a.eval y)) : Bnd r (x.map a.eval) := by
  cases x with
  | none => simp only [Option.map_none, bndA, Option.some.injEq] at h; subst h; exact .none
  | some y =>
    simp only [Option.map_some] at h ⊢
    cases hy : f y with
    | none => rw [hy] at h; simp [bndA] at h
    | some p =>
      rw [hy] at h
      cases p with
      | s v =>
        cases v with
        | int k i =>
          simp only [bndA] at h
          split at h
          · cases h
            have := hf y _ hy
            generalize a.eval y = u at this
            cases this
            exact .some ‹_›
          · cases h
        | _ => simp [bndA] at h
      | _ => simp [bndA] at h

theorem slice_sound {t e : TypeId} {n : Nat} {els : List PV} {ex : Bool} {lo hi mx : Option Nat} {vlo vhi vmx : Option Value} {u : Value} {r : PV} (ht : tElem P t = some e) (hn : tSize P e = some n) (hp : C I (.sl ex els) u)
    (blo : Bnd lo vlo) (bhi : Bnd hi vhi) (bmx : Bnd mx vmx) (h : sliceA n els ex lo hi mx = some r) : ∃ v, (Instr.sliceAt t u vlo vhi vmx).run P w = .ok v w ∧ C I r v := by
  have hu := run_underlying_elem ht
  unfold sliceA at h
  simp only at h
  split at h
  · rename_i hc
    obtain ⟨h1, h2, h3, h4⟩ := hc
    cases h
    obtain ⟨base, cap, hu', hcap, hnil⟩ : ∃ base cap, u = .slice base els.length cap ∧ els.length ≤ cap ∧ (base = none → els = [] ∧ cap = 0) := by
      cases hp with
      | sl0 => exact ⟨none, 0, rfl, by simp, fun _ => ⟨rfl, rfl⟩⟩
      | sle => exact ⟨some _, 0, rfl, by simp, fun h => by cases h⟩
      | sl _ _ hm _ _ hcap _ => subst hm; exact ⟨_, _, rfl, hcap, fun h => by cases h⟩
    have hb : ∃ m, (Instr.sliceBounds true els.length cap vlo vhi vmx).run P w = .ok (lo.getD 0, hi.getD els.length, m) w ∧ hi.getD els.length ≤ m ∧ m ≤ cap ∧ (∀ k, mx = some k → m = k) ∧ (mx = none → m = cap) := by
      cases bmx with
      | none =>
        refine ⟨cap, ?_, by omega, by omega, (fun k hk => by cases hk), fun _ => rfl⟩
        cases bhi with
        | none =>
          cases blo with
          | none => simp [Instr.sliceBounds]
          | some h0 => simp only [Option.getD_some, Option.getD_none] at h1 h2 ⊢; simp [Instr.sliceBounds, run_sliceBound rfl h0 h1]
        | some h0' =>
          cases blo with
          | none => simp only [Option.getD_some, Option.getD_none] at h1 h2 ⊢; simp [Instr.sliceBounds, run_sliceBound rfl h0' (Nat.le_trans h2 hcap)]
          | some h0 => simp only [Option.getD_some] at h1 h2 ⊢; simp [Instr.sliceBounds, run_sliceBound rfl h0' (Nat.le_trans h2 hcap), run_sliceBound rfl h0 h1]
      | @some k i hm0 =>
        obtain ⟨g1, g2, g3⟩ := h3 _ rfl
        refine ⟨i.toNat, ?_, g1, by omega, (fun k hk => by cases hk; rfl), (fun hk => by cases hk)⟩
        cases bhi with
        | none => simp at g3
        | some h0' =>
          cases blo with
          | none => simp only [Option.getD_some, Option.getD_none] at h1 h2 g1 ⊢; simp [Instr.sliceBounds, run_sliceBound rfl hm0 (Nat.le_trans g2 hcap), run_sliceBound rfl h0' g1]
          | some h0 => simp only [Option.getD_some] at h1 h2 g1 ⊢; simp [Instr.sliceBounds, run_sliceBound rfl hm0 (Nat.le_trans g2 hcap), run_sliceBound rfl h0' g1, run_sliceBound rfl h0 h1]
    obtain ⟨m, hb, hm1, hm2, hm3, hm4⟩ := hb
    generalize hl : lo.getD 0 = l at *
    generalize hh : hi.getD els.length = hh' at *
    refine ⟨.slice (if m = l then base else base.map (·.add (l * n))) (hh' - l) (m - l), ?_, ?_⟩
    · subst hu'
      simp [Instr.sliceAt, Instr.slice, run_underlying hu, hb, run_sizeOf_of hn]
    · have hlen : ((els.take hh').drop l).length = hh' - l := by simp only [List.length_drop, List.length_take]; omega
      have hex : exA mx ex hh' els.length = true → (ex = true → cap = els.length) → m = hh' := by
        intro hb1 hexc
        unfold exA at hb1
        split at hb1
        · have := hm3 _ rfl; simp at hb1; omega
        · have := hm4 rfl; simp at hb1; have := hexc hb1.1; omega
      cases base with
      | none =>
        obtain ⟨he, hc0⟩ := hnil rfl
        subst he
        have e1 : hh' = 0 := by simpa using h2
        subst e1
        have e2 : l = 0 := by omega
        subst e2
        have e3 : m = 0 := by omega
        subst e3
        simpa using (C.sl0 (I := I))
      | some a0 =>
        subst hu'
        cases hp with
        | sle =>
          have e1 : hh' = 0 := by simpa using h2
          subst e1
          have e2 : l = 0 := by omega
          subst e2
          have e3 : m = 0 := by omega
          subst e3
          simpa using (C.sle (I := I) (a := a0))
        | @sl _ _ b off k sz _ arr hI huu hm hc hl' hcap' hexc =>
          have hall : ∀ x ∈ els, x.cells.length = n := by simpa [List.all_eq_true] using h4
          have hsub : ∀ x ∈ (els.take hh').drop l, x.cells.length = n := fun x hx => hall x (List.mem_of_mem_take (List.mem_of_mem_drop hx))
          have hfl := flat_length hall
          have hsplit : flat els = flat (els.take l) ++ flat ((els.take hh').drop l) ++ flat (els.drop hh') := by
            have e1 : els = els.take hh' ++ els.drop hh' := (List.take_append_drop _ _).symm
            have e2 : els.take hh' = (els.take hh').take l ++ (els.take hh').drop l := (List.take_append_drop _ _).symm
            rw [List.take_take, Nat.min_eq_left h1] at e2
            conv => lhs; rw [e1, e2]
            rw [flat_append, flat_append]
          have hpre : (flat (els.take l)).length = l * n := by
            rw [flat_length (fun x hx => hall x (List.mem_of_mem_take hx)), List.length_take, Nat.min_eq_left (by omega)]
          have hmid := flat_length hsub
          rw [hlen] at hmid
          generalize (els.take hh').drop l = X at hsub hlen hsplit hmid ⊢
          have hcm : Cs I (flat X) ((arr.drop (off + l * n)).take (flat X).length) := by
            have k1 := (hc.drop (l * n)).take (flat X).length
            rw [hsplit, ← hpre, List.append_assoc, List.drop_left, List.take_left] at k1
            rw [hpre] at k1
            have e1 : (List.drop (l * n) (List.take (flat (els.take l) ++ (flat X ++ flat (els.drop hh'))).length (List.drop off arr))).take (flat X).length
                = (List.drop (off + l * n) arr).take (flat X).length := by
              rw [List.drop_take, List.drop_drop, List.take_take]
              congr 1
              simp only [List.length_append]
              omega
            rwa [e1] at k1
          have hbnd : off + l * n + (flat X).length ≤ arr.length := by
            rw [hsplit] at hl'
            simp only [List.length_append] at hl'
            omega
          by_cases hml : m = l
          · rw [if_pos hml]
            have e0 : X = [] := List.eq_nil_of_length_eq_zero (by omega)
            have ef : flat ([] : List PV) = [] := rfl
            rw [e0]
            refine .sl (sz := n) hI (by simp) (by simp; omega) (by rw [ef]; simpa using Cs.nil) (by rw [ef]; simp; omega) (by omega) (fun hx => by have := hex hx hexc; omega)
          · rw [if_neg hml]
            simp only [Option.map_some, addr_add]
            exact .sl hI hsub hlen.symm hcm hbnd (by omega) (fun hx => by have := hex hx hexc; omega)
  · cases h

/-- The same of a slice that is told as it is. -/
def sliceR (n : Nat) (base : Option Addr) (len cap : Nat) (lo hi mx : Option Nat) : Option PV :=
  let h := hi.getD len
  let l := lo.getD 0
  let m := mx.getD cap
  if l ≤ h ∧ h ≤ m ∧ m ≤ cap ∧ (mx.isSome = true → hi.isSome = true) then
    some (.s (.slice (if m = l then base else base.map (·.add (l * n))) (h - l) (m - l)))
  else none

theorem sliceR_sound {t e : TypeId} {n : Nat} {base : Option Addr} {len cap : Nat} {lo hi mx : Option Nat} {vlo vhi vmx : Option Value} {r : PV} (ht : tElem P t = some e) (hn : tSize P e = some n)
    (blo : Bnd lo vlo) (bhi : Bnd hi vhi) (bmx : Bnd mx vmx) (h : sliceR n base len cap lo hi mx = some r) : ∃ v, (Instr.sliceAt t (.slice base len cap) vlo vhi vmx).run P w = .ok v w ∧ C I r v := by
  have hu := run_underlying_elem ht
  unfold sliceR at h
  simp only at h
  split at h
  · rename_i hc
    obtain ⟨h1, h2, h3, h4⟩ := hc
    cases h
    have hb : (Instr.sliceBounds true len cap vlo vhi vmx).run P w = .ok (lo.getD 0, hi.getD len, mx.getD cap) w := by
      cases bmx with
      | none =>
        cases bhi with
        | none =>
          cases blo with
          | none => simp [Instr.sliceBounds]
          | some h0 => simp only [Option.getD_some, Option.getD_none] at h1 h2 ⊢; simp [Instr.sliceBounds, run_sliceBound rfl h0 h1]
        | some h0' =>
          cases blo with
          | none => simp only [Option.getD_some, Option.getD_none] at h1 h2 ⊢; simp [Instr.sliceBounds, run_sliceBound rfl h0' h2]
          | some h0 => simp only [Option.getD_some, Option.getD_none] at h1 h2 ⊢; simp [Instr.sliceBounds, run_sliceBound rfl h0' h2, run_sliceBound rfl h0 h1]
      | @some k i hm0 =>
        cases bhi with
        | none => simp at h4
        | some h0' =>
          cases blo with
          | none => simp only [Option.getD_some, Option.getD_none] at h1 h2 h3 ⊢; simp [Instr.sliceBounds, run_sliceBound rfl hm0 h3, run_sliceBound rfl h0' h2]
          | some h0 => simp only [Option.getD_some] at h1 h2 h3 ⊢; simp [Instr.sliceBounds, run_sliceBound rfl hm0 h3, run_sliceBound rfl h0' h2, run_sliceBound rfl h0 h1]
    exact ⟨_, by simp [Instr.sliceAt, Instr.slice, run_underlying hu, hb, run_sizeOf_of hn], .s _⟩
  · cases h

/-- What a closure takes in: the variables of the call's own that are not written again. -/
def capA (s : St) : TV → Option PV
  | .v x => some x
  | .ptr b off => match lk b s.ro with
    | some cs => if off ≤ cs.length then some (.vp (cs.drop off)) else none
    | none => none
  | .acc _ _ => none
  | .own _ _ => none

def capsA (s : St) : List Operand → Option (List PV)
  | [] => some []
  | x :: xs => match (ev s x).bind (capA s), capsA s xs with
    | some y, some ys => some (y :: ys)
    | _, _ => none

theorem cap_C (h : Sim w0 I0 I β κ s sav a w) {x : Operand} {p : PV} (he : (ev s x).bind (capA s) = some p) : C I p (a.eval x) := by
  obtain ⟨t, h1, h2⟩ := Option.bind_eq_some_iff.1 he
  have hR := ev_R h h1
  cases t with
  | v y => simp only [capA, Option.some.injEq] at h2; subst h2; cases hR with | v hR => exact hR
  | own => simp [capA] at h2
  | ptr b off =>
    simp only [capA] at h2
    split at h2
    · rename_i cells hb
      split at h2
      · rename_i hoff
        cases h2
        obtain ⟨arr, hI, hc, hlen⟩ := h.rob b cells hb
        generalize a.eval x = u at hR
        cases hR
        have hc' := hc.drop off
        rw [List.drop_take] at hc'
        exact .vp hI (by simpa using hc') (by simp only [List.length_drop]; omega)
      · cases h2
    · cases h2
  | acc => simp [capA] at h2

theorem caps_C (h : Sim w0 I0 I β κ s sav a w) : ∀ {xs : List Operand} {ps : List PV}, capsA s xs = some ps → Cs I ps (xs.map a.eval)
  | [], ps, he => by simp only [capsA, Option.some.injEq] at he; subst he; exact .nil
  | x :: xs, ps, he => by
    simp only [capsA] at he
    split at he
    · cases he
      exact .cons (cap_C h ‹_›) (caps_C h ‹_›)
    · cases he

end
end Go.Proofs.YtambpjbpdackfaaGreat.A


/- 'valA': what an operation tells that neither makes nor writes memory; 'infOk': what must be so of its types; the law. -/
set_option linter.unusedVariables false
set_option linter.unusedSimpArgs false
namespace Go.Proofs.YtambpjbpdackfaaGreat.A
open Go Go.RowKit

def bl (b : Bool) : TV := .v (.s (.bool b))

/-- Equality beyond numbers: 1: bools; 2: structs of plain cells; 3: slices and nil; 4: functions and nil; 5: arrays of two numbers. -/
def eqA (i : Inf) : TV → TV → Option Bool
  | .v (.s (.bool a)), .v (.s (.bool b)) => if i.n = 1 then some (a == b) else none
  | .v (.agg x), .v (.agg y) => if i.n = 2 then cellsEq i.ks x y else if i.n = 5 then cellsEq i.ks x y else none
  | .acc _ els, .v (.s (.slice none 0 0)) => if i.n = 3 then some els.isEmpty else none
  | .v (.sl _ els), .v (.s (.slice none 0 0)) => if i.n = 3 ∧ els.isEmpty = false then some false else none
  | .v (.s (.slice none 0 0)), .v (.s (.slice none 0 0)) => if i.n = 3 then some true else none
  | .v (.fn _ _), .v (.s .nilFunc) => if i.n = 4 then some false else none
  | .v (.s .nilFunc), .v (.s .nilFunc) => if i.n = 4 then some true else none
  | .v (.s (.slice (some _) _ _)), .v (.s (.slice none 0 0)) => if i.n = 3 then some false else none
  | .v (.s (.pointer (some _))), .v (.s (.pointer none)) => if i.n = 6 then some false else none
  | .v (.s (.pointer none)), .v (.s (.pointer none)) => if i.n = 6 then some true else none
  | _, _ => none

def num2 (op : BinOp) : TV → TV → Option Value
  | .v (.s x), .v (.s y) => binV op x y
  | _, _ => none

def binA (op : BinOp) (i : Inf) (x y : TV) : Option TV :=
  match num2 op x y with
  | some r => some (.v (.s r))
  | none => match op with
    | .eql => (eqA i x y).map bl
    | .neq => (eqA i x y).map fun b => bl (!b)
    | _ => none

def unA : UnOp → PV → Option TV
  | .not, .s (.bool b) => some (bl (!b))
  | .neg, .s (.int k n) => some (.v (.s (.int k (k.wrap (0 - n)))))
  | .xor, .s (.int k n) => some (.v (.s (.int k (k.wrap (BitVec.ofInt k.bits (if k.signed then -1 else k.max) ^^^ BitVec.ofInt k.bits n).toNat))))
  | _, _ => none

def valA (s : St) (op : Op) (i : Inf) : Option TV :=
  match op with
  | .move x => ev s x
  | .assign x => ev s x
  | .pick c x y => match pv s c with
    | some (.s (.bool t)) => if t then ev s x else ev s y
    | _ => none
  | .load _ x => (ev s x).bind (ldA s i.agg i.n)
  | .fieldAddr _ x _ => (ev s x).bind (fieldAddrA i.off)
  | .field _ x _ => (pv s x).bind (fieldA i.agg i.n i.off)
  | .indexAddr _ x k => match ev s x, pv s k with
    | some p, some q => if i.t = 0 then idxA i.n p q else idxArr i.n i.t p q
    | _, _ => none
  | .index _ x k => match pv s x, pv s k with
    | some p, some (.s (.int _ j)) => if 0 ≤ j ∧ j < i.t then fieldA i.agg i.n (j.toNat * i.n) p else none
    | _, _ => none
  | .binOp op _ x y _ => match ev s x, ev s y with
    | some p, some q => binA op i p q
    | _, _ => none
  | .unOp op _ x => (pv s x).bind (unA op)
  | .makeInterface t x => (pv s x).map fun p => .v (.ifc t p)
  | .extract x k => match pv s x with
    | some (.tup l) => (l[k]?).map .v
    | _ => none
  | .makeFunc fn first caps => if first.toList.isEmpty then (capsA s caps.toList).map fun l => .v (.fn fn l) else none
  | .build _ parts => match pvs s (parts.toList.map (·.2)) with
    | some ps => (fillA i.places (i.zero.map .s) ((parts.toList.map (·.1)).zip ps)).map fun l => .v (.agg l)
    | none => none
  | .slice _ x lo hi mx => match pv s x, bndA (lo.map (pv s)), bndA (hi.map (pv s)), bndA (mx.map (pv s)) with
    | some (.sl ex els), some l, some h, some m => (sliceA i.n els ex l h m).map .v
    | some (.s (.slice base len cap)), some l, some h, some m => (sliceR i.n base len cap l h m).map .v
    | _, _, _, _ => none
  | .convert _ _ x => match pv s x, i.ks with
    | some (.s (.int _ n)), [some k] => some (.v (.s (.int k (k.wrap n))))
    | _, _ => none
  | .call c => match c.callee, c.args.toList with
    | .builtin .len, [x] => (pv s x).bind lenA
    | .builtin .max, l => ((pvs s l).bind (extremeA true)).map fun r => .v (.s r)
    | .builtin .min, l => ((pvs s l).bind (extremeA false)).map fun r => .v (.s r)
    | _, _ => none
  | _ => none

/-- Plain constants. -/
def constEq : Value → Value → Bool
  | .int k a, .int k' b => k == k' && a == b
  | .bool a, .bool b => a == b
  | .slice none 0 0, .slice none 0 0 => true
  | .nilFunc, .nilFunc => true
  | .pointer none, .pointer none => true
  | .nilIface, .nilIface => true
  | .string a, .string b => a.data.size == 0 && b.data.size == 0
  | _, _ => false

theorem constEq_eq {a b : Value} (h : constEq a b = true) : a = b := by
  unfold constEq at h
  split at h
  · simp only [Bool.and_eq_true, beq_iff_eq] at h; rw [h.1, h.2]
  · simp only [beq_iff_eq] at h; rw [h]
  · rfl
  · rfl
  · rfl
  · rfl
  · simp only [Bool.and_eq_true, beq_iff_eq] at h
    rename_i a b
    obtain ⟨a⟩ := a
    obtain ⟨b⟩ := b
    have h1 := Array.eq_empty_of_size_eq_zero h.1
    have h2 := Array.eq_empty_of_size_eq_zero h.2
    simp only at h1 h2
    rw [h1, h2]
  · cases h

def constsEq : List Value → List Value → Bool
  | [], [] => true
  | a :: l, b :: m => constEq a b && constsEq l m
  | _, _ => false

theorem constsEq_eq : ∀ {l m : List Value}, constsEq l m = true → l = m
  | [], [], _ => rfl
  | a :: l, b :: m, h => by simp only [constsEq, Bool.and_eq_true] at h; rw [constEq_eq h.1, constsEq_eq h.2]
  | [], _ :: _, h => by simp [constsEq] at h
  | _ :: _, [], h => by simp [constsEq] at h

def tZero (P : Program) (t : TypeId) : Option Value := (P.info? t).bind (·.zero)

theorem run_zero_of {P : Program} {t : TypeId} {v : Value} (h : tZero P t = some v) (w : World) : (zeroValue t).run P w = .ok v w := by
  unfold tZero at h
  obtain ⟨i, hi, hz⟩ := Option.bind_eq_some_iff.1 h
  simp [zeroValue, typeInfo, hi, hz]

/-- Do the places fit the fields? -/
def placesOk (P : Program) : List Field → List (Nat × Nat) → Bool
  | [], [] => true
  | f :: fs, p :: ps => p.1 == f.offset && tSize P f.type == some p.2 && placesOk P fs ps
  | _, _ => false

def infOk (P : Program) (op : Op) (i : Inf) : Bool :=
  match op with
  | .load t _ => tAgg P t == some i.agg && tSize P t == some i.n && (i.agg || i.n == 1)
  | .fieldAddr t _ f => match tField P t f with
    | some fd => fd.offset == i.off && (match tSize P fd.type with | some n => n != 0 | none => false)
    | none => false
  | .field t _ f => match tField P t f with
    | some fd => fd.offset == i.off && tAgg P fd.type == some i.agg && tSize P fd.type == some i.n
    | none => false
  | .indexAddr t _ _ => if i.t = 0 then (match tElem P t with
    | some e => tSize P e == some i.n
    | none => false) else (match P.underlying t with
    | some (.array len e) => len == i.t && tSize P e == some i.n
    | _ => false)
  | .index t _ _ => match P.underlying t with
    | some (.array len e) => len == i.t && tAgg P e == some i.agg && tSize P e == some i.n
    | _ => false
  | .binOp op t _ _ _ => match op with
    | .eql | .neq => match P.underlying t with
      | some .bool => i.n == 1
      | some (.struct fs) => i.n == 2 && (eqKinds P 0 fs.toList i.ks || eqNest P 0 fs.toList i.ks) && !P.stoodInHeld t && !P.eqGuardType P.depth t
      | some (.array len e) => i.n == 5 && len == 2 && (match P.underlying e, i.ks with | some (.int j), [some k, some k'] => j == k && j == k' | _, _ => false) && tSize P e == some 1 && !P.eqGuardType P.depth t
      | some (.slice _) => i.n == 3
      | some (.func _ _ _) => i.n == 4
      | some (.pointer _) => i.n == 6
      | some (.int _) => i.n == 0
      | _ => false
    | _ => true
  | .makeInterface t _ => match P.underlying t with
    | some (.interface _) => false
    | some _ => true
    | none => false
  | .build t _ => match P.underlying t, tZero P t with
    | some (.struct fs), some (.agg z) => placesOk P fs.toList i.places && constsEq z.toList i.zero
    | some (.array len e), some (.agg z) => (match tSize P e with
      | some n => i.places == (List.range len).map (fun j => (j * n, n)) && constsEq z.toList i.zero
      | none => false)
    | _, _ => false
  | .slice t _ _ _ _ => match tElem P t with
    | some e => tSize P e == some i.n
    | none => false
  | .convert src dst _ => match P.underlying src, P.underlying dst, i.ks with
    | some (.int _), some (.int k), [some k'] => k == k'
    | _, _, _ => false
  | .call c => match c.callee, c.argTypes.toList with
    | .builtin .len, [t] => (tElem P t).isSome
    | .builtin .len, _ => false
    | _, _ => true
  | _ => true

end Go.Proofs.YtambpjbpdackfaaGreat.A


/- What 'valA' tells, the model tells. -/
set_option linter.unusedVariables false
set_option linter.unusedSimpArgs false
namespace Go.Proofs.YtambpjbpdackfaaGreat.A
open Go Go.RowKit

section
variable {P : Program} {w0 : Bs} {w : World} {I0 I : Imm} {β : Nat → Nat} {κ : Nat → Nat × Nat × Nat} {s : St} {sav : List (Array Value)} {a : Act} {tk : Nat → Nat}

theorem R.inv {x : PV} {u : Value} (h : R I β κ tk (.v x) u) : C I x u := by cases h with | v h => exact h
theorem C.inv_s {v u : Value} (h : C I (.s v) u) : u = v := by cases h; rfl
theorem C.inv_agg {l : List PV} {u : Value} (h : C I (.agg l) u) : ∃ arr, u = .agg arr ∧ Cs I l arr.toList := by cases h with | agg h => exact ⟨_, rfl, h⟩
theorem C.inv_fn {f : Fn} {l : List PV} {u : Value} (h : C I (.fn f l) u) : ∃ arr, u = .func f #[] arr ∧ Cs I l arr.toList := by cases h with | fn h => exact ⟨_, rfl, h⟩

theorem eqIn_slice_nil (d : Nat) {t e : TypeId} (h : P.underlying t = some (.slice e)) (x : Addr) (n c n' c' : Nat) (w : World) : (Op.equalIn (d + 1) t (.slice (some x) n c) (.slice none n' c')).run P w = .ok false w := by
  simp only [Op.equalIn, Sem.run_bind, run_underlying h, Result.andThen_ok]; rfl
theorem eqIn_nil_slice (d : Nat) {t e : TypeId} (h : P.underlying t = some (.slice e)) (x : Option Addr) (n c n' c' : Nat) (w : World) : (Op.equalIn (d + 1) t (.slice none n c) (.slice x n' c')).run P w = .ok x.isNone w := by
  simp only [Op.equalIn, Sem.run_bind, run_underlying h, Result.andThen_ok]; rfl
theorem eqIn_func_nil (d : Nat) {t : TypeId} {p q : Array TypeId} {vr : Bool} (h : P.underlying t = some (.func p q vr)) (f : Fn) (x y : Array Value) (w : World) : (Op.equalIn (d + 1) t (.func f x y) .nilFunc).run P w = .ok false w := by
  simp only [Op.equalIn, Sem.run_bind, run_underlying h, Result.andThen_ok]; rfl
theorem eqIn_nil_nil (d : Nat) {t : TypeId} {p q : Array TypeId} {vr : Bool} (h : P.underlying t = some (.func p q vr)) (w : World) : (Op.equalIn (d + 1) t .nilFunc .nilFunc).run P w = .ok true w := by
  simp only [Op.equalIn, Sem.run_bind, run_underlying h, Result.andThen_ok]; rfl

theorem eqIn_ptr_nil (d : Nat) {t e : TypeId} (h : P.underlying t = some (.pointer e)) (x : Addr) (w : World) : (Op.equalIn (d + 1) t (.pointer (some x)) (.pointer none)).run P w = .ok false w := by
  simp only [Op.equalIn, Sem.run_bind, run_underlying h, Result.andThen_ok]; rfl
theorem eqIn_nil_ptr (d : Nat) {t e : TypeId} (h : P.underlying t = some (.pointer e)) (w : World) : (Op.equalIn (d + 1) t (.pointer none) (.pointer none)).run P w = .ok true w := by
  simp only [Op.equalIn, Sem.run_bind, run_underlying h, Result.andThen_ok]; rfl

theorem cellsEq_split : ∀ (n : Nat) {ks : List (Option IntKind)} {l m : List PV} {r : Bool}, n ≤ ks.length → cellsEq ks l m = some r →
    ∃ r1 r2, cellsEq (ks.take n) (l.take n) (m.take n) = some r1 ∧ cellsEq (ks.drop n) (l.drop n) (m.drop n) = some r2 ∧ r = (r1 && r2)
  | 0, ks, l, m, r, _, h => ⟨true, r, by simp [cellsEq], by simpa using h, by simp⟩
  | n + 1, [], l, m, r, hn, h => by simp at hn
  | n + 1, k :: ks, l, m, r, hn, h => by
    have hn' : n ≤ ks.length := by simpa using hn
    cases l with
    | nil => cases k <;> simp [cellsEq] at h
    | cons x l =>
      cases m with
      | nil => cases k <;> cases x <;> simp [cellsEq] at h
      | cons y m =>
        unfold cellsEq at h
        split at h
        · simp at *
        · rename_i h1 h2 h3
          cases h1; cases h2; cases h3
          split at h
          · rename_i hk
            obtain ⟨r', h', rfl⟩ := Option.map_eq_some_iff.1 h
            obtain ⟨r1, r2, e1, e2, e3⟩ := cellsEq_split n hn' h'
            subst e3
            refine ⟨_, r2, ?_, by simpa using e2, (Bool.and_assoc _ _ _).symm⟩
            simp [cellsEq, hk, e1]
          · cases h
        · rename_i h1 h2 h3
          cases h1; cases h2; cases h3
          obtain ⟨r', h', rfl⟩ := Option.map_eq_some_iff.1 h
          obtain ⟨r1, r2, e1, e2, e3⟩ := cellsEq_split n hn' h'
          subst e3
          refine ⟨_, r2, ?_, by simpa using e2, (Bool.and_assoc _ _ _).symm⟩
          simp [cellsEq, e1]
        · cases h

theorem run_eqNest {I : Imm} (d : Nat) (xs ys : Array Value) (w : World) : ∀ (fs : List Field) (ks : List (Option IntKind)) (i : Nat) (l m : List PV) (r : Bool), eqNest P i fs ks = true →
    Cs I l (xs.toList.drop i) → Cs I m (ys.toList.drop i) → cellsEq ks l m = some r → (Op.eqFields (d + 2) xs ys fs).run P w = .ok r w
  | [], ks, i, l, m, r, hk, hl, hm, he => by
    cases ks with
    | cons k ks => simp [eqNest] at hk
    | nil =>
      cases l <;> cases m <;> simp [cellsEq] at he
      subst he
      simp [Op.eqFields]
  | f :: fs, ks, i, l, m, r, hk, hl, hm, he => by
    simp only [eqNest, Bool.and_eq_true, beq_iff_eq, Bool.not_eq_true', beq_eq_false_iff_ne, ne_eq] at hk
    obtain ⟨⟨ho, hname⟩, hty⟩ := hk
    split at hty
    · rename_i gs hu
      simp only [Bool.and_eq_true, beq_iff_eq, Bool.not_eq_true', decide_eq_true_eq] at hty
      obtain ⟨⟨⟨⟨hle, hkk⟩, hsz⟩, hst⟩, hrest⟩ := hty
      obtain ⟨r1, r2, e1, e2, e3⟩ := cellsEq_split gs.size hle he
      subst e3
      have hf : P.fieldsOf f.type = gs := by simp [Program.fieldsOf, hu]
      have hA : tAgg P f.type = some true := by unfold tAgg; rw [hu]; rfl
      have hpart : ∀ (zs : Array Value) (w : World), (part f.type zs f.offset).run P w = .ok (.agg (zs.extract i (i + gs.size))) w := fun zs w => by
        unfold part
        simp only [Sem.run_bind, run_isAgg_of hA, Result.andThen_ok, if_true, run_sizeOf_of hsz, ho]
        rfl
      have hex : ∀ (zs : Array Value) {k : List PV}, Cs I k (zs.toList.drop i) → Cs I (k.take gs.size) ((zs.extract i (i + gs.size)).toList.drop 0) := fun zs k h => by
        rw [List.drop_zero, Array.toList_extract, List.extract_eq_take_drop, Nat.add_sub_cancel_left]
        exact h.take _
      have h1 : (Op.equalIn (d + 2) f.type (.agg (xs.extract i (i + gs.size))) (.agg (ys.extract i (i + gs.size)))).run P w = .ok r1 w := by
        rw [run_equalIn_struct w (d + 1) _ _ _ (by rw [hf]; exact hu) hst, hf]
        exact run_eqFields d _ _ w gs.toList _ 0 _ _ r1 hkk (hex xs hl) (hex ys hm) e1
      have h2 := run_eqNest d xs ys w fs _ (i + gs.size) _ _ r2 hrest (by have := hl.drop gs.size; rwa [List.drop_drop] at this) (by have := hm.drop gs.size; rwa [List.drop_drop] at this) e2
      rw [Op.eqFields]
      simp only [if_pos hname, Sem.run_bind, hpart, h1, Result.andThen_ok]
      cases r1
      · simp
      · simpa using h2
    · cases hty

/-- What the types of an equality are. -/
def eqTy (P : Program) (t : TypeId) (i : Inf) : Bool :=
  match P.underlying t with
  | some .bool => i.n == 1
  | some (.struct fs) => i.n == 2 && (eqKinds P 0 fs.toList i.ks || eqNest P 0 fs.toList i.ks) && !P.stoodInHeld t && !P.eqGuardType P.depth t
  | some (.array len e) => i.n == 5 && len == 2 && (match P.underlying e, i.ks with | some (.int j), [some k, some k'] => j == k && j == k' | _, _ => false) && tSize P e == some 1 && !P.eqGuardType P.depth t
  | some (.slice _) => i.n == 3
  | some (.func _ _ _) => i.n == 4
  | some (.pointer _) => i.n == 6
  | some (.int _) => i.n == 0
  | _ => false

theorem eqTy_bool {t : TypeId} {i : Inf} (h : eqTy P t i = true) (hn : i.n = 1) : P.underlying t = some .bool := by
  unfold eqTy at h
  split at h <;> simp_all
theorem eqTy_struct {t : TypeId} {i : Inf} (h : eqTy P t i = true) (hn : i.n = 2) : ∃ fs, P.underlying t = some (.struct fs) ∧ (eqKinds P 0 fs.toList i.ks = true ∨ eqNest P 0 fs.toList i.ks = true) ∧ P.stoodInHeld t = false ∧ P.eqGuardType P.depth t = false := by
  unfold eqTy at h
  split at h <;> first
    | (simp [hn] at h; done)
    | (rename_i fs hu
       simp only [Bool.and_eq_true, Bool.or_eq_true, Bool.not_eq_true'] at h
       exact ⟨fs, hu, h.1.1.2, h.1.2, h.2⟩)
    | simp_all
theorem eqTy_pair {t : TypeId} {i : Inf} (h : eqTy P t i = true) (hn : i.n = 5) : ∃ e k, P.underlying t = some (.array 2 e) ∧ P.underlying e = some (.int k) ∧ i.ks = [some k, some k] ∧ tSize P e = some 1 ∧ P.eqGuardType P.depth t = false := by
  unfold eqTy at h
  split at h <;> first
    | (simp [hn] at h; done)
    | (rename_i len e hu
       simp only [Bool.and_eq_true, Bool.not_eq_true', beq_iff_eq] at h
       obtain ⟨⟨⟨⟨_, h1⟩, h2⟩, h3⟩, h4⟩ := h
       subst h1
       split at h2
       · rename_i j k k' hj hks
         simp only [Bool.and_eq_true, beq_iff_eq] at h2
         obtain ⟨rfl, rfl⟩ := h2
         exact ⟨e, _, hu, hj, hks, h3, h4⟩
       · cases h2)
    | simp_all
theorem cellsEq_none {x y : List PV} {r : Bool} (h : cellsEq [] x y = some r) : x = [] ∧ y = [] ∧ r = true := by
  cases x with
  | nil => cases y with
    | nil => simp only [cellsEq, Option.some.injEq] at h; exact ⟨rfl, rfl, h.symm⟩
    | cons => simp [cellsEq] at h
  | cons => simp [cellsEq] at h
theorem cellsEq_some {k : IntKind} {ks : List (Option IntKind)} {x y : List PV} {r : Bool} (h : cellsEq (some k :: ks) x y = some r) :
    ∃ a b xs ys r1, x = .s (.int k a) :: xs ∧ y = .s (.int k b) :: ys ∧ cellsEq ks xs ys = some r1 ∧ r = (a == b && r1) := by
  cases x with
  | nil => simp [cellsEq] at h
  | cons x xs =>
    cases y with
    | nil => cases x <;> simp [cellsEq] at h
    | cons y ys =>
      cases x with
      | s u =>
        cases y with
        | s v =>
          cases u with
          | int k1 a =>
            cases v with
            | int k2 b =>
              simp only [cellsEq] at h
              split at h
              · rename_i hk
                obtain ⟨rfl, rfl⟩ := hk
                obtain ⟨r1, h1, rfl⟩ := Option.map_eq_some_iff.1 h
                exact ⟨a, b, xs, ys, r1, rfl, rfl, h1, rfl⟩
              · cases h
            | _ => simp [cellsEq] at h
          | _ => simp [cellsEq] at h
        | _ => simp [cellsEq] at h
      | _ => simp [cellsEq] at h
theorem eqIn_pair (d : Nat) {t e : TypeId} {k : IntKind} (h : P.underlying t = some (.array 2 e)) (he : P.underlying e = some (.int k)) (hs : tSize P e = some 1) (a b a' b' : Int) (w : World) :
    (Op.equalIn (d + 2) t (.agg #[.int k a, .int k b]) (.agg #[.int k a', .int k b'])).run P w = .ok (a == a' && b == b') w := by
  have hp : ∀ (x y : Value) (j : Nat) (v : Value), #[x, y][j]? = some v → ∀ w, (part e #[x, y] j).run P w = .ok v w := fun x y j v hv w => run_part_cell he rfl hv w
  have hq : ∀ (x y : Int) (w : World), (Op.equalIn (d + 1) e (.int k x) (.int k y)).run P w = .ok (x == y) w := fun x y w => run_equalIn_int w d e k k x y he
  unfold Op.equalIn
  simp only [Sem.run_bind, run_underlying h, Result.andThen_ok, run_sizeOf_of hs]
  have e2 : ([0:2] : Std.Legacy.Range) = [0:2] := rfl
  simp only [Std.Legacy.Range.forIn_eq_forIn_range', Std.Legacy.Range.size, Nat.sub_zero, Nat.add_sub_cancel, Nat.div_one, List.range'_succ, List.range'_zero, List.forIn_cons, List.forIn_nil, Nat.zero_mul, Nat.one_mul, Nat.zero_add]
  simp only [Sem.run_bind, hp _ _ 0 _ rfl, hp _ _ 1 _ rfl, hq, Result.andThen_ok]
  cases h1 : (a == a') <;> cases h2 : (b == b') <;> simp [hp _ _ 1 _ rfl, hq, h1, h2]
theorem eqTy_slice {t : TypeId} {i : Inf} (h : eqTy P t i = true) (hn : i.n = 3) : ∃ e, P.underlying t = some (.slice e) := by
  unfold eqTy at h
  split at h <;> simp_all
theorem eqTy_func {t : TypeId} {i : Inf} (h : eqTy P t i = true) (hn : i.n = 4) : ∃ p q v, P.underlying t = some (.func p q v) := by
  unfold eqTy at h
  split at h <;> simp_all

theorem eqTy_ptr {t : TypeId} {i : Inf} (h : eqTy P t i = true) (hn : i.n = 6) : ∃ e, P.underlying t = some (.pointer e) := by
  unfold eqTy at h
  split at h <;> simp_all

/-- Neither a number, nor a string, ..: '==' is asked of the type. -/
def beyond (u : Value) : Prop := (∀ k m, u ≠ .int k m) ∧ (∀ k m, u ≠ .float k m) ∧ (∀ k m m', u ≠ .complex k m m') ∧ (∀ z, u ≠ .string z) ∧ u ≠ .nilIface

theorem run_equal_kind {t : TypeId} {x y : TV} {u v : Value} {i : Inf} {r : Bool} (hx : R I β κ tk x u) (hy : R I β κ tk y v) (h : eqA i x y = some r) (hi : eqTy P t i = true) :
    (Op.equal t u v).run P w = .ok r w ∧ ((∀ l, u ≠ .agg l) ∨ P.eqGuardType P.depth t = false) ∧ beyond u := by
  unfold eqA at h
  split at h
  · split at h
    · rename_i hn
      cases h
      obtain rfl := hx.inv.inv_s
      obtain rfl := hy.inv.inv_s
      exact ⟨run_equalIn_bool' w 9999 t _ _ (eqTy_bool hi hn), .inl (by simp), by simp [beyond]⟩
    · cases h
  · split at h
    · rename_i x y hn
      obtain ⟨xs, rfl, hxs⟩ := hx.inv.inv_agg
      obtain ⟨ys, rfl, hys⟩ := hy.inv.inv_agg
      obtain ⟨fs, hu, hk, hp, hg⟩ := eqTy_struct hi hn
      have hf : P.fieldsOf t = fs := by simp [Program.fieldsOf, hu]
      refine ⟨?_, .inr hg, by simp [beyond]⟩
      show (Op.equalIn (9999 + 1) t (.agg xs) (.agg ys)).run P w = _
      rw [run_equalIn_struct w _ t _ _ (by rw [hf]; exact hu) hp, hf]
      rcases hk with hk | hk
      · exact run_eqFields 9998 _ _ w fs.toList i.ks 0 _ _ r hk (by simpa using hxs) (by simpa using hys) h
      · exact run_eqNest 9997 _ _ w fs.toList i.ks 0 _ _ r hk (by simpa using hxs) (by simpa using hys) h
    · split at h
      · rename_i x y _ hn
        obtain ⟨xs, rfl, hxs⟩ := hx.inv.inv_agg
        obtain ⟨ys, rfl, hys⟩ := hy.inv.inv_agg
        obtain ⟨e, k, hu, he, hks, hsz, hg⟩ := eqTy_pair hi hn
        rw [hks] at h
        refine ⟨?_, .inr hg, by simp [beyond]⟩
        obtain ⟨a, a', xs1, ys1, r1, rfl, rfl, h1, rfl⟩ := cellsEq_some h
        obtain ⟨b, b', xs2, ys2, r2, rfl, rfl, h2, rfl⟩ := cellsEq_some h1
        obtain ⟨rfl, rfl, rfl⟩ := cellsEq_none h2
        rw [Bool.and_true]
        have e1 : xs = #[.int k a, .int k b] := by
          obtain ⟨xs⟩ := xs
          cases hxs with | cons h1 h2 => cases h2 with | cons h2 h3 => cases h3; cases h1; cases h2; rfl
        have e2 : ys = #[.int k a', .int k b'] := by
          obtain ⟨ys⟩ := ys
          cases hys with | cons h1 h2 => cases h2 with | cons h2 h3 => cases h3; cases h1; cases h2; rfl
        subst e1
        subst e2
        exact eqIn_pair 9998 hu he hsz a b a' b' w
      · cases h
  · split at h
    · rename_i t' els hn
      cases h
      obtain ⟨e, hu⟩ := eqTy_slice hi hn
      obtain rfl := hy.inv.inv_s
      cases hx with
      | acc0 => exact ⟨eqIn_nil_slice 9999 hu _ _ _ _ _ w, .inl (by simp), by simp [beyond]⟩
      | acc h1 =>
        refine ⟨?_, .inl (by simp), by simp [beyond]⟩
        have : els.isEmpty = false := by cases els <;> simp_all
        rw [this]
        exact eqIn_slice_nil 9999 hu _ _ _ _ _ w
    · cases h
  · split at h
    · rename_i ex els hn
      cases h
      obtain ⟨e, hu⟩ := eqTy_slice hi hn.1
      obtain rfl := hy.inv.inv_s
      cases hx.inv with
      | sl0 => simp at hn
      | sle => simp at hn
      | sl => exact ⟨eqIn_slice_nil 9999 hu _ _ _ _ _ w, .inl (by simp), by simp [beyond]⟩
    · cases h
  · split at h
    · rename_i hn
      cases h
      obtain ⟨e, hu⟩ := eqTy_slice hi hn
      obtain rfl := hx.inv.inv_s
      obtain rfl := hy.inv.inv_s
      exact ⟨eqIn_nil_slice 9999 hu _ _ _ _ _ w, .inl (by simp), by simp [beyond]⟩
    · cases h
  · split at h
    · rename_i hn
      cases h
      obtain ⟨p, q, e, hu⟩ := eqTy_func hi hn
      obtain ⟨arr, rfl, _⟩ := hx.inv.inv_fn
      obtain rfl := hy.inv.inv_s
      exact ⟨eqIn_func_nil 9999 hu _ _ _ w, .inl (by simp), by simp [beyond]⟩
    · cases h
  · split at h
    · rename_i hn
      cases h
      obtain ⟨p, q, e, hu⟩ := eqTy_func hi hn
      obtain rfl := hx.inv.inv_s
      obtain rfl := hy.inv.inv_s
      exact ⟨eqIn_nil_nil 9999 hu w, .inl (by simp), by simp [beyond]⟩
    · cases h
  · split at h
    · rename_i x n c hn
      cases h
      obtain ⟨e, hu⟩ := eqTy_slice hi hn
      obtain rfl := hx.inv.inv_s
      obtain rfl := hy.inv.inv_s
      exact ⟨eqIn_slice_nil 9999 hu _ _ _ _ _ w, .inl (by simp), by simp [beyond]⟩
    · cases h
  · split at h
    · rename_i x hn
      cases h
      obtain ⟨e, hu⟩ := eqTy_ptr hi hn
      obtain rfl := hx.inv.inv_s
      obtain rfl := hy.inv.inv_s
      exact ⟨eqIn_ptr_nil 9999 hu _ w, .inl (by simp), by simp [beyond]⟩
    · cases h
  · split at h
    · rename_i hn
      cases h
      obtain ⟨e, hu⟩ := eqTy_ptr hi hn
      obtain rfl := hx.inv.inv_s
      obtain rfl := hy.inv.inv_s
      exact ⟨eqIn_nil_ptr 9999 hu w, .inl (by simp), by simp [beyond]⟩
    · cases h
  · cases h

theorem run_eqGuard_struct {op : BinOp} {t : TypeId} {x y : Operand} {u v : Value} (hg : P.eqGuardType P.depth t = false) (hu : u ≠ .nilIface) (w : World) : (eqGuard op t x y u v).run P w = .ok () w := by
  cases u <;> first
    | exact absurd rfl hu
    | (cases op <;> simp [eqGuard]; done)
    | (cases v <;> cases op <;> simp [eqGuard, hg])

theorem run_bin {op : BinOp} {t yt : TypeId} {x y : Operand} {p q tv : TV} {u v : Value} {i : Inf} (hx : R I β κ tk p u) (hy : R I β κ tk q v) (h : binA op i p q = some tv) (hi : infOk P (.binOp op t x y yt) i = true) :
    ∃ r, (eqGuard op t x y u v).run P w = .ok () w ∧ (binOp op t u v).run P w = .ok r w ∧ R I β κ tk tv r := by
  unfold binA at h
  split at h
  · rename_i r hr
    cases h
    unfold num2 at hr
    split at hr
    · obtain rfl := hx.inv.inv_s
      obtain rfl := hy.inv.inv_s
      obtain ⟨h1, h2⟩ := binV_left hr
      exact ⟨r, run_eqGuard_num h1 h2 w, run_binV hr w, .v (.s r)⟩
    · cases hr
  · split at h
    · obtain ⟨b, hb, rfl⟩ := Option.map_eq_some_iff.1 h
      obtain ⟨g1, g2, g3, g4, g5, g6, g7⟩ := run_equal_kind (w := w) hx hy hb (t := t) hi
      have e : binOp .eql t u v = (do pure (.bool (← Op.equal t u v))) := by
        cases u <;> first | exact absurd rfl (g3 _ _) | exact absurd rfl (g4 _ _) | exact absurd rfl (g5 _ _ _) | exact absurd rfl (g6 _) | (cases v <;> rfl)
      refine ⟨.bool b, ?_, by rw [e]; simp [g1], .v (.s _)⟩
      rcases g2 with g2 | g2
      · exact run_eqGuard_num g2 g7 w
      · exact run_eqGuard_struct g2 g7 w
    · obtain ⟨b, hb, rfl⟩ := Option.map_eq_some_iff.1 h
      obtain ⟨g1, g2, g3, g4, g5, g6, g7⟩ := run_equal_kind (w := w) hx hy hb (t := t) hi
      have e : binOp .neq t u v = (do pure (.bool (!(← Op.equal t u v)))) := by
        cases u <;> first | exact absurd rfl (g3 _ _) | exact absurd rfl (g4 _ _) | exact absurd rfl (g5 _ _ _) | exact absurd rfl (g6 _) | (cases v <;> rfl)
      refine ⟨.bool (!b), ?_, by rw [e]; simp [g1], .v (.s _)⟩
      rcases g2 with g2 | g2
      · exact run_eqGuard_num g2 g7 w
      · exact run_eqGuard_struct g2 g7 w
    · cases h

end
end Go.Proofs.YtambpjbpdackfaaGreat.A


/- The law of 'valA'. -/
set_option linter.unusedVariables false
set_option linter.unusedSimpArgs false
namespace Go.Proofs.YtambpjbpdackfaaGreat.A
open Go Go.RowKit

section
variable {P : Program} {w0 : Bs} {w : World} {I0 I : Imm} {β : Nat → Nat} {κ : Nat → Nat × Nat × Nat} {s : St} {sav : List (Array Value)} {a : Act} {tk : Nat → Nat}

theorem un_sound {op : UnOp} {p : PV} {u : Value} {tv : TV} (hp : C I p u) (h : unA op p = some tv) : ∃ v, (Op.unary op u).run P w = .ok v w ∧ R I β κ tk tv v := by
  unfold unA at h
  split at h
  · cases h; obtain rfl := hp.inv_s; exact ⟨_, rfl, .v (.s _)⟩
  · cases h; obtain rfl := hp.inv_s; exact ⟨_, rfl, .v (.s _)⟩
  · cases h; obtain rfl := hp.inv_s; exact ⟨_, rfl, .v (.s _)⟩
  · cases h

theorem run_places : ∀ (fs : List Field) (ps : List (Nat × Nat)), placesOk P fs ps = true → (fs.mapM fun f => do pure (f.offset, ← sizeOf f.type) : Sem (List (Nat × Nat))).run P w = .ok ps w
  | [], [], _ => rfl
  | f :: fs, p :: ps, h => by
    simp only [placesOk, Bool.and_eq_true, beq_iff_eq] at h
    have ih := run_places fs ps h.2
    simp only [List.mapM_cons, Sem.run_bind, run_sizeOf_of h.1.2, Result.andThen_ok, Sem.run_pure, ih]
    rw [← h.1.1]
  | [], _ :: _, h => by simp [placesOk] at h
  | _ :: _, [], h => by simp [placesOk] at h

theorem fill_mono {f g : Nat → Option (Nat × Nat)} (hfg : ∀ i q, f i = some q → g i = some q) : ∀ {us : List (Nat × Value)} {cs r : Array Value}, Instr.fill f cs us = some r → Instr.fill g cs us = some r
  | [], cs, r, h => h
  | (i, v) :: us, cs, r, h => by
    simp only [Instr.fill] at h ⊢
    cases hf : f i with
    | none => rw [hf] at h; cases h
    | some q =>
      rw [hf] at h
      rw [hfg i q hf]
      simp only at h ⊢
      split at h
      · cases h
      · rename_i hc
        rw [if_neg hc]
        exact fill_mono hfg h

theorem build_sound {t : TypeId} {i : Inf} {parts : Array (Nat × Operand)} {ps l : List PV} (h : Sim w0 I0 I β κ s sav a w) (hi : infOk P (.build t parts) i = true) (hp : pvs s (parts.toList.map (·.2)) = some ps)
    (hf : fillA i.places (i.zero.map .s) ((parts.toList.map (·.1)).zip ps) = some l) : ∃ v, (Instr.build t (parts.map fun (i, x) => (i, a.eval x))).run P w = .ok v w ∧ C I (.agg l) v := by
  simp only [infOk] at hi
  split at hi
  · rename_i fs z hu hz
    simp only [Bool.and_eq_true] at hi
    obtain ⟨hpl, hze⟩ := hi
    have hzero := constsEq_eq hze
    have hC := pvs_C h hp
    have hlen : ps.length = parts.size := by have := hC.length; simpa using this
    have hc0 : ∀ (l : List Value), Cs I (l.map .s) l := fun l => by
      induction l with
      | nil => exact .nil
      | cons x l ih => exact .cons (.s x) ih
    have e1 : ((parts.toList.map (·.1)).zip ps).map (·.1) = (parts.map fun (i, x) => (i, a.eval x)).toList.map (·.1) := by
      rw [List.map_fst_zip (by simp [hlen])]
      simp [Function.comp_def]
    have e2 : Cs I (((parts.toList.map (·.1)).zip ps).map (·.2)) ((parts.map fun (i, x) => (i, a.eval x)).toList.map (·.2)) := by
      rw [List.map_snd_zip (by simp [hlen])]
      simpa [Function.comp_def] using hC
    obtain ⟨r, hr, hl⟩ := fill_sound (I := I) (places := i.places) (cs := z) (by rw [← hzero]; exact hc0 _) e1 e2 hf
    refine ⟨.agg r, ?_, .agg hl⟩
    have hrun : (fs.mapM fun f => do pure (f.offset, ← sizeOf f.type) : Sem (Array (Nat × Nat))).run P w = .ok i.places.toArray w := by
      rw [Array.mapM_eq_mapM_toList]
      have := run_places (w := w) fs.toList i.places hpl
      simp only [Sem.run_map, this, Result.andThen_ok]
    have hr' : Instr.fill (fun x => i.places.toArray[x]?) z (parts.map fun (i, x) => (i, a.eval x)).toList = some r := by simpa using hr
    simp only [Instr.build, Sem.run_bind, run_zero_of hz, run_underlying hu, Result.andThen_ok, Value.cells, hrun, hr']
    rfl
  · rename_i len e z hu hz
    split at hi
    · rename_i n hn
      simp only [Bool.and_eq_true, beq_iff_eq] at hi
      obtain ⟨hpl, hze⟩ := hi
      have hzero := constsEq_eq hze
      have hC := pvs_C h hp
      have hlen : ps.length = parts.size := by have := hC.length; simpa using this
      have hc0 : ∀ (l : List Value), Cs I (l.map .s) l := fun l => by
        induction l with
        | nil => exact .nil
        | cons x l ih => exact .cons (.s x) ih
      have e1 : ((parts.toList.map (·.1)).zip ps).map (·.1) = (parts.map fun (i, x) => (i, a.eval x)).toList.map (·.1) := by
        rw [List.map_fst_zip (by simp [hlen])]
        simp [Function.comp_def]
      have e2 : Cs I (((parts.toList.map (·.1)).zip ps).map (·.2)) ((parts.map fun (i, x) => (i, a.eval x)).toList.map (·.2)) := by
        rw [List.map_snd_zip (by simp [hlen])]
        simpa [Function.comp_def] using hC
      obtain ⟨r, hr, hl⟩ := fill_sound (I := I) (places := i.places) (cs := z) (by rw [← hzero]; exact hc0 _) e1 e2 hf
      refine ⟨.agg r, ?_, .agg hl⟩
      have hr' : Instr.fill (fun i => some (i * n, n)) z (parts.map fun (i, x) => (i, a.eval x)).toList = some r := by
        refine fill_mono (fun j q hq => ?_) hr
        rw [hpl, List.getElem?_map] at hq
        obtain ⟨k, hk, rfl⟩ := Option.map_eq_some_iff.1 hq
        obtain ⟨hk1, hk2⟩ := List.getElem?_eq_some_iff.1 hk
        simp at hk2
        rw [hk2]
      simp only [Instr.build, Sem.run_bind, run_zero_of hz, run_underlying hu, Result.andThen_ok, Value.cells, run_sizeOf_of hn, hr']
      rfl
    · cases hi
  · cases hi

theorem run_valA {o : Oper} {i : Inf} {tv : TV} (h : Sim w0 I0 I β κ s sav a w) (hi : infOk P o.op i = true) (hv : valA s o.op i = some tv) :
    ∃ v, (execOp a.eval o).run P w = .ok (.value v) w ∧ R I β κ (tkOf s.tk) tv v := by
  obtain ⟨dst, op, type, pos, after, guard⟩ := o
  simp only at hi hv
  unfold valA at hv
  split at hv
  · exact ⟨_, rfl, ev_R h hv⟩
  · exact ⟨_, rfl, ev_R h hv⟩
  · rename_i c x y
    split at hv
    · rename_i t ht
      have hc := (pv_C h ht).inv_s
      refine ⟨if t then a.eval x else a.eval y, ?_, ?_⟩
      · simp [execOp, hc, asBool]
      · cases t
        · simpa using ev_R h hv
        · simpa using ev_R h hv
    · cases hv
  · rename_i t x
    obtain ⟨p, h1, h2⟩ := Option.bind_eq_some_iff.1 hv
    simp only [infOk, Bool.and_eq_true, beq_iff_eq, Bool.or_eq_true] at hi
    have hone : i.agg = false → i.n = 1 := by
      intro e
      rcases hi.2 with e' | e'
      · rw [e] at e'; cases e'
      · exact e'
    obtain ⟨v, hr, hR⟩ := ldA_sound h hi.1.1 hi.1.2 hone h1 h2
    exact ⟨v, by simp [execOp, hr], hR⟩
  · rename_i t x f
    obtain ⟨p, h1, h2⟩ := Option.bind_eq_some_iff.1 hv
    simp only [infOk] at hi
    split at hi
    · rename_i fd hfd
      simp only [Bool.and_eq_true, beq_iff_eq] at hi
      obtain ⟨ho, hn⟩ := hi
      split at hn
      · rename_i n hn'
        obtain ⟨v, hr, hR⟩ := fieldAddr_sound (w := w) hfd ho hn' (by simpa using hn) (ev_R h h1) h2
        exact ⟨v, by simp [execOp, hr], hR⟩
      · cases hn
    · cases hi
  · rename_i t x f
    obtain ⟨p, h1, h2⟩ := Option.bind_eq_some_iff.1 hv
    simp only [infOk] at hi
    split at hi
    · rename_i fd hfd
      simp only [Bool.and_eq_true, beq_iff_eq] at hi
      obtain ⟨⟨ho, hA⟩, hS⟩ := hi
      have hC := pv_C h h1
      cases p with
      | agg l =>
        obtain ⟨cs, he, hcs⟩ := hC.inv_agg
        obtain ⟨v, hr, hR⟩ := part_sound (P := P) (w := w) (β := β) (κ := κ) (tk := tkOf s.tk) hA hS hcs h2
        obtain ⟨fs, hu, hfs⟩ := tField_of hfd
        rw [← ho] at hr
        exact ⟨v, by simp [execOp, Instr.field, run_underlying hu, hfs, he, asAgg, hr], hR⟩
      | _ => simp [fieldA] at h2
    · cases hi
  · rename_i t x k
    split at hv
    · rename_i p q hp hq
      simp only [infOk] at hi
      split at hi
      · rename_i h0
        rw [if_pos h0] at hv
        split at hi
        · rename_i e he
          simp only [beq_iff_eq] at hi
          obtain ⟨v, hr, hR⟩ := idxA_sound (P := P) (w := w) (β := β) (κ := κ) (tk := tkOf s.tk) he hi (ev_R h hp) (pv_C h hq) hv
          exact ⟨v, by simp [execOp, hr], hR⟩
        · cases hi
      · rename_i h0
        rw [if_neg h0] at hv
        split at hi
        · rename_i len e hu
          simp only [Bool.and_eq_true, beq_iff_eq] at hi
          obtain ⟨rfl, hi⟩ := hi
          obtain ⟨v, hr, hR⟩ := idxArr_sound (P := P) (w := w) (β := β) (κ := κ) (tk := tkOf s.tk) hu hi (ev_R h hp) (pv_C h hq) hv
          exact ⟨v, by simp [execOp, hr], hR⟩
        · cases hi
    · cases hv
  · rename_i t x k
    split at hv
    · rename_i p kk j hp hq
      split at hv
      · rename_i hj
        simp only [infOk] at hi
        split at hi
        · rename_i len e hu
          simp only [Bool.and_eq_true, beq_iff_eq] at hi
          obtain ⟨⟨hl, hA⟩, hS⟩ := hi
          have hC := pv_C h hp
          cases p with
          | agg l =>
            obtain ⟨cs, he, hcs⟩ := hC.inv_agg
            obtain ⟨v, hr, hR⟩ := part_sound (P := P) (w := w) (β := β) (κ := κ) (tk := tkOf s.tk) hA hS hcs hv
            have hk := (pv_C h hq).inv_s
            have hj' : 0 ≤ j ∧ j < (len : Int) := by rw [hl]; exact hj
            exact ⟨v, by simp [execOp, Instr.index, asIntOf, run_underlying hu, he, hk, hj', run_sizeOf_of hS, hr], hR⟩
          | _ => simp [fieldA] at hv
        · cases hi
      · cases hv
    · cases hv
  · rename_i op t x y yt
    split at hv
    · rename_i p q hp hq
      obtain ⟨r, h1, h2, hR⟩ := run_bin (P := P) (w := w) (x := x) (y := y) (ev_R h hp) (ev_R h hq) hv hi
      exact ⟨r, by simp [execOp, h1, h2], hR⟩
    · cases hv
  · rename_i op t x
    obtain ⟨p, h1, h2⟩ := Option.bind_eq_some_iff.1 hv
    obtain ⟨v, hr, hR⟩ := un_sound (P := P) (w := w) (β := β) (κ := κ) (tk := tkOf s.tk) (pv_C h h1) h2
    exact ⟨v, by simp [execOp, hr], hR⟩
  · rename_i t x
    obtain ⟨p, h1, rfl⟩ := Option.map_eq_some_iff.1 hv
    simp only [infOk] at hi
    refine ⟨.iface t (a.eval x), ?_, .v (.ifc (pv_C h h1))⟩
    cases hu : P.underlying t with
    | none => simp [hu] at hi
    | some d =>
      cases d <;> simp [hu] at hi <;> simp [execOp, Instr.makeInterface, run_underlying hu]
  · rename_i x k
    split at hv
    · rename_i l hl
      obtain ⟨y, hy, rfl⟩ := Option.map_eq_some_iff.1 hv
      have hC := pv_C h hl
      generalize he : a.eval x = u at hC
      cases hC with
      | @tup _ arr hcs =>
        obtain ⟨v, hv', hyv⟩ := hcs.get hy
        rw [Array.getElem?_toList] at hv'
        exact ⟨v, by simp [execOp, Instr.extract, he, hv'], .v hyv⟩
    · cases hv
  · rename_i fn first caps
    split at hv
    · rename_i hfirst
      obtain ⟨l, hl, rfl⟩ := Option.map_eq_some_iff.1 hv
      have e : first = #[] := by
        obtain ⟨first⟩ := first
        simpa using hfirst
      subst e
      refine ⟨.func fn #[] (caps.map a.eval), by simp [execOp, Instr.makeFunc], .v (.fn ?_)⟩
      simpa using caps_C h hl
    · cases hv
  · rename_i t parts
    split at hv
    · rename_i ps hp
      obtain ⟨l, hl, rfl⟩ := Option.map_eq_some_iff.1 hv
      obtain ⟨v, hr, hC⟩ := build_sound h hi hp hl
      exact ⟨v, by simp [execOp, hr], .v hC⟩
    · cases hv
  · rename_i t x lo hi' mx
    split at hv
    · rename_i ex els l hh m hp hl hhh hm
      obtain ⟨r, hr, rfl⟩ := Option.map_eq_some_iff.1 hv
      simp only [infOk] at hi
      split at hi
      · rename_i e he
        simp only [beq_iff_eq] at hi
        have hev : ∀ y p, pv s y = some p → C I p (a.eval y) := fun y p hy => pv_C h hy
        obtain ⟨v, hrun, hC⟩ := slice_sound (P := P) (w := w) he hi (pv_C h hp) (bnd_of (a := a) hl hev) (bnd_of (a := a) hhh hev) (bnd_of (a := a) hm hev) hr
        exact ⟨v, by simp [execOp, hrun], .v hC⟩
      · cases hi
    · rename_i base len cap l hh m hp hl hhh hm
      obtain ⟨r, hr, rfl⟩ := Option.map_eq_some_iff.1 hv
      simp only [infOk] at hi
      split at hi
      · rename_i e he
        simp only [beq_iff_eq] at hi
        have hev : ∀ y p, pv s y = some p → C I p (a.eval y) := fun y p hy => pv_C h hy
        obtain ⟨v, hrun, hC⟩ := sliceR_sound (P := P) (w := w) (I := I) he hi (bnd_of (a := a) hl hev) (bnd_of (a := a) hhh hev) (bnd_of (a := a) hm hev) hr
        exact ⟨v, by simp [execOp, (pv_C h hp).inv_s, hrun], .v hC⟩
      · cases hi
    · cases hv
  · rename_i src dst' x
    split at hv
    · rename_i kk n k hp hk
      cases hv
      simp only [infOk, hk] at hi
      split at hi
      · rename_i h1 h2 h3
        simp only [List.cons.injEq, Option.some.injEq, and_true] at h3
        simp only [beq_iff_eq] at hi
        subst h3
        subst hi
        have hx := (pv_C h hp).inv_s
        exact ⟨_, by simp [execOp, convert, run_underlying h1, run_underlying h2, hx, Conv.intToInt], .v (.s _)⟩
      · cases hi
    · cases hv
  · rename_i c
    obtain ⟨callee, args, argTypes⟩ := c
    split at hv
    · rename_i x hcal hargs
      simp only at hcal hargs
      subst hcal
      obtain ⟨p, h1, h2⟩ := Option.bind_eq_some_iff.1 hv
      simp only [infOk] at hi
      have ha : args = #[x] := by obtain ⟨args⟩ := args; simpa using hargs
      subst ha
      split at hi
      · rename_i t _ hts
        obtain ⟨e, he⟩ := Option.isSome_iff_exists.1 hi
        have hat : argTypes = #[t] := by obtain ⟨argTypes⟩ := argTypes; simpa using hts
        subst hat
        obtain ⟨v, hr, hR⟩ := len_sound (P := P) (w := w) (β := β) (κ := κ) (tk := tkOf s.tk) he (pv_C h h1) h2
        refine ⟨v, ?_, hR⟩
        have : (Builtin.len_ #[t] type #[a.eval x]).run P w = .ok v w := hr
        simp [execOp, resolve, invoke, builtin, this]
      · cases hi
      · rename_i h1 _
        exact (h1 rfl).elim
    · obtain ⟨r, hr, rfl⟩ := Option.map_eq_some_iff.1 hv
      obtain ⟨ps, hp, hx⟩ := Option.bind_eq_some_iff.1 hr
      rename_i hcal
      subst hcal
      have := extreme_sound (P := P) (w := w) true ps _ r (pvs_C h hp) hx argTypes type
      refine ⟨r, ?_, .v (.s r)⟩
      simp only [if_true] at this
      have e : (args.toList.map a.eval).toArray = args.map a.eval := by rw [← Array.toList_map, Array.toArray_toList]
      rw [e] at this
      simp [execOp, resolve, invoke, builtin, this]
    · obtain ⟨r, hr, rfl⟩ := Option.map_eq_some_iff.1 hv
      obtain ⟨ps, hp, hx⟩ := Option.bind_eq_some_iff.1 hr
      rename_i hcal
      subst hcal
      have := extreme_sound (P := P) (w := w) false ps _ r (pvs_C h hp) hx argTypes type
      refine ⟨r, ?_, .v (.s r)⟩
      simp only [Bool.false_eq_true, if_false] at this
      have e : (args.toList.map a.eval).toArray = args.map a.eval := by rw [← Array.toList_map, Array.toArray_toList]
      rw [e] at this
      simp [execOp, resolve, invoke, builtin, this]
    · cases hv
  · cases hv

end
end Go.Proofs.YtambpjbpdackfaaGreat.A


/- Operations that make or write memory of the call's own: 'stepA'. -/
set_option linter.unusedVariables false
set_option linter.unusedSimpArgs false
namespace Go.Proofs.YtambpjbpdackfaaGreat.A
open Go Go.RowKit

def putT (s : St) (dst : Option Nat) (t : TV) : St :=
  match dst with
  | some d => { s with tm := s.tm.set d t }
  | none => s

/-- The cells of a new variable: zeros; some of them rows to append to. -/
def zeroT (i : Inf) : List TV := i.acc.foldl (fun l p => l.set p.1 (.acc p.2 [])) (i.zero.map fun v => .v (.s v))

def newToks : List (Nat × Nat) → St → St
  | [], s => s
  | p :: l, s => newToks l (s.newTok p.2)

def cellsOf (n : Nat) : TV → Option (List TV)
  | .v p => if p.ok = true ∧ p.cells.length = n then some (p.cells.map .v) else none
  | .acc t els => if n = 1 then some [.acc t els] else none
  | .ptr b off => if n = 1 then some [.ptr b off] else none
  | .own _ _ => none

/-- Memory that may be written, written. -/
def stM (n off : Nat) (cs : List PV) (p : PV) : Option (List PV) := if p.ok = true ∧ p.cells.length = n ∧ off + n ≤ cs.length then some (cs.take off ++ p.cells ++ cs.drop (off + n)) else none

def storeA (s : St) (n : Nat) (x y : TV) : Option St :=
  match x with
  | .ptr b off => match lk b s.bx, cellsOf n y with
    | some cs, some xs => if off + xs.length ≤ cs.length then some { s with bx := upd b (cs.take off ++ xs ++ cs.drop (off + xs.length)) s.bx } else none
    | _, _ => none
  | .v (.s (.pointer (some ⟨c, off, none⟩))) => match s.mm c, tov y with
    | some cs, some p => (stM n off cs p).map fun cs' => { s with mm := s.mm.put c cs' }
    | _, _ => none
  | _ => none

def rowOf : PV → Option (List PV)
  | .sl _ els => some els
  | .s (.slice none 0 0) => some []
  | _ => none

/-- Is it a row of elements of n cells each, short enough? -/
def fits (n bytes : Nat) (els ys : List PV) : Bool :=
  els.all (fun e => e.ok && e.cells.length == n) && ys.all (fun e => e.ok && e.cells.length == n) && decide ((els.length + ys.length) * bytes ≤ 140737488355328)

def appA (s : St) (d : Nat) (i : Inf) (x : TV) (ys : List PV) : Option St :=
  match x with
  | .acc t els => if fits i.n i.t els ys = true ∧ els.length = tkOf s.tk t then some (putT { s with tk := upd t (els.length + ys.length) s.tk } (some d) (.acc t (els ++ ys))) else none
  | .v (.s (.slice none 0 0)) => if i.acc.isEmpty = true then none else if fits i.n i.t [] ys = true then some (putT { s.newTok d with tk := upd d ys.length (s.newTok d).tk } (some d) (.acc d ys)) else none
  | .v (.sl true els) => if fits i.n i.t els ys = true then
      (if i.acc.isEmpty then some (putT s (some d) (.v (.sl false (els ++ ys))))
       else if ys.isEmpty then none else some (putT { s.newTok d with tk := upd d (els.length + ys.length) (s.newTok d).tk } (some d) (.acc d (els ++ ys))))
      else none
  | _ => none

def stepA (s : St) (dst : Option Nat) (op : Op) (i : Inf) : Option St :=
  match op with
  | .alloc _ => match dst with
    | some d => if (lk d s.ro).isNone then some (putT ((newToks i.acc s).newBox d (zeroT i)) dst (.ptr d 0)) else none
    | none => none
  | .box _ x => match dst, ev s x with
    | some d, some t => if (lk d s.ro).isNone then (cellsOf i.n t).map fun cs => putT (s.newBox d cs) dst (.ptr d 0) else none
    | _, _ => none
  | .makeSlice _ l c => match dst, ev s l, ev s c with
    | some d, some (.v (.s (.int _ n))), some (.v (.s (.int _ m))) => if i.mc = 3 then none else if i.agg = true then (if n = m ∧ 0 ≤ n ∧ n * i.t ≤ 140737488355328 ∧ n ≤ 16777216 then some (putT s dst (.v (.sl true (List.replicate n.toNat (.s (i.zero.headD .nilFunc)))))) else none) else if n = m ∧ 0 ≤ n ∧ n * i.t ≤ 140737488355328 ∧ n ≤ 16777216 ∧ (lk d s.ro).isNone = true then some (putT (s.newBox d (List.replicate n.toNat (.v (.s (i.zero.headD .nilFunc))))) dst (.own d n.toNat)) else none
    | _, _, _ => none
  | .store _ x y => match ev s x, ev s y with
    | some p, some q => (storeA s i.n p q).map fun s' => putT s' dst (.v .junk)
    | _, _ => none
  | .buildSlice _ len parts => match pvs s (parts.toList.map (·.2)) with
    | some ps => if parts.toList.map (·.1) = List.range len ∧ ps.all (fun p => p.ok && p.cells.length == i.n) = true then some (putT s dst (.v (.sl true ps))) else none
    | none => none
  | .call c => match c.callee, c.args.toList, dst with
    | .builtin .append, [x, y], some d => match ev s x, (pv s y).bind rowOf with
      | some p, some ys => appA s d i p ys
      | _, _ => none
    | _, _, _ => (valA s op i).map (putT s dst)
  | .assign (.const (.slice none 0 0)) => match i.acc with
    | [] => (valA s op i).map (putT s dst)
    | p :: _ => some (putT (s.newTok p.2) dst (.acc p.2 []))
  | op => (valA s op i).map (putT s dst)

/-- What must be so of an operation's types. -/
def infOk' (P : Program) (op : Op) (i : Inf) : Bool :=
  match op with
  | .alloc t => (match tZero P t with
    | some z => constsEq z.cells.toList i.zero && i.acc.all (fun p => match i.zero[p.1]? with | some v => constEq v nilSlice | none => false)
    | none => false)
  | .box _ _ => true
  | .makeSlice t _ _ => (match tElem P t with
    | some e => if i.mc = 3 then tSize P e == some i.n && (P.info? e).map (·.bytes) == some i.t && i.n != 0 && (match tZero P e with | some z => constsEq z.cells.toList i.zero && i.zero.length == i.n | none => false) else tSize P e == some 1 && (P.info? e).map (·.bytes) == some i.t && (match tZero P e with | some z => constsEq z.cells.toList i.zero && i.zero.length == 1 | none => false)
    | none => false)
  | .store t _ _ => tSize P t == some i.n
  | .buildSlice t len _ => (match tElem P t with
    | some e => tSize P e == some i.n && i.n != 0 && decide (len * i.n ≤ 16777216) && (match tZero P e with | some z => z.cells.size == i.n | none => false)
    | none => false)
  | .call c => match c.callee, c.argTypes.toList with
    | .builtin .append, [t, t'] => (match tElem P t with
      | some e => (tElem P t').isSome && tSize P e == some i.n && i.t != 0 && (P.info? e).map (·.bytes) == some i.t && (match tZero P e with | some z => z.cells.size == i.n | none => false)
      | none => false)
    | .builtin .append, _ => false
    | .builtin .copy, [t, t'] => (match tElem P t with
      | some e => (tElem P t').isSome && tSize P e == some i.n
      | none => false)
    | .builtin .copy, _ => false
    | _, _ => infOk P op i
  | op => infOk P op i

section
variable {P : Program} {w0 : Bs} {w w' : World} {I0 I J : Imm} {β : Nat → Nat} {κ : Nat → Nat × Nat × Nat} {s : St} {sav : List (Array Value)} {a : Act} {tk : Nat → Nat}

theorem Sim.putT (h : Sim w0 I0 I β κ s sav a w) (d : Option Nat) {x : TV} {v : Value} (hx : R I β κ (tkOf s.tk) x v) : Sim w0 I0 I β κ (A.putT s d x) sav (a.put d v) w := by
  cases d with
  | none => exact h
  | some d => exact h.put d hx

theorem Sim.newToks (l : List (Nat × Nat)) : ∀ {s : St}, Sim w0 I0 I β κ s sav a w → Sim w0 I0 I β κ (A.newToks l s) sav a w := by
  induction l with
  | nil => exact fun h => h
  | cons p l ih => exact fun h => ih (h.newTok p.2)

theorem KeepsOthers.onlyAt {k : Nat} {cs : Array Value} {ty : TypeId} {fz : Nat × Nat} (h : OnlyAt k w w') (hc : w.heap[k]? = some (.cells cs ty fz)) : KeepsOthers w w' :=
  ⟨Nat.le_of_eq h.size.symm, fun j o hj ho => by
    by_cases e : j = k
    · subst e; rw [hc] at hj; cases hj; cases ho
    · exact (h.block j e).trans hj⟩

theorem OnlyAt.setRow (w : World) (g : Nat) (cs : Array Value) : OnlyAt g w (w.setRow g cs) :=
  ⟨rfl, rfl, rfl, by simp, fun j hj => setRow_other w g j cs hj⟩

theorem OnlyAt.setCells (b : Nat) : ∀ (vs : List Value) (o : Nat) (w : World), OnlyAt b w (w.setCells b o vs)
  | [], _, w => OnlyAt.refl b w
  | v :: r, o, w => (OnlyAt.setCell w ⟨b, o, none⟩ v).trans (OnlyAt.setCells b r (o + 1) _)

theorem setCell_heap (w : World) (b o : Nat) (v : Value) {cs : Array Value} {ty : TypeId} {fz : Nat × Nat} (h : w.heap[b]? = some (.cells cs ty fz)) : (w.setCell ⟨b, o, none⟩ v).heap[b]? = some (.cells (cs.setIfInBounds o v) ty fz) := by
  obtain ⟨hlt, hv⟩ := Array.getElem?_eq_some_iff.1 h
  show (w.heap.modify b _)[b]? = _
  rw [Array.getElem?_eq_getElem (by simpa using hlt), Array.getElem_modify_self, hv]
  simp

theorem setCells_heap (b : Nat) {ty : TypeId} {fz : Nat × Nat} : ∀ (vs : List Value) (o : Nat) (w : World) (cs : Array Value), w.heap[b]? = some (.cells cs ty fz) → o + vs.length ≤ cs.size →
    ∃ cs', (w.setCells b o vs).heap[b]? = some (.cells cs' ty fz) ∧ cs'.toList = cs.toList.take o ++ vs ++ cs.toList.drop (o + vs.length) ∧ cs'.size = cs.size
  | [], o, w, cs, h, _ => ⟨cs, h, by simp, rfl⟩
  | v :: r, o, w, cs, h, hl => by
    simp only [List.length_cons] at hl
    obtain ⟨cs', h1, h2, h3⟩ := setCells_heap b r (o + 1) _ _ (setCell_heap w b o v h) (by simp; omega)
    refine ⟨cs', h1, ?_, by simpa using h3⟩
    rw [h2, Array.toList_setIfInBounds]
    have hlt : o < cs.toList.length := by simp; omega
    rw [List.take_set, List.drop_set]
    have e1 : ¬ (o + 1 + r.length ≤ o) := by omega
    have e2 : List.take (o + 1) cs.toList = List.take o cs.toList ++ [cs.toList[o]] := by rw [List.take_succ_eq_append_getElem hlt]
    rw [e2]
    have e3 : (List.take o cs.toList ++ [cs.toList[o]]).set o v = List.take o cs.toList ++ [v] := by
      rw [List.set_append_right _ _ (by simp; omega)]
      have : o - (List.take o cs.toList).length = 0 := by simp; omega
      rw [this]
      rfl
    rw [e3]
    have e4 : o < o + 1 + r.length := by omega
    rw [if_pos e4]
    simp only [List.append_assoc, List.cons_append, List.nil_append, List.length_cons]
    congr 3
    congr 1
    omega

theorem Rs.zero (i : Inf) (hacc : i.acc.all (fun p => match i.zero[p.1]? with | some v => constEq v nilSlice | none => false) = true) : Rs I β κ tk (zeroT i) i.zero := by
  have key : ∀ (acc : List (Nat × Nat)) (l : List TV) (z : List Value), Rs I β κ tk l z → acc.all (fun p => match z[p.1]? with | some v => constEq v nilSlice | none => false) = true →
      Rs I β κ tk (acc.foldl (fun l p => l.set p.1 (.acc p.2 [])) l) z := by
    intro acc
    induction acc with
    | nil => exact fun l z h _ => h
    | cons p acc ih =>
      intro l z h ha
      simp only [List.all_cons, Bool.and_eq_true] at ha
      refine ih _ _ ?_ ha.2
      have h1 := ha.1
      split at h1
      · rename_i v hv
        have e := constEq_eq h1
        have := h.set p.1 (x := .acc p.2 []) (v := v) (by rw [e]; exact .acc0)
        have e2 : z.set p.1 v = z := by
          apply List.ext_getElem?
          intro j
          rw [List.getElem?_set]
          split
          · rename_i e'
            subst e'
            split
            · exact hv.symm
            · rename_i hlt
              rw [List.getElem?_eq_none (by omega)] at hv
              cases hv
          · rfl
        rwa [e2] at this
      · cases h1
  refine key _ _ _ ?_ hacc
  have : Cs I (i.zero.map .s) i.zero := by
    generalize i.zero = l
    induction l with
    | nil => exact .nil
    | cons x l ih => exact .cons (.s x) ih
  have h2 := Rs.of_Cs (β := β) (κ := κ) (tk := tk) this
  simpa [Function.comp_def] using h2

theorem constEq_one {v u : Value} (h : constEq v u = true) : u.oneCell' = true ∧ v.oneCell' = true := by
  have := constEq_eq h
  subst this
  unfold constEq at h
  split at h <;> first | exact ⟨rfl, rfl⟩ | cases h

theorem constsEq_one : ∀ {l m : List Value}, constsEq l m = true → ∀ v ∈ m, v.oneCell' = true
  | [], [], _ => by simp
  | a :: l, b :: m, h => by
    simp only [constsEq, Bool.and_eq_true] at h
    intro v hv
    rcases List.mem_cons.1 hv with rfl | hv
    · exact (constEq_one h.1).1
    · exact constsEq_one h.2 v hv
  | [], _ :: _, h => by simp [constsEq] at h
  | _ :: _, [], h => by simp [constsEq] at h

theorem cellsOf_sound {n : Nat} {t : TV} {u : Value} {cs : List TV} (h : R I β κ tk t u) (hc : cellsOf n t = some cs) : Rs I β κ tk cs u.cells.toList ∧ (∀ v ∈ u.cells.toList, v.oneCell' = true) ∧ cs.length = n := by
  cases t with
  | v p =>
    simp only [cellsOf] at hc
    split at hc
    · rename_i hok
      cases hc
      obtain ⟨h1, h2⟩ := h.inv.okCells hok.1
      exact ⟨Rs.of_Cs h1, h2, by simp [hok.2]⟩
    · cases hc
  | acc t els =>
    simp only [cellsOf] at hc
    split at hc
    · rename_i hn
      cases hc
      have : u.cells = #[u] ∧ u.oneCell' = true := by cases h <;> exact ⟨rfl, rfl⟩
      rw [this.1]
      exact ⟨.cons h .nil, by simpa using this.2, by simp [hn]⟩
    · cases hc
  | own => simp [cellsOf] at hc
  | ptr b off =>
    simp only [cellsOf] at hc
    split at hc
    · rename_i hn
      cases hc
      have : u.cells = #[u] ∧ u.oneCell' = true := by cases h; exact ⟨rfl, rfl⟩
      rw [this.1]
      exact ⟨.cons h .nil, by simpa using this.2, by simp [hn]⟩
    · cases hc

end
end Go.Proofs.YtambpjbpdackfaaGreat.A


/- What 'stepA' tells, the model does. -/
set_option linter.unusedVariables false
set_option linter.unusedSimpArgs false
namespace Go.Proofs.YtambpjbpdackfaaGreat.A
open Go Go.RowKit

section
variable {P : Program} {w0 : Bs} {w w' : World} {I0 I J : Imm} {β : Nat → Nat} {κ : Nat → Nat × Nat × Nat} {s s' : St} {sav : List (Array Value)} {a : Act} {tk : Nat → Nat}

/-- An operation goes through; the state behind it reads as s'. -/
def Goes (P : Program) (w0 : Bs) (I0 I : Imm) (sav : List (Array Value)) (o : Oper) (a : Act) (w : World) (s' : St) : Prop :=
  ∃ v w' J β' κ', ((execOp a.eval o).run P w = .ok (.value v) w' ∨ ((execOp a.eval o).run P w = .ok .skip w' ∧ v = undef)) ∧ I.le J ∧ KeepsOthers w w' ∧ Sim w0 I0 J β' κ' s' sav (a.put o.dst v) w'

theorem goes_val {o : Oper} {i : Inf} {tv : TV} (h : Sim w0 I0 I β κ s sav a w) (hi : infOk P o.op i = true) (hv : valA s o.op i = some tv) : Goes P w0 I0 I sav o a w (putT s o.dst tv) := by
  obtain ⟨v, hr, hR⟩ := run_valA h hi hv
  exact ⟨v, w, I, β, κ, .inl hr, Imm.le_refl _, KeepsOthers.refl _, h.putT o.dst hR⟩

theorem goes_map {o : Oper} {i : Inf} (h : Sim w0 I0 I β κ s sav a w) (hi : infOk P o.op i = true) (hv : (valA s o.op i).map (putT s o.dst) = some s') : Goes P w0 I0 I sav o a w s' := by
  obtain ⟨tv, h1, rfl⟩ := Option.map_eq_some_iff.1 hv
  exact goes_val h hi h1

theorem newToks_fields (l : List (Nat × Nat)) : ∀ (s : St), (newToks l s).ro = s.ro := by
  induction l with
  | nil => exact fun _ => rfl
  | cons p l ih => exact fun s => (ih (s.newTok p.2)).trans rfl

theorem goes_alloc {o : Oper} {i : Inf} {t : TypeId} (ho : o.op = .alloc t) (h : Sim w0 I0 I β κ s sav a w) (hi : infOk' P o.op i = true) (hs : stepA s o.dst o.op i = some s') : Goes P w0 I0 I sav o a w s' := by
  rw [ho] at hi hs
  simp only [infOk'] at hi
  simp only [stepA] at hs
  split at hi
  · rename_i z hz
    simp only [Bool.and_eq_true] at hi
    split at hs
    · rename_i d hd
      split at hs
      · rename_i hro
        cases hs
        have h1 := h.newToks i.acc
        have hzero := constsEq_eq hi.1
        have h2 := h1.newBox d (zeroT i) z.cells t (by rw [newToks_fields]; simpa using hro) (by rw [hzero]; exact Rs.zero i hi.2) (by rw [hzero]; exact constsEq_one hi.1)
        refine ⟨.pointer (some ⟨w.heap.size, 0, none⟩), w.alloc (.cells z.cells t), I, fun j => if j = d then w.heap.size else β j, κ, .inl ?_, Imm.le_refl _, KeepsOthers.alloc w _, ?_⟩
        · simp [execOp, ho, Instr.alloc, run_zero_of hz, newVar, newRow]
        · rw [hd]
          have hp : R I (fun j => if j = d then w.heap.size else β j) κ (tkOf ((newToks i.acc s).newBox d (zeroT i)).tk) (.ptr d 0) (.pointer (some ⟨(fun j => if j = d then w.heap.size else β j) d, 0, none⟩)) := .ptr
          simp only [if_true] at hp
          exact h2.put d hp
      · cases hs
    · cases hs
  · cases hi

theorem goes_box {o : Oper} {i : Inf} {t : TypeId} {x : Operand} (ho : o.op = .box t x) (h : Sim w0 I0 I β κ s sav a w) (hs : stepA s o.dst o.op i = some s') : Goes P w0 I0 I sav o a w s' := by
  rw [ho] at hs
  simp only [stepA] at hs
  split at hs
  · rename_i d tv hd hx
    split at hs
    · rename_i hro
      obtain ⟨cs, hcs, rfl⟩ := Option.map_eq_some_iff.1 hs
      obtain ⟨h1, h2, _⟩ := cellsOf_sound (ev_R h hx) hcs
      have h3 := h.newBox d cs (a.eval x).cells t (by simpa using hro) h1 h2
      refine ⟨.pointer (some ⟨w.heap.size, 0, none⟩), w.alloc (.cells (a.eval x).cells t), I, fun j => if j = d then w.heap.size else β j, κ, .inl ?_, Imm.le_refl _, KeepsOthers.alloc w _, ?_⟩
      · simp [execOp, ho, Instr.box, newVar, newRow]
      · rw [hd]
        have hp : R I (fun j => if j = d then w.heap.size else β j) κ (tkOf (s.newBox d cs).tk) (.ptr d 0) (.pointer (some ⟨(fun j => if j = d then w.heap.size else β j) d, 0, none⟩)) := .ptr
        simp only [if_true] at hp
        exact h3.put d hp
    · cases hs
  · cases hs

theorem goes_store {o : Oper} {i : Inf} {t : TypeId} {x y : Operand} (ho : o.op = .store t x y) (h : Sim w0 I0 I β κ s sav a w) (hi : infOk' P o.op i = true) (hs : stepA s o.dst o.op i = some s') : Goes P w0 I0 I sav o a w s' := by
  rw [ho] at hi hs
  simp only [infOk', beq_iff_eq] at hi
  simp only [stepA] at hs
  split at hs
  · rename_i p q hp hq
    obtain ⟨s1, h1, rfl⟩ := Option.map_eq_some_iff.1 hs
    unfold storeA at h1
    split at h1
    · rename_i b off
      split at h1
      · rename_i cells xs hb hxs
        split at h1
        · rename_i hlen
          cases h1
          obtain ⟨k1, k2, k3⟩ := cellsOf_sound (ev_R h hq) hxs
          obtain ⟨b1, b2, cs, ty, b3, b4, b5⟩ := h.box b cells hb
          have hxl : xs.length = (a.eval y).cells.toList.length := k1.length
          have hcl : cells.length = cs.toList.length := b4.length
          have haddr : a.eval x = .pointer (some ⟨β b, off, none⟩) := by
            have := ev_R h hp
            generalize a.eval x = u at this
            cases this
            rfl
          have hrun := run_storeCells_at (P := P) (β b) off ty (a.eval y).cells.toList 0 cs w b3 (by simp only [Array.length_toList] at hcl hxl ⊢; omega) k2
          simp only [Nat.add_zero] at hrun
          have honly := OnlyAt.setRow w (β b) (cs.toList.take off ++ (a.eval y).cells.toList ++ cs.toList.drop (off + (a.eval y).cells.toList.length)).toArray
          have hheap := setRow_heap w (β b) cs (cs.toList.take off ++ (a.eval y).cells.toList ++ cs.toList.drop (off + (a.eval y).cells.toList.length)).toArray ty (0, 0) b3
          have h2 := h.store hb honly hheap (cells' := cells.take off ++ xs ++ cells.drop (off + xs.length))
            (by simpa [hxl] using ((b4.take off).append k1).append (b4.drop (off + xs.length)))
            (by
              intro v hv
              simp only [List.mem_append] at hv
              rcases hv with (hv | hv) | hv
              · exact b5 v (List.mem_of_mem_take hv)
              · exact k2 v hv
              · exact b5 v (List.mem_of_mem_drop hv))
          refine ⟨undef, _, I, β, κ, .inr ⟨?_, rfl⟩, Imm.le_refl _, KeepsOthers.onlyAt honly b3, h2.putT o.dst (.v (.junk _))⟩
          have hsz : ¬ ((a.eval y).cells.size ≠ i.n) := by simp only [Array.length_toList] at hxl; omega
          simp only [execOp, ho, Instr.storeAt, haddr, Instr.sureAddr, storeVar, Sem.run_bind, Sem.run_pure, Result.andThen_ok, run_sizeOf_of hi, if_neg hsz, hrun]
        · cases h1
      · cases h1
    · rename_i c off
      split at h1
      · rename_i cells p hm hy
        obtain ⟨cs', hst, rfl⟩ := Option.map_eq_some_iff.1 h1
        unfold stM at hst
        split at hst
        · rename_i hcond
          obtain ⟨hok, hcl, hlen⟩ := hcond
          cases hst
          have hC := tov_C (ev_R h hq) hy
          obtain ⟨k1, k2⟩ := hC.okCells hok
          obtain ⟨_, _, cs, ty, b3, b4⟩ := h.mem c cells hm
          have hxl : p.cells.length = (a.eval y).cells.toList.length := k1.length
          have hcl' : cells.length = cs.toList.length := b4.length
          have haddr : a.eval x = .pointer (some ⟨c, off, none⟩) := (ev_R h hp).inv.inv_s
          have hrun := run_storeCells_at (P := P) c off ty (a.eval y).cells.toList 0 cs w b3 (by simp only [Array.length_toList] at hcl' hxl ⊢; omega) k2
          simp only [Nat.add_zero] at hrun
          have honly := OnlyAt.setRow w c (cs.toList.take off ++ (a.eval y).cells.toList ++ cs.toList.drop (off + (a.eval y).cells.toList.length)).toArray
          have hheap := setRow_heap w c cs (cs.toList.take off ++ (a.eval y).cells.toList ++ cs.toList.drop (off + (a.eval y).cells.toList.length)).toArray ty (0, 0) b3
          have h2 := h.memStore hm honly hheap (cells' := cells.take off ++ p.cells ++ cells.drop (off + i.n))
            (by rw [← hcl, hxl]; simpa using ((b4.take off).append k1).append (b4.drop (off + (a.eval y).cells.toList.length)))
          refine ⟨undef, _, I, β, κ, .inr ⟨?_, rfl⟩, Imm.le_refl _, KeepsOthers.onlyAt honly b3, h2.putT o.dst (.v (.junk _))⟩
          have hsz : ¬ ((a.eval y).cells.size ≠ i.n) := by simp only [Array.length_toList] at hxl; omega
          simp only [execOp, ho, Instr.storeAt, haddr, Instr.sureAddr, storeVar, Sem.run_bind, Sem.run_pure, Result.andThen_ok, run_sizeOf_of hi, if_neg hsz, hrun]
        · cases hst
      · cases h1
    · cases h1
  · cases hs

end
end Go.Proofs.YtambpjbpdackfaaGreat.A


/- A literal of a slice; append; the law of 'stepA'. -/
set_option linter.unusedVariables false
set_option linter.unusedSimpArgs false
namespace Go.Proofs.YtambpjbpdackfaaGreat.A
open Go Go.RowKit

section
variable {P : Program} {w0 : Bs} {w w' : World} {I0 I J : Imm} {β : Nat → Nat} {κ : Nat → Nat × Nat × Nat} {s s' : St} {sav : List (Array Value)} {a : Act} {tk : Nat → Nat}

/-- A new block that stays as it is, as far as it is told. -/
theorem Sim.newImm (h : Sim w0 I0 I β κ s sav a w) (cs : Array Value) (ty : TypeId) (k : Nat) (hone : ∀ v ∈ cs.toList.take k, v.oneCell' = true) :
    ∃ J, I.le J ∧ J w.heap.size = some (cs.toList.take k) ∧ Sim w0 I0 J β κ s sav a (w.alloc (.cells cs ty)) := by
  have hnone : I w.heap.size = none := Imm.none_new h.good (Nat.le_refl _)
  have hIJ : I.le (fun b => if b = w.heap.size then some (cs.toList.take k) else I b) := fun b arr hb => by
    by_cases e : b = w.heap.size
    · rw [e, hnone] at hb; cases hb
    · exact ⟨[], by simp [e, hb]⟩
  have hnew : (w.alloc (.cells cs ty)).heap[w.heap.size]? = some (.cells cs ty (0, 0)) := World.alloc_heap_new w _
  refine ⟨_, hIJ, by simp, h.grow ((Below.refl _ w).alloc (Nat.le_refl _) (.cells cs ty)) hIJ (fun b hb => ?_) (fun b arr hb => ?_)⟩
  · have : b ≠ w.heap.size := by omega
    simp [this]
  · by_cases e : b = w.heap.size
    · simp only [e, if_true, Option.some.injEq] at hb
      subst hb
      exact ⟨cs, ty, (0, 0), cs.toList.drop k, by rw [e]; exact hnew, (List.take_append_drop _ _).symm⟩
    · simp only [e, if_false] at hb
      exact (h.good.below ((Below.refl _ w).alloc (Nat.le_refl _) _)) b arr hb

theorem made_one {z0 : Value} {z : Array Value} (hz : z.toList = [z0]) (n : Nat) : (madeCells z n).toList = List.replicate n z0 := by
  have : z = #[z0] := by rw [← Array.toList_inj, hz]
  subst this
  apply List.ext_getElem
  · simp [madeCells]
  · intro i h1 h2
    simp [madeCells, Nat.mod_one]

theorem goes_make {o : Oper} {i : Inf} {t : TypeId} {l c : Operand} (ho : o.op = .makeSlice t l c) (h : Sim w0 I0 I β κ s sav a w) (hi : infOk' P o.op i = true) (hs : stepA s o.dst o.op i = some s') : Goes P w0 I0 I sav o a w s' := by
  rw [ho] at hi hs
  simp only [infOk'] at hi
  simp only [stepA] at hs
  split at hs
  · rename_i d k n k' m hd hl hc
    by_cases hmc : i.mc = 3
    · rw [if_pos hmc] at hs; cases hs
    simp only [if_neg hmc] at hi hs
    by_cases hagg : i.agg = true
    · rw [if_pos hagg] at hs
      split at hs
      · rename_i hcond
        obtain ⟨rfl, h0, hby, hbig⟩ := hcond
        cases hs
        split at hi
        · rename_i e he
          simp only [Bool.and_eq_true, beq_iff_eq] at hi
          obtain ⟨⟨h1, h2⟩, h3⟩ := hi
          split at h3
          · rename_i z hz
            simp only [Bool.and_eq_true, beq_iff_eq] at h3
            obtain ⟨h4, h5⟩ := h3
            obtain ⟨ti, hti, hzz⟩ := Option.bind_eq_some_iff.1 hz
            have hsz : ti.size = 1 := by simpa [tSize, hti] using h1
            have hbt : ti.bytes = i.t := by simpa [hti] using h2
            have hzero := constsEq_eq h4
            obtain ⟨z0, hz0⟩ : ∃ z0, i.zero = [z0] := by
              match hq : i.zero, h5 with
              | [x], _ => exact ⟨x, rfl⟩
            have e1 : a.eval l = .int k n := (ev_R h hl).inv.inv_s
            have e2 : a.eval c = .int k' n := (ev_R h hc).inv.inv_s
            have hrun := run_make (P := P) w t e ti z (run_underlying_elem he) hti hzz k k' n n h0 (Int.le_refl _) (by rw [hbt, Int.mul_comm]; omega) (by omega)
            rw [hsz, Nat.mul_one] at hrun
            have hcells : (madeCells z.cells n.toNat).toList = List.replicate n.toNat z0 := made_one (by rw [hzero, hz0]) _
            have hone : ∀ v ∈ (madeCells z.cells n.toNat).toList.take n.toNat, v.oneCell' = true := by
              rw [hcells]
              intro v hv
              rw [List.eq_of_mem_replicate (List.mem_of_mem_take hv)]
              exact constsEq_one h4 z0 (by rw [hz0]; simp)
            obtain ⟨J, hJ, hI, hS⟩ := h.newImm (madeCells z.cells n.toNat) e n.toNat hone
            rw [hcells, List.take_of_length_le (by simp)] at hI
            refine ⟨.slice (some ⟨w.heap.size, 0, none⟩) n.toNat n.toNat, w.alloc (.cells (madeCells z.cells n.toNat) e), J, β, κ, .inl ?_, hJ, KeepsOthers.alloc w _, ?_⟩
            · simp [execOp, ho, e1, e2, hrun]
            · rw [hd, hz0]
              have hfl : flat (List.replicate n.toNat (PV.s z0)) = List.replicate n.toNat (PV.s z0) := flat_cells (by simp [PV.one])
              have hcs : ∀ q : Nat, Cs J (List.replicate q (PV.s z0)) (List.replicate q z0) := fun q => by
                induction q with
                | zero => exact .nil
                | succ q ih => exact .cons (.s _) ih
              refine hS.put d (.v (.sl (sz := 1) hI (fun y hy => ?_) (by simp) ?_ ?_ (Nat.le_refl _) (fun _ => rfl)))
              · rw [List.eq_of_mem_replicate hy]
                rfl
              · rw [List.headD_cons, hfl, List.drop_zero, List.length_replicate, List.take_of_length_le (by simp)]
                exact hcs _
              · rw [List.headD_cons, hfl]
                simp
          · cases h3
        · cases hi
      · cases hs
    rw [if_neg hagg] at hs
    split at hs
    · rename_i hcond
      obtain ⟨rfl, h0, hby, hbig, hro⟩ := hcond
      cases hs
      split at hi
      · rename_i e he
        simp only [Bool.and_eq_true, beq_iff_eq] at hi
        obtain ⟨⟨h1, h2⟩, h3⟩ := hi
        split at h3
        · rename_i z hz
          simp only [Bool.and_eq_true, beq_iff_eq] at h3
          obtain ⟨h4, h5⟩ := h3
          obtain ⟨ti, hti, hzz⟩ := Option.bind_eq_some_iff.1 hz
          have hsz : ti.size = 1 := by simpa [tSize, hti] using h1
          have hbt : ti.bytes = i.t := by simpa [hti] using h2
          have hzero := constsEq_eq h4
          obtain ⟨z0, hz0⟩ : ∃ z0, i.zero = [z0] := by
            match hq : i.zero, h5 with
            | [x], _ => exact ⟨x, rfl⟩
          have e1 : a.eval l = .int k n := (ev_R h hl).inv.inv_s
          have e2 : a.eval c = .int k' n := (ev_R h hc).inv.inv_s
          have hrun := run_make (P := P) w t e ti z (run_underlying_elem he) hti hzz k k' n n h0 (Int.le_refl _) (by rw [hbt, Int.mul_comm]; omega) (by omega)
          rw [hsz, Nat.mul_one] at hrun
          have hcells : (madeCells z.cells n.toNat).toList = List.replicate n.toNat z0 := made_one (by rw [hzero, hz0]) _
          have hone : ∀ v ∈ (madeCells z.cells n.toNat).toList, v.oneCell' = true := by
            rw [hcells]
            intro v hv
            rw [List.eq_of_mem_replicate hv]
            exact constsEq_one h4 z0 (by rw [hz0]; simp)
          have hrs : Rs I β κ (tkOf s.tk) (List.replicate n.toNat (.v (.s (i.zero.headD .nilFunc)))) (madeCells z.cells n.toNat).toList := by
            rw [hcells, hz0]
            generalize n.toNat = q
            induction q with
            | zero => exact .nil
            | succ q ih => exact .cons (.v (.s _)) ih
          have h3 := h.newBox d _ (madeCells z.cells n.toNat) e (by simpa using hro) hrs hone
          refine ⟨.slice (some ⟨w.heap.size, 0, none⟩) n.toNat n.toNat, w.alloc (.cells (madeCells z.cells n.toNat) e), I, fun j => if j = d then w.heap.size else β j, κ, .inl ?_, Imm.le_refl _, KeepsOthers.alloc w _, ?_⟩
          · simp [execOp, ho, e1, e2, hrun]
          · rw [hd]
            have hp : R I (fun j => if j = d then w.heap.size else β j) κ (tkOf (s.newBox d (List.replicate n.toNat (.v (.s (i.zero.headD .nilFunc))))).tk) (.own d n.toNat) (.slice (some ⟨(fun j => if j = d then w.heap.size else β j) d, 0, none⟩) n.toNat n.toNat) := .own
            simp only [if_true] at hp
            exact h3.put d hp
        · cases h3
      · cases hi
    · cases hs
  · cases hs

theorem cs_flat : ∀ {ps : List PV} {vs : List Value}, Cs I ps vs → ps.all (fun p => p.ok) = true → Cs I (flat ps) (vs.flatMap fun v => v.cells.toList) ∧ ∀ u ∈ vs.flatMap (fun v => v.cells.toList), u.oneCell' = true
  | [], _, h, _ => by cases h; exact ⟨.nil, by simp⟩
  | p :: ps, _, h, hok => by
    cases h with
    | cons h1 h2 =>
      simp only [List.all_cons, Bool.and_eq_true] at hok
      obtain ⟨k1, k2⟩ := h1.okCells hok.1
      obtain ⟨g1, g2⟩ := cs_flat h2 hok.2
      refine ⟨by simpa [flat] using k1.append g1, fun u hu => ?_⟩
      simp only [List.flatMap_cons, List.mem_append] at hu
      rcases hu with hu | hu
      · exact k2 u hu
      · exact g2 u hu

theorem Cs.cells_size {n : Nat} : ∀ {ps : List PV} {vs : List Value}, Cs I ps vs → ps.all (fun p => p.ok && p.cells.length == n) = true → ∀ v ∈ vs, v.cells.size = n
  | [], _, h, _ => by cases h; simp
  | p :: ps, _, h, hok => by
    cases h with
    | cons h1 h2 =>
      simp only [List.all_cons, Bool.and_eq_true, beq_iff_eq] at hok
      intro v hv
      rcases List.mem_cons.1 hv with rfl | hv
      · have := (h1.okCells hok.1.1).1.length
        simp only [Array.length_toList] at this
        omega
      · exact Cs.cells_size h2 (by simpa using hok.2) v hv

theorem goes_lit {o : Oper} {i : Inf} {t : TypeId} {len : Nat} {parts : Array (Nat × Operand)} (ho : o.op = .buildSlice t len parts) (h : Sim w0 I0 I β κ s sav a w) (hi : infOk' P o.op i = true) (hs : stepA s o.dst o.op i = some s') :
    Goes P w0 I0 I sav o a w s' := by
  rw [ho] at hi hs
  simp only [infOk'] at hi
  simp only [stepA] at hs
  split at hi
  · rename_i e he
    simp only [Bool.and_eq_true, beq_iff_eq, bne_iff_ne, ne_eq, decide_eq_true_eq] at hi
    obtain ⟨⟨⟨hS, hn0⟩, hle⟩, hz⟩ := hi
    split at hz
    · rename_i z hz'
      simp only [beq_iff_eq] at hz
      split at hs
      · rename_i ps hps
        split at hs
        · rename_i hc
          obtain ⟨hidx, hall⟩ := hc
          cases hs
          have hC := pvs_C h hps
          have hpl : parts.size = len := by have := congrArg List.length hidx; simpa using this
          have hok : ps.all (fun p => p.ok) = true := by
            rw [List.all_eq_true] at hall ⊢
            intro p hp
            have := hall p hp
            simp only [Bool.and_eq_true] at this
            exact this.1
          have hun : ∀ p ∈ ps, p.cells.length = i.n := by
            rw [List.all_eq_true] at hall
            intro p hp
            have := hall p hp
            simp only [Bool.and_eq_true, beq_iff_eq] at this
            exact this.2
          have hvs : ∀ v ∈ (parts.toList.map (·.2)).map a.eval, v.cells.size = i.n := Cs.cells_size hC hall
          obtain ⟨k1, k2⟩ := cs_flat hC hok
          have hlen : ps.length = len := by have := hC.length; simpa [hpl] using this
          have hparts : (parts.map fun (j, x) => (j, a.eval x)).toList = ((((parts.toList.map (·.2)).map a.eval).zipIdx 0).map fun x => (x.2, x.1)) := by
            apply List.ext_getElem?
            intro j
            simp only [Array.toList_map, List.getElem?_map, List.getElem?_zipIdx, Array.getElem?_toList]
            have hj := congrArg (fun l => l[j]?) hidx
            simp only [List.getElem?_map, Array.getElem?_toList] at hj
            cases hp : parts[j]? with
            | none => simp
            | some p =>
              rw [hp] at hj
              obtain ⟨p1, p2⟩ := p
              simp only [Option.map_some] at hj ⊢
              have hlt : j < len := by rw [← hpl]; exact (Array.getElem?_eq_some_iff.1 hp).1
              rw [List.getElem?_range hlt] at hj
              cases hj
              simp
          have hfill := Go.Great.fill_whole (s := i.n) (Nat.pos_of_ne_zero hn0) ((parts.toList.map (·.2)).map a.eval) ((Array.range (len * i.n)).map (z.cells[· % z.cells.size]!)) hvs (by simp [hpl])
          rw [← hparts] at hfill
          generalize hcs : ((parts.toList.map (·.2)).map a.eval).flatMap (fun v => v.cells.toList) = fl at *
          have hfl : fl.length = len * i.n := by have := k1.length; rw [flat_length hun, hlen] at this; exact this.symm
          obtain ⟨J, hIJ, hJ, hsim⟩ := h.newImm fl.toArray e fl.length (by simpa using k2)
          have hJ' : J w.heap.size = some fl := by rw [hJ]; simp
          refine ⟨.slice (some ⟨w.heap.size, 0, none⟩) len len, w.alloc (.cells fl.toArray e), J, β, κ, .inl ?_, hIJ, KeepsOthers.alloc w _, hsim.putT o.dst (.v (.sl (sz := i.n) hJ' hun hlen.symm ?_ ?_ (by omega) (fun _ => rfl)))⟩
          · have hz0 : ¬ (len * i.n > 2 ^ 24) := by omega
            by_cases hl0 : len * i.n = 0
            · have : fl = [] := List.eq_nil_of_length_eq_zero (by omega)
              have hlen0 : len = 0 := by rcases Nat.mul_eq_zero.1 hl0 with h | h; · exact h
                                         · exact absurd h hn0
              have hp0 : (parts.map fun (j, x) => (j, a.eval x)).toList = [] := by apply List.eq_nil_of_length_eq_zero; simp [hpl, hlen0]
              simp only [execOp, ho, Instr.buildSlice, Sem.run_bind, run_underlying (run_underlying_elem he), Result.andThen_ok, run_sizeOf_of hS, if_neg hz0, hl0, if_true, Sem.run_pure, hp0, Instr.fill, this]
              simp [newRow]
              apply congrArg w.alloc
              apply congrArg (fun c => Obj.cells c e)
              apply Array.ext'
              simp
            · simp only [execOp, ho, Instr.buildSlice, Sem.run_bind, run_underlying (run_underlying_elem he), Result.andThen_ok, run_sizeOf_of hS, if_neg hz0, if_neg hl0, run_zero_of hz', Sem.run_pure, hfill]
              simp [newRow]
          · rw [List.drop_zero, flat_length hun, hlen, ← hfl, List.take_length]
            exact k1.mono hIJ
          · rw [flat_length hun, hlen]; omega
        · cases hs
      · cases hs
    · cases hz
  · cases hi

theorem goes_nilAcc {o : Oper} {i : Inf} (ho : o.op = .assign (.const (.slice none 0 0))) (h : Sim w0 I0 I β κ s sav a w) (hs : stepA s o.dst o.op i = some s') : Goes P w0 I0 I sav o a w s' := by
  rw [ho] at hs
  simp only [stepA] at hs
  split at hs
  · exact goes_map (o := o) (i := i) h (by rw [ho]; rfl) (by rw [ho]; exact hs)
  · rename_i p _ _
    cases hs
    exact ⟨.slice none 0 0, w, I, β, κ, .inl (by simp [execOp, ho, Act.eval]), Imm.le_refl _, KeepsOthers.refl _, (h.newTok p.2).putT o.dst .acc0⟩

theorem flat_ok {ys : List PV} (h : ∀ e ∈ ys, e.ok = true) : (flat ys).all PV.cell = true := by
  simp only [flat, List.all_eq_true, List.mem_flatMap]
  rintro x ⟨e, he, hx⟩
  have := h e he
  simp only [PV.ok, List.all_eq_true] at this
  exact this x hx

/-- A row of values, where it lies. -/
theorem src_of {y : Operand} {p : PV} {ys : List PV} {t' e' : TypeId} {n : Nat} (h : Sim w0 I0 I β κ s sav a w) (hp : pv s y = some p) (hr : rowOf p = some ys) (hu : ys.all (fun e => e.ok && e.cells.length == n) = true) (he : tElem P t' = some e') :
    ∃ news, Src P n t' (a.eval y) ys.length news w ∧ Cs I (flat ys) news := by
  have hC := pv_C h hp
  have hk := run_underlying_elem he
  have hun : ∀ e ∈ ys, e.cells.length = n := fun e he => by
    have := List.all_eq_true.1 hu e he
    simp only [Bool.and_eq_true, beq_iff_eq] at this
    exact this.2
  have hok : (flat ys).all PV.cell = true := flat_ok fun e he => by
    have := List.all_eq_true.1 hu e he
    simp only [Bool.and_eq_true, beq_iff_eq] at this
    exact this.1
  unfold rowOf at hr
  split at hr
  · rename_i ex els
    cases hr
    generalize hv : a.eval y = u at hC
    cases hC with
    | sl0 => exact ⟨[], Src.ofNil w hk 0, .nil⟩
    | sle => exact ⟨[], Src.ofSlice w hk _ 0 0 [] (by simp) (fun j u hj => by simp at hj) (fun u hu => by cases hu), .nil⟩
    | @sl _ _ b off m sz cap arr hI huu hm hc hl hcap hex =>
      subst hm
      have hfl := flat_length hun
      obtain ⟨cs, ty, fz, more, hw, hcs⟩ := h.good b arr hI
      refine ⟨(arr.drop off).take (flat ys).length, Src.ofSlice w hk ⟨b, off, none⟩ ys.length cap _ (by simp only [List.length_take, List.length_drop]; omega) ?_ (hc.cell hok), hc⟩
      intro j u hj
      rw [addr_add]
      exact cellsAt_of hw ⟨(flat ys).length, by rw [hcs, List.drop_append_of_le_length (by omega), List.take_append_of_le_length (by simp; omega)]⟩ j u hj
  · cases hr
    rw [hC.inv_s]
    exact ⟨[], Src.ofNil w hk 0, .nil⟩
  · cases hr

/-- What is asked of append's types. -/
structure AppTy (P : Program) (t t' e : TypeId) (z : Value) (ti : TypeInfo) (n bytes : Nat) : Prop where
  te : tElem P t = some e
  te' : ∃ e', tElem P t' = some e'
  info : P.info? e = some ti
  size : ti.size = n
  bts : ti.bytes = bytes
  zero : ti.zero = some z
  zsize : z.cells.size = n
  pos : bytes ≠ 0

theorem Sim.tkSame (h : Sim w0 I0 I β κ s sav a w) {l : List (Nat × Nat)} (hl : tkOf l = tkOf s.tk) : Sim w0 I0 I β κ { s with tk := l } sav a w :=
  { below := h.below, mem := h.mem, mbx := h.mbx, good := h.good, ext := h.ext, old := h.old, tm := by simp only [hl]; exact h.tm, sv := by simp only [hl]; exact h.sv, box := by simp only [hl]; exact h.box, rob := h.rob, inj := h.inj,
    tok := by simp only [hl]; exact h.tok, tinj := by simp only [hl]; exact h.tinj, dfr := h.dfr }

/-- append, where the row has to move: the new row, and what is known of it. -/
theorem run_grow {t t' e ty : TypeId} {z : Value} {ti : TypeInfo} {n bytes : Nat} (T : AppTy P t t' e z ti n bytes) {base : Option Addr} {len cap m : Nat} {olds news : List Value} {y : Value} (hs : Src P n t' y m news w)
    (hold : (Builtin.firstCells n len (.slice base len cap)).run P w.drew = .ok olds.toArray w.drew) (hg : cap < len + m) (hfit : (len + m) * bytes ≤ 140737488355328) (hol : olds.length = len * n) :
    ∃ cap' cs, (Builtin.append_ #[t, t'] ty #[.slice base len cap, y]).run P w = .ok (.slice (some ⟨w.heap.size, 0, none⟩) (len + m) cap') (w.drew.alloc (.cells cs e)) ∧ len + m ≤ cap' ∧ cs.size = cap' * n ∧
      cs.toList.take ((len + m) * n) = olds ++ news := by
  have hu := run_underlying_elem T.te
  have hb := T.pos
  have h63 : ((len + m : Nat) : Int) ≤ 9223372036854775807 := by
    have : (len + m) * 1 ≤ (len + m) * bytes := Nat.mul_le_mul_left _ (by omega)
    omega
  have hfit' := growslice_fits (bytes := bytes) hg hfit
  have hs' : Src P ti.size t' y m news w := by rw [T.size]; exact hs
  have hrun := run_append_grow_src w t t' ty e ti z hu T.info T.zero base len cap olds (by rw [T.size]; exact hold) y m news hs' hg h63 (by rw [T.bts]; exact hfit')
  have hge := grownCap_ge w (len + m) cap e
  have hnl := hs.newsLen
  refine ⟨_, _, hrun, hge, ?_, ?_⟩
  · simp only [Array.size_append, List.size_toArray, List.length_append, size_zeroCells, T.zsize, hol, hnl]
    rw [← Nat.add_mul, ← Nat.add_mul]
    congr 1
    omega
  · simp only [Array.toList_append, List.toList_toArray]
    rw [List.take_append_of_le_length (by simp only [List.length_append, hol, hnl]; rw [Nat.add_mul]; exact Nat.le_refl _), List.take_of_length_le (by simp only [List.length_append, hol, hnl]; rw [Nat.add_mul]; exact Nat.le_refl _)]

theorem KeepsOthers.drewAlloc (w : World) (o : Obj) : KeepsOthers w (w.drew.alloc o) := (KeepsOthers.drew w).trans (KeepsOthers.alloc _ _)

theorem fits_spec {n bytes : Nat} {els ys : List PV} (h : fits n bytes els ys = true) : (∀ e ∈ els, e.cells.length = n) ∧ ys.all (fun e => e.ok && e.cells.length == n) = true ∧ (∀ e ∈ ys, e.cells.length = n) ∧ (els.length + ys.length) * bytes ≤ 140737488355328 ∧ (flat els).all PV.cell = true := by
  simp only [fits, Bool.and_eq_true, decide_eq_true_eq] at h
  have key : ∀ l : List PV, l.all (fun e => e.ok && e.cells.length == n) = true → ∀ e ∈ l, e.ok = true ∧ e.cells.length = n := fun l hl e he => by
    have := List.all_eq_true.1 hl e he
    simpa only [Bool.and_eq_true, beq_iff_eq] using this
  exact ⟨fun e he => (key _ h.1.1 e he).2, h.1.2, fun e he => (key _ h.1.2 e he).2, h.2, flat_ok fun e he => (key _ h.1.1 e he).1⟩

theorem app_sound' {t t' e ty : TypeId} {z : Value} {ti : TypeInfo} {i : Inf} (T : AppTy P t t' e z ti i.n i.t) {d : Nat} {x y : Operand} {tv : TV} {ys : List PV} (h : Sim w0 I0 I β κ s sav a w) (hx : ev s x = some tv)
    (hS : ys.all (fun e => e.ok && e.cells.length == i.n) = true → ∃ news, Src P i.n t' (a.eval y) ys.length news w ∧ Cs I (flat ys) news) (hs : appA s d i tv ys = some s') :
    ∃ v w' J β' κ', (Builtin.append_ #[t, t'] ty #[a.eval x, a.eval y]).run P w = .ok v w' ∧ I.le J ∧ KeepsOthers w w' ∧ Sim w0 I0 J β' κ' s' sav (a.put (some d) v) w' := by
  have hR := ev_R h hx
  unfold appA at hs
  split at hs
  · -- a row that is being appended to
    rename_i tok els
    split at hs
    · rename_i hc
      obtain ⟨hfit, hcur⟩ := hc
      cases hs
      obtain ⟨hu1, hu2, hu3, hb, helsok⟩ := fits_spec hfit
      obtain ⟨news, hsrc, hnews⟩ := hS hu2
      generalize a.eval x = u at hR
      cases hR with
      | acc0 =>
        by_cases hy : ys = []
        · -- nothing to nothing
          subst hy
          have hn : news = [] := by cases hnews; rfl
          subst hn
          have hsl := hsrc.len w
          have hrun : (Builtin.append_ #[t, t'] ty #[.slice none 0 0, a.eval y]).run P w = .ok (.slice none 0 0) w := by
            have hfc : (Builtin.firstCells i.n 0 (a.eval y)).run P w = .ok #[] w := hsrc.cells
            have hln : (Builtin.lenOf (a.eval y)).run P w = .ok 0 w := hsl
            rcases hsrc.kind with ⟨e2, hk⟩ | hk <;> simp [Builtin.append_, run_underlying (run_underlying_elem T.te), run_underlying hk, sizeOf, typeInfo, T.info, hln, T.size, hfc]
          refine ⟨_, w, I, β, κ, hrun, Imm.le_refl _, KeepsOthers.refl _, ?_⟩
          have e1 : tkOf s.tk tok = 0 := by simpa using hcur.symm
          have h1 := h.tkSame (l := upd tok (0 + 0) s.tk) (funext fun j => by rw [tkOf_upd]; split <;> simp_all)
          exact h1.put d .acc0
        · have hpos : 0 < ys.length := List.length_pos_iff.2 hy
          obtain ⟨cap', cs, hrun, hcap, hcs, htake⟩ := run_grow (ty := ty) T (base := none) (len := 0) (cap := 0) (olds := []) hsrc (by simpa using run_firstCells_none (P := P) w.drew i.n 0 0 0) (by omega) (by simpa using hb) (by simp)
          have e1 : tkOf s.tk tok = 0 := by simpa using hcur.symm
          obtain ⟨J, κ', hIJ, hsim, hacc⟩ := h.drew.ownNew tok ys.length cap' i.n ys cs e rfl (by omega) hcs (by omega) hu3
            (by rw [flat_length hu3]; simp only [Nat.zero_add, List.nil_append] at htake; rw [htake]; exact hnews)
            (by simp only [Nat.zero_add, List.nil_append] at htake; rw [htake]; exact hsrc.one)
          refine ⟨_, _, J, β, κ', hrun, hIJ, KeepsOthers.drewAlloc w _, ?_⟩
          simpa [A.putT] using hsim.put d (by simpa using hacc)
      | @acc _ _ c m cap sz g1 g2 g3 g4 g5 g6 =>
        subst g2
        have hκ := g6 hcur
        have hsz : sz = i.n := by
          obtain ⟨arr, _, q2, _⟩ := g4
          obtain ⟨e1, he1⟩ := List.exists_mem_of_ne_nil els g1
          rw [← q2 e1 he1, hu1 e1 he1]
        subst hsz
        have hlen0 : 0 < els.length := List.length_pos_iff.2 g1
        obtain ⟨_, cs, ty0, arr, c2, c3, c4, c5, c6⟩ := h.tok tok (by omega)
        rw [hκ] at c2 c3 c4 c5 c6
        simp only at c2 c3 c4 c5 c6
        rw [← hcur] at c5
        obtain ⟨cs1, ty1, fz1, more1, q1, q2⟩ := h.good c arr c4
        rw [c2] at q1
        cases q1
        have hT : P.underlying t = some (.slice e) := run_underlying_elem T.te
        have hsrc' : Src P ti.size t' (a.eval y) ys.length news w := by rw [T.size]; exact hsrc
        have hnl := hsrc.newsLen
        by_cases hroom : els.length + ys.length ≤ cap
        · have hmul : (els.length + ys.length) * i.n ≤ cap * i.n := Nat.mul_le_mul_right _ hroom
          rw [Nat.add_mul] at hmul
          have hrun := run_append_room_src w t t' ty e ti hT T.info c 0 els.length cap (a.eval y) ys.length news hsrc' hroom
            (fun j hj => by
              have : els.length * ti.size + j < cs.size := by rw [T.size, c3]; omega
              simp [World.cell?, c2, this])
            (fun j hj => by simp [World.frozen?, c2])
          rw [T.size] at hrun
          simp only [Nat.zero_add] at hrun
          by_cases hy : ys = []
          · subst hy
            have hn0 : news = [] := List.eq_nil_of_length_eq_zero (by simpa using hnl)
            subst hn0
            refine ⟨_, w, I, β, κ, hrun, Imm.le_refl _, KeepsOthers.refl _, ?_⟩
            have h1 := h.tkSame (l := upd tok (els.length + 0) s.tk) (funext fun j => by rw [tkOf_upd]; split <;> simp_all)
            have h2 := h1.put d (x := .acc tok (els ++ [])) (v := .slice (some ⟨c, 0, none⟩) (els.length + 0) cap)
              (by
                have e1 : tkOf (upd tok (els.length + 0) s.tk) = tkOf s.tk := funext fun j => by rw [tkOf_upd]; split <;> simp_all
                have hacc : R I β κ (tkOf s.tk) (.acc tok els) (.slice (some ⟨c, 0, none⟩) els.length cap) := .acc g1 rfl g3 g4 g5 g6
                show R I β κ (tkOf (upd tok (els.length + 0) s.tk)) _ _
                rw [e1, List.append_nil]
                exact hacc)
            exact h2
          · obtain ⟨cs', w1, w2, w3⟩ := setCells_heap c news (els.length * i.n) w cs c2 (by rw [c3, hnl]; omega)
            obtain ⟨J, κ', hIJ, hsim, hacc⟩ := h.ownGrow (ys := ys) (new := news) hcur.symm g1 hy rfl hκ hroom g4 hu3 hnews c2 (OnlyAt.setCells c news _ w) w1 w3 ⟨_, w2⟩ hsrc.one
            exact ⟨_, _, J, β, κ', hrun, hIJ, KeepsOthers.onlyAt (OnlyAt.setCells c news _ w) c2, hsim.put d hacc⟩
        · have hcells : ∀ j v, arr[j]? = some v → w.drew.cell? ((⟨c, 0, none⟩ : Addr).add j) = some v := fun j v hj => by
            rw [addr_add]
            show w.cell? _ = _
            exact cellsAt_of c2 ⟨arr.length, by rw [List.drop_zero, q2, List.take_left]⟩ j v hj
          obtain ⟨cap', cs', hrun, hcap, hcs, htake⟩ := run_grow (ty := ty) T (base := some ⟨c, 0, none⟩) (len := els.length) (cap := cap) (olds := arr) hsrc (run_firstCells_some (P := P) w.drew i.n els.length ⟨c, 0, none⟩ els.length cap arr c5 hcells) (by omega) hb c5
          have hun : ∀ x ∈ els ++ ys, x.cells.length = i.n := fun x hx => by
            rcases List.mem_append.1 hx with hx | hx
            · exact hu1 x hx
            · exact hu3 x hx
          have hcf : Cs I (flat (els ++ ys)) (arr ++ news) := by
            rw [flat_append]
            obtain ⟨arr', r1, r2, r3, r4⟩ := g4
            rw [c4] at r1
            cases r1
            have : arr.take (flat els).length = arr := List.take_of_length_le (by rw [flat_length hu1]; omega)
            rw [this] at r3
            exact r3.append hnews
          have harrone : ∀ v ∈ arr, v.oneCell' = true := by
            obtain ⟨arr', r1, r2, r3, r4⟩ := g4
            rw [c4] at r1
            cases r1
            have : arr.take (flat els).length = arr := List.take_of_length_le (by rw [flat_length hu1]; omega)
            rw [this] at r3
            exact r3.cell helsok
          have hy : 0 < ys.length := by omega
          obtain ⟨J, κ', hIJ, hsim, hacc⟩ := h.drew.ownNew tok (els.length + ys.length) cap' i.n (els ++ ys) cs' e (by simp) (by omega) hcs hcap hun
            (by rw [flat_length hun, List.length_append, htake]; exact hcf)
            (by rw [htake]; intro v hv; rcases List.mem_append.1 hv with hv | hv
                · exact harrone v hv
                · exact hsrc.one v hv)
          exact ⟨_, _, J, β, κ', hrun, hIJ, KeepsOthers.drewAlloc w _, hsim.put d hacc⟩
    · cases hs
  · -- nil
    split at hs
    · cases hs
    split at hs
    · rename_i hfit
      cases hs
      obtain ⟨_, hu2, hu3, hb, _⟩ := fits_spec hfit
      obtain ⟨news, hsrc, hnews⟩ := hS hu2
      have hx0 := hR.inv.inv_s
      rw [hx0]
      have h1 := h.newTok d
      have e1 : tkOf (s.newTok d).tk d = 0 := by simp [St.newTok, tkOf_upd]
      by_cases hy : ys = []
      · subst hy
        have hn : news = [] := by cases hnews; rfl
        subst hn
        have hrun : (Builtin.append_ #[t, t'] ty #[.slice none 0 0, a.eval y]).run P w = .ok (.slice none 0 0) w := by
          have hfc : (Builtin.firstCells i.n 0 (a.eval y)).run P w = .ok #[] w := hsrc.cells
          have hln : (Builtin.lenOf (a.eval y)).run P w = .ok 0 w := hsrc.len w
          rcases hsrc.kind with ⟨e2, hk⟩ | hk <;> simp [Builtin.append_, run_underlying (run_underlying_elem T.te), run_underlying hk, sizeOf, typeInfo, T.info, hln, T.size, hfc]
        refine ⟨_, w, I, β, κ, hrun, Imm.le_refl _, KeepsOthers.refl _, ?_⟩
        have h2 := h1.tkSame (l := upd d 0 (s.newTok d).tk) (funext fun j => by rw [tkOf_upd]; split <;> simp_all)
        exact h2.put d .acc0
      · have hpos : 0 < ys.length := List.length_pos_iff.2 hy
        obtain ⟨cap', cs, hrun, hcap, hcs, htake⟩ := run_grow (ty := ty) T (base := none) (len := 0) (cap := 0) (olds := []) hsrc (by simpa using run_firstCells_none (P := P) w.drew i.n 0 0 0) (by omega) (by simpa using hb) (by simp)
        simp only [Nat.zero_add, List.nil_append] at htake hrun hcap
        obtain ⟨J, κ', hIJ, hsim, hacc⟩ := h1.drew.ownNew d ys.length cap' i.n ys cs e rfl (by omega) hcs hcap hu3
          (by rw [flat_length hu3, htake]; exact hnews) (by rw [htake]; exact hsrc.one)
        exact ⟨_, _, J, β, κ', hrun, hIJ, KeepsOthers.drewAlloc w _, hsim.put d hacc⟩
    · cases hs
  · -- a slice that ends where its block does
    rename_i els
    split at hs
    · rename_i hfit
      obtain ⟨hu1, hu2, hu3, hb, helsok⟩ := fits_spec hfit
      obtain ⟨news, hsrc, hnews⟩ := hS hu2
      have hC := hR.inv
      have hT : P.underlying t = some (.slice e) := run_underlying_elem T.te
      -- what the old slice is
      obtain ⟨base, olds, hxe, hol, hcf, hold, hone⟩ : ∃ base olds, a.eval x = .slice base els.length els.length ∧ olds.length = els.length * i.n ∧ Cs I (flat els) olds ∧
          (Builtin.firstCells i.n els.length (.slice base els.length els.length)).run P w.drew = .ok olds.toArray w.drew ∧ ∀ v ∈ olds, v.oneCell' = true := by
        generalize a.eval x = u at hC
        cases hC with
        | sl0 => exact ⟨none, [], rfl, by simp, .nil, by simpa using run_firstCells_none (P := P) w.drew i.n 0 0 0, by simp⟩
        | @sle _ ad => exact ⟨some ad, [], rfl, by simp, .nil, run_firstCells_some (P := P) w.drew i.n 0 ad 0 0 [] (by simp) (fun j v hj => by simp at hj), by simp⟩
        | @sl _ _ b off m sz cap arr hI huu hm hc hl hcap hex =>
          subst hm
          have hc1 := hex rfl
          subst hc1
          obtain ⟨cs1, ty1, fz1, more1, q1, q2⟩ := h.good b arr hI
          have hfl := flat_length hu1
          refine ⟨some ⟨b, off, none⟩, (arr.drop off).take (flat els).length, rfl, by simp only [List.length_take, List.length_drop]; omega, hc, ?_, hc.cell helsok⟩
          refine run_firstCells_some (P := P) w.drew i.n els.length ⟨b, off, none⟩ els.length els.length _ (by simp only [List.length_take, List.length_drop]; omega) (fun j v hj => ?_)
          rw [addr_add]
          show w.cell? _ = _
          exact cellsAt_of q1 ⟨(flat els).length, by rw [q2, List.drop_append_of_le_length (by omega), List.take_append_of_le_length (by simp; omega)]⟩ j v hj
      have hun : ∀ x ∈ els ++ ys, x.cells.length = i.n := fun x hx => by
        rcases List.mem_append.1 hx with hx | hx
        · exact hu1 x hx
        · exact hu3 x hx
      have hcfl : Cs I (flat (els ++ ys)) (olds ++ news) := by rw [flat_append]; exact hcf.append hnews
      have hallone : ∀ v ∈ olds ++ news, v.oneCell' = true := fun v hv => by
        rcases List.mem_append.1 hv with hv | hv
        · exact hone v hv
        · exact hsrc.one v hv
      by_cases hy : ys = []
      · subst hy
        split at hs
        · cases hs
          have hn : news = [] := by cases hnews; rfl
          subst hn
          have hfc : (Builtin.firstCells i.n 0 (a.eval y)).run P w = .ok #[] w := hsrc.cells
          have hln : (Builtin.lenOf (a.eval y)).run P w = .ok 0 w := hsrc.len w
          have hrun : (Builtin.append_ #[t, t'] ty #[a.eval x, a.eval y]).run P w = .ok (a.eval x) w := by
            rw [hxe]
            rcases hsrc.kind with ⟨e2, hk⟩ | hk <;> cases base <;> simp [Builtin.append_, run_underlying hT, run_underlying hk, sizeOf, typeInfo, T.info, hln, T.size, hfc, storeCells]
          refine ⟨_, w, I, β, κ, hrun, Imm.le_refl _, KeepsOthers.refl _, h.putT (some d) (.v ?_)⟩
          simp only [List.append_nil]
          clear hrun hxe
          generalize a.eval x = u at hC
          cases hC with
          | sl0 => exact .sl0
          | sle => exact .sle
          | sl k1 k2 k3 k4 k5 k6 k7 => exact .sl k1 k2 k3 k4 k5 k6 (fun h => by cases h)
        · simp at hs
      · have hpos : 0 < ys.length := List.length_pos_iff.2 hy
        obtain ⟨cap', cs, hrun, hcap, hcs, htake⟩ := run_grow (ty := ty) T (base := base) (len := els.length) (cap := els.length) (olds := olds) hsrc hold (by omega) hb hol
        rw [← hxe] at hrun
        split at hs
        · cases hs
          obtain ⟨J, hIJ, hJ, hsim⟩ := h.drew.newImm cs e ((els.length + ys.length) * i.n) (by rw [htake]; exact hallone)
          rw [htake] at hJ
          have hfl := flat_length hun
          have hlen : (olds ++ news).length = (els.length + ys.length) * i.n := by rw [← hcfl.length, hfl, List.length_append]
          refine ⟨_, _, J, β, κ, hrun, hIJ, KeepsOthers.drewAlloc w _, hsim.putT (some d) (.v (.sl hJ hun (by simp) ?_ ?_ hcap (fun h => by cases h)))⟩
          · rw [List.drop_zero, hfl, List.length_append, ← hlen, List.take_length]
            exact hcfl.mono hIJ
          · rw [hfl, hlen, List.length_append]; omega
        · split at hs
          · cases hs
          · cases hs
            have h1 := h.newTok d
            have e1 : tkOf (s.newTok d).tk d = 0 := by simp [St.newTok, tkOf_upd]
            obtain ⟨J, κ', hIJ, hsim, hacc⟩ := h1.drew.ownNew d (els.length + ys.length) cap' i.n (els ++ ys) cs e (by simp) (by omega) hcs hcap hun
              (by rw [flat_length hun, List.length_append, htake]; exact hcfl) (by rw [htake]; exact hallone)
            exact ⟨_, _, J, β, κ', hrun, hIJ, KeepsOthers.drewAlloc w _, hsim.put d hacc⟩
    · cases hs
  · cases hs


theorem app_sound {t t' e ty : TypeId} {z : Value} {ti : TypeInfo} {i : Inf} (T : AppTy P t t' e z ti i.n i.t) {d : Nat} {x y : Operand} {tv : TV} {p : PV} {ys : List PV} (h : Sim w0 I0 I β κ s sav a w) (hx : ev s x = some tv) (hp : pv s y = some p)
    (hr : rowOf p = some ys) (hs : appA s d i tv ys = some s') :
    ∃ v w' J β' κ', (Builtin.append_ #[t, t'] ty #[a.eval x, a.eval y]).run P w = .ok v w' ∧ I.le J ∧ KeepsOthers w w' ∧ Sim w0 I0 J β' κ' s' sav (a.put (some d) v) w' := by
  obtain ⟨e', he'⟩ := T.te'
  exact app_sound' T h hx (fun hu => src_of h hp hr hu he') hs

end
end Go.Proofs.YtambpjbpdackfaaGreat.A


/- The law of 'stepA'. -/
set_option linter.unusedVariables false
set_option linter.unusedSimpArgs false
namespace Go.Proofs.YtambpjbpdackfaaGreat.A
open Go Go.RowKit

section
variable {P : Program} {w0 : Bs} {w w' : World} {I0 I J : Imm} {β : Nat → Nat} {κ : Nat → Nat × Nat × Nat} {s s' : St} {sav : List (Array Value)} {a : Act} {tk : Nat → Nat}

theorem goes_call {o : Oper} {i : Inf} {c : Call} (ho : o.op = .call c) (h : Sim w0 I0 I β κ s sav a w) (hi : infOk' P o.op i = true) (hs : stepA s o.dst o.op i = some s') : Goes P w0 I0 I sav o a w s' := by
  obtain ⟨callee, args, argTypes⟩ := c
  rw [ho] at hi hs
  by_cases hap : callee = .builtin .append
  · subst hap
    simp only [infOk'] at hi
    simp only [stepA] at hs
    split at hs
    · rename_i x y d hc hargs hd
      split at hs
      · rename_i tv ys hx hy
        obtain ⟨p, hp, hr⟩ := Option.bind_eq_some_iff.1 hy
        split at hi
        · rename_i t t' _ hts
          split at hi
          · rename_i e he
            simp only [Bool.and_eq_true, beq_iff_eq, bne_iff_ne, ne_eq] at hi
            obtain ⟨⟨⟨⟨h1, h2⟩, h3⟩, h4⟩, h5⟩ := hi
            split at h5
            · rename_i z hz
              simp only [beq_iff_eq] at h5
              obtain ⟨ti, hti, hzz⟩ := Option.bind_eq_some_iff.1 hz
              have T : AppTy P t t' e z ti i.n i.t :=
                { te := he, te' := Option.isSome_iff_exists.1 h1, info := hti, size := by simpa [tSize, hti] using h2, bts := by simpa [hti] using h4, zero := hzz, zsize := h5, pos := h3 }
              obtain ⟨v, w', J, β', κ', hrun, hIJ, hk, hsim⟩ := app_sound (ty := o.type) T h hx hp hr hs
              have ha : args = #[x, y] := by obtain ⟨args⟩ := args; simpa using hargs
              have hat : argTypes = #[t, t'] := by obtain ⟨argTypes⟩ := argTypes; simpa using hts
              subst ha
              subst hat
              exact ⟨v, w', J, β', κ', .inl (by simp [execOp, ho, resolve, invoke, builtin, hrun]), hIJ, hk, by rw [hd]; exact hsim⟩
            · cases h5
          · cases hi
        · cases hi
        all_goals first | (simp_all; done) | (rename_i e _; cases e)
      · cases hs
    · exfalso
      obtain ⟨tv, h1, _⟩ := Option.map_eq_some_iff.1 hs
      simp [valA] at h1
  · by_cases hcp : callee = .builtin .copy
    · subst hcp
      exfalso
      have e1 : stepA s o.dst (.call ⟨.builtin .copy, args, argTypes⟩) i = (valA s (.call ⟨.builtin .copy, args, argTypes⟩) i).map (putT s o.dst) := by
        simp only [stepA]
      rw [e1] at hs
      obtain ⟨tv, h1, _⟩ := Option.map_eq_some_iff.1 hs
      simp [valA] at h1
    have e1 : stepA s o.dst (.call ⟨callee, args, argTypes⟩) i = (valA s (.call ⟨callee, args, argTypes⟩) i).map (putT s o.dst) := by
      simp only [stepA]
      split <;> simp_all
    have e2 : infOk' P (.call ⟨callee, args, argTypes⟩) i = infOk P (.call ⟨callee, args, argTypes⟩) i := by
      simp only [infOk']
      split <;> simp_all
    rw [e1] at hs
    rw [e2] at hi
    exact goes_map (o := o) (i := i) h (by rw [ho]; exact hi) (by rw [ho]; exact hs)

theorem goes_step {o : Oper} {i : Inf} (h : Sim w0 I0 I β κ s sav a w) (hi : infOk' P o.op i = true) (hs : stepA s o.dst o.op i = some s') : Goes P w0 I0 I sav o a w s' := by
  cases ho : o.op with
  | alloc t => exact goes_alloc ho h hi hs
  | box t x => exact goes_box ho h hs
  | makeSlice t l c => exact goes_make ho h hi hs
  | store t x y => exact goes_store ho h hi hs
  | buildSlice t len parts => exact goes_lit ho h hi hs
  | call c => exact goes_call ho h hi hs
  | assign x =>
    by_cases hx : x = .const (.slice none 0 0)
    · subst hx; exact goes_nilAcc ho h hs
    · rw [ho] at hi hs
      refine goes_map (o := o) (i := i) h (by rw [ho]; exact hi) ?_
      rw [ho]
      unfold stepA at hs
      split at hs <;> first | exact hs | (rename_i e; cases e) | skip
      · exact absurd rfl hx
  | _ =>
    rw [ho] at hi hs
    exact goes_map (o := o) (i := i) h (by rw [ho]; exact hi) (by rw [ho]; exact hs)

end
end Go.Proofs.YtambpjbpdackfaaGreat.A


