/- Values of a run, told without memory: 'PV' (slices and closures by what they hold), and when a value of the model reads as one ('C'), given what is known never to change ('Imm'). -/
import Derived.CallsIn
import Derived.RangeFuncNested
import Derived.RangeFuncLeaves
import Derived.Below
import Derived.KernelRfl
set_option linter.unusedVariables false
set_option linter.unusedSimpArgs false
namespace Go.Proofs.Ytnfomjnmigkpmaa.A
open Go Go.RowKit

/-- A value, told by what it holds. -/
inductive PV where
  | s (v : Value)
  | agg (l : List PV)
  | tup (l : List PV)
  | sl (ex : Bool) (els : List PV)
  | vp (cells : List PV)
  | fn (f : Fn) (cap : List PV)
  | ifc (t : TypeId) (x : PV)
  | junk
  deriving Inhabited

def PV.cells : PV → List PV
  | .agg l => l
  | x => [x]

/-- Is it one cell, that is no struct? -/
def PV.one : PV → Bool
  | .agg _ => false
  | _ => true

/-- All cells of a row of elements. -/
def flat (els : List PV) : List PV := els.flatMap PV.cells

/-- Of some blocks: the first cells, which stay. -/
abbrev Imm := Nat → Option (List Value)

mutual
/-- The model's value v is what the told one says. -/
inductive C (I : Imm) : PV → Value → Prop
  | s (v : Value) : C I (.s v) v
  | junk (v : Value) : C I .junk v
  | agg {l : List PV} {a : Array Value} : Cs I l a.toList → C I (.agg l) (.agg a)
  | tup {l : List PV} {a : Array Value} : Cs I l a.toList → C I (.tup l) (.tuple a)
  | sl {ex : Bool} {els : List PV} {b off n sz cap : Nat} {arr : List Value} : I b = some arr → (∀ e ∈ els, e.cells.length = sz) → n = els.length →
      Cs I (flat els) ((arr.drop off).take (flat els).length) → off + (flat els).length ≤ arr.length → n ≤ cap → (ex = true → cap = n) → C I (.sl ex els) (.slice (some ⟨b, off, none⟩) n cap)
  | sl0 {ex : Bool} : C I (.sl ex []) (.slice none 0 0)
  | sle {ex : Bool} {a : Addr} : C I (.sl ex []) (.slice (some a) 0 0)
  | vp {cells : List PV} {b off : Nat} {arr : List Value} : I b = some arr → Cs I cells ((arr.drop off).take cells.length) → off + cells.length ≤ arr.length →
      C I (.vp cells) (.pointer (some ⟨b, off, none⟩))
  | fn {f : Fn} {l : List PV} {a : Array Value} : Cs I l a.toList → C I (.fn f l) (.func f #[] a)
  | ifc {t : TypeId} {x : PV} {v : Value} : C I x v → C I (.ifc t x) (.iface t v)
inductive Cs (I : Imm) : List PV → List Value → Prop
  | nil : Cs I [] []
  | cons {x : PV} {v : Value} {xs : List PV} {vs : List Value} : C I x v → Cs I xs vs → Cs I (x :: xs) (v :: vs)
end

/-- More is known. -/
def Imm.le (I J : Imm) : Prop := ∀ b arr, I b = some arr → ∃ more, J b = some (arr ++ more)

theorem Imm.le_refl (I : Imm) : I.le I := fun _ arr h => ⟨[], by simpa using h⟩
theorem Imm.le_trans {I J K : Imm} (h : I.le J) (k : J.le K) : I.le K := fun b arr hb => by
  obtain ⟨m, hm⟩ := h b arr hb
  obtain ⟨m', hm'⟩ := k b _ hm
  exact ⟨m ++ m', by simpa [List.append_assoc] using hm'⟩

theorem take_drop_append {α : Type} (l m : List α) (off n : Nat) (h : off + n ≤ l.length) : ((l ++ m).drop off).take n = (l.drop off).take n := by
  rw [List.drop_append_of_le_length (by omega), List.take_append_of_le_length (by simp; omega)]

mutual
theorem C.mono {I J : Imm} (h : I.le J) : ∀ {x : PV} {v : Value}, C I x v → C J x v
  | _, _, .s v => .s v
  | _, _, .junk v => .junk v
  | _, _, .agg hl => .agg (Cs.mono h hl)
  | _, _, .tup hl => .tup (Cs.mono h hl)
  | _, _, .sl hb hu hn hc hl hcap hex => by
    obtain ⟨m, hm⟩ := h _ _ hb
    refine .sl hm hu hn ?_ (by simp; omega) hcap hex
    rw [take_drop_append _ _ _ _ hl]
    exact Cs.mono h hc
  | _, _, .sl0 => .sl0
  | _, _, .sle => .sle
  | _, _, .vp hb hc hl => by
    obtain ⟨m, hm⟩ := h _ _ hb
    refine .vp hm ?_ (by simp; omega)
    rw [take_drop_append _ _ _ _ hl]
    exact Cs.mono h hc
  | _, _, .fn hl => .fn (Cs.mono h hl)
  | _, _, .ifc hx => .ifc (C.mono h hx)
theorem Cs.mono {I J : Imm} (h : I.le J) : ∀ {xs : List PV} {vs : List Value}, Cs I xs vs → Cs J xs vs
  | _, _, .nil => .nil
  | _, _, .cons hx hs => .cons (C.mono h hx) (Cs.mono h hs)
end

theorem Cs.length {I : Imm} {xs : List PV} {vs : List Value} (h : Cs I xs vs) : xs.length = vs.length := by
  induction xs generalizing vs with
  | nil => cases h; rfl
  | cons x xs ih => cases h with | cons _ hs => simp [ih hs]

theorem Cs.append {I : Imm} {xs ys : List PV} {vs us : List Value} (h : Cs I xs vs) (k : Cs I ys us) : Cs I (xs ++ ys) (vs ++ us) := by
  induction xs generalizing vs with
  | nil => cases h; exact k
  | cons x xs ih => cases h with | cons hx hs => exact .cons hx (ih hs)

theorem Cs.take {I : Imm} {xs : List PV} {vs : List Value} (h : Cs I xs vs) (n : Nat) : Cs I (xs.take n) (vs.take n) := by
  induction n generalizing xs vs with
  | zero => simp; exact .nil
  | succ n ih => cases h with
    | nil => simp; exact .nil
    | cons hx hs => simp; exact .cons hx (ih hs)

theorem Cs.drop {I : Imm} {xs : List PV} {vs : List Value} (h : Cs I xs vs) (n : Nat) : Cs I (xs.drop n) (vs.drop n) := by
  induction n generalizing xs vs with
  | zero => simpa using h
  | succ n ih => cases h with
    | nil => simp; exact .nil
    | cons hx hs => simpa using ih hs

theorem Cs.get {I : Imm} {xs : List PV} {vs : List Value} (h : Cs I xs vs) {i : Nat} {x : PV} (hi : xs[i]? = some x) : ∃ v, vs[i]? = some v ∧ C I x v := by
  induction i generalizing xs vs with
  | zero => cases h with
    | nil => simp at hi
    | cons hx hs => simp at hi; subst hi; exact ⟨_, rfl, hx⟩
  | succ i ih => cases h with
    | nil => simp at hi
    | cons hx hs => simp at hi; simpa using ih hs hi

theorem Cs.set {I : Imm} {xs : List PV} {vs : List Value} (h : Cs I xs vs) (i : Nat) {x : PV} {v : Value} (hx : C I x v) : Cs I (xs.set i x) (vs.set i v) := by
  induction i generalizing xs vs with
  | zero => cases h with
    | nil => exact .nil
    | cons _ hs => exact .cons hx hs
  | succ i ih => cases h with
    | nil => exact .nil
    | cons hy hs => exact .cons hy (ih hs)

theorem Cs.snoc {I : Imm} {xs : List PV} {vs : List Value} {x : PV} {v : Value} (h : Cs I xs vs) (hx : C I x v) : Cs I (xs ++ [x]) (vs ++ [v]) := h.append (.cons hx .nil)

/-- A value's cells read as the told one's cells. -/
theorem C.cells {I : Imm} {x : PV} {v : Value} (h : C I x v) (hx : x ≠ .junk) (hv : ∀ w, x = .s w → ∀ a, w ≠ .agg a) : Cs I x.cells v.cells.toList := by
  cases h with
  | s => 
    have hv' := hv _ rfl
    cases v <;> first | exact .cons (.s _) .nil | exact absurd rfl (hv' _)
  | junk => exact absurd rfl hx
  | agg hl => exact hl
  | tup hl => exact .cons (.tup hl) .nil
  | sl hb hu hn hc hl hcap hex => exact .cons (.sl hb hu hn hc hl hcap hex) .nil
  | sl0 => exact .cons .sl0 .nil
  | sle => exact .cons .sle .nil
  | vp hb hc hl => exact .cons (.vp hb hc hl) .nil
  | fn hl => exact .cons (.fn hl) .nil
  | ifc hx' => exact .cons (.ifc hx') .nil

/-- What the world must hold of what is known to stay. -/
def Good (I : Imm) (w : World) : Prop := ∀ b arr, I b = some arr → ∃ cs ty fz more, w.heap[b]? = some (.cells cs ty fz) ∧ cs.toList = arr ++ more

theorem Good.lt {I : Imm} {w : World} (h : Good I w) {b : Nat} {arr : List Value} (hb : I b = some arr) : b < w.heap.size := by
  obtain ⟨cs, ty, fz, more, hw, _⟩ := h b arr hb
  exact (Array.getElem?_eq_some_iff.1 hw).1

/-- What was known stays, below what is new. -/
theorem Good.below {I : Imm} {w w' : World} (h : Good I w) (hb : Below w.heap.size w w') : Good I w' := fun b arr hI => by
  obtain ⟨cs, ty, fz, more, hw, hc⟩ := h b arr hI
  exact ⟨cs, ty, fz, more, (hb.block b (h.lt hI)).trans hw, hc⟩

end Go.Proofs.Ytnfomjnmigkpmaa.A
