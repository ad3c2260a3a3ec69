/- Operations that make or write memory of the call's own: 'stepA'. -/
import Derived.Test.YtnfomjnmigkpmaaA11
import Derived.Deep.AppendSrc
set_option linter.unusedVariables false
set_option linter.unusedSimpArgs false
namespace Go.Proofs.Ytnfomjnmigkpmaa.A
open Go Go.RowKit

def putT (s : St) (dst : Option Nat) (t : TV) : St :=
  match dst with
  | some d => { s with tm := s.tm.set d t }
  | none => s

/-- The cells of a new variable: zeros; some of them rows to append to. -/
def zeroT (i : Inf) : List TV := i.acc.foldl (fun l p => l.set p.1 (.acc p.2 [])) (i.zero.map fun v => .v (.s v))

def newToks : List (Nat × Nat) → St → St
  | [], s => s
  | p :: l, s => newToks l (s.newTok p.2)

def cellsOf (n : Nat) : TV → Option (List TV)
  | .v p => if p.ok = true ∧ p.cells.length = n then some (p.cells.map .v) else none
  | .acc t els => if n = 1 then some [.acc t els] else none
  | .ptr b off => if n = 1 then some [.ptr b off] else none
  | .own _ _ => none

def storeA (s : St) (n : Nat) (x y : TV) : Option St :=
  match x with
  | .ptr b off => match lk b s.bx, cellsOf n y with
    | some cs, some xs => if off + xs.length ≤ cs.length then some { s with bx := upd b (cs.take off ++ xs ++ cs.drop (off + xs.length)) s.bx } else none
    | _, _ => none
  | _ => none

def rowOf : PV → Option (List PV)
  | .sl _ els => some els
  | .s (.slice none 0 0) => some []
  | _ => none

/-- Is it a row of elements of n cells each, short enough? -/
def fits (n bytes : Nat) (els ys : List PV) : Bool :=
  els.all (fun e => e.ok && e.cells.length == n) && ys.all (fun e => e.ok && e.cells.length == n) && decide ((els.length + ys.length) * bytes ≤ 140737488355328)

def appA (s : St) (d : Nat) (i : Inf) (x : TV) (ys : List PV) : Option St :=
  match x with
  | .acc t els => if fits i.n i.t els ys = true ∧ els.length = tkOf s.tk t then some (putT { s with tk := upd t (els.length + ys.length) s.tk } (some d) (.acc t (els ++ ys))) else none
  | .v (.s (.slice none 0 0)) => if i.acc.isEmpty = true then none else if fits i.n i.t [] ys = true then some (putT { s.newTok d with tk := upd d ys.length (s.newTok d).tk } (some d) (.acc d ys)) else none
  | .v (.sl true els) => if fits i.n i.t els ys = true then
      (if i.acc.isEmpty then some (putT s (some d) (.v (.sl false (els ++ ys))))
       else if ys.isEmpty then none else some (putT { s.newTok d with tk := upd d (els.length + ys.length) (s.newTok d).tk } (some d) (.acc d (els ++ ys))))
      else none
  | _ => none

def stepA (s : St) (dst : Option Nat) (op : Op) (i : Inf) : Option St :=
  match op with
  | .alloc _ => match dst with
    | some d => if (lk d s.ro).isNone then some (putT ((newToks i.acc s).newBox d (zeroT i)) dst (.ptr d 0)) else none
    | none => none
  | .box _ x => match dst, ev s x with
    | some d, some t => if (lk d s.ro).isNone then (cellsOf i.n t).map fun cs => putT (s.newBox d cs) dst (.ptr d 0) else none
    | _, _ => none
  | .makeSlice _ l c => match dst, ev s l, ev s c with
    | some d, some (.v (.s (.int _ n))), some (.v (.s (.int _ m))) => if i.agg = true then (if n = m ∧ 0 ≤ n ∧ n * i.t ≤ 140737488355328 ∧ n ≤ 16777216 then some (putT s dst (.v (.sl true (List.replicate n.toNat (.s (i.zero.headD .nilFunc)))))) else none) else if n = m ∧ 0 ≤ n ∧ n * i.t ≤ 140737488355328 ∧ n ≤ 16777216 ∧ (lk d s.ro).isNone = true then some (putT (s.newBox d (List.replicate n.toNat (.v (.s (i.zero.headD .nilFunc))))) dst (.own d n.toNat)) else none
    | _, _, _ => none
  | .store _ x y => match ev s x, ev s y with
    | some p, some q => (storeA s i.n p q).map fun s' => putT s' dst (.v .junk)
    | _, _ => none
  | .buildSlice _ len parts => match pvs s (parts.toList.map (·.2)) with
    | some ps => if parts.toList.map (·.1) = List.range len ∧ ps.all (fun p => p.ok && p.cells.length == i.n) = true then some (putT s dst (.v (.sl true ps))) else none
    | none => none
  | .call c => match c.callee, c.args.toList, dst with
    | .builtin .append, [x, y], some d => match ev s x, (pv s y).bind rowOf with
      | some p, some ys => appA s d i p ys
      | _, _ => none
    | _, _, _ => (valA s op i).map (putT s dst)
  | .assign (.const (.slice none 0 0)) => match i.acc with
    | [] => (valA s op i).map (putT s dst)
    | p :: _ => some (putT (s.newTok p.2) dst (.acc p.2 []))
  | op => (valA s op i).map (putT s dst)

/-- What must be so of an operation's types. -/
def infOk' (P : Program) (op : Op) (i : Inf) : Bool :=
  match op with
  | .alloc t => (match tZero P t with
    | some z => constsEq z.cells.toList i.zero && i.acc.all (fun p => match i.zero[p.1]? with | some v => constEq v nilSlice | none => false)
    | none => false)
  | .box _ _ => true
  | .makeSlice t _ _ => (match tElem P t with
    | some e => tSize P e == some 1 && (P.info? e).map (·.bytes) == some i.t && (match tZero P e with | some z => constsEq z.cells.toList i.zero && i.zero.length == 1 | none => false)
    | none => false)
  | .store t _ _ => tSize P t == some i.n
  | .buildSlice t len _ => (match tElem P t with
    | some e => tSize P e == some i.n && i.n != 0 && decide (len * i.n ≤ 16777216) && (match tZero P e with | some z => z.cells.size == i.n | none => false)
    | none => false)
  | .call c => match c.callee, c.argTypes.toList with
    | .builtin .append, [t, t'] => (match tElem P t with
      | some e => (tElem P t').isSome && tSize P e == some i.n && i.t != 0 && (P.info? e).map (·.bytes) == some i.t && (match tZero P e with | some z => z.cells.size == i.n | none => false)
      | none => false)
    | .builtin .append, _ => false
    | _, _ => infOk P op i
  | op => infOk P op i

section
variable {P : Program} {w0 w w' : World} {I0 I J : Imm} {β : Nat → Nat} {κ : Nat → Nat × Nat × Nat} {s : St} {sav : List (Array Value)} {a : Act} {tk : Nat → Nat}

theorem Sim.putT (h : Sim w0 I0 I β κ s sav a w) (d : Option Nat) {x : TV} {v : Value} (hx : R I β κ (tkOf s.tk) x v) : Sim w0 I0 I β κ (A.putT s d x) sav (a.put d v) w := by
  cases d with
  | none => exact h
  | some d => exact h.put d hx

theorem Sim.newToks (l : List (Nat × Nat)) : ∀ {s : St}, Sim w0 I0 I β κ s sav a w → Sim w0 I0 I β κ (A.newToks l s) sav a w := by
  induction l with
  | nil => exact fun h => h
  | cons p l ih => exact fun h => ih (h.newTok p.2)

theorem KeepsOthers.onlyAt {k : Nat} {cs : Array Value} {ty : TypeId} {fz : Nat × Nat} (h : OnlyAt k w w') (hc : w.heap[k]? = some (.cells cs ty fz)) : KeepsOthers w w' :=
  ⟨Nat.le_of_eq h.size.symm, fun j o hj ho => by
    by_cases e : j = k
    · subst e; rw [hc] at hj; cases hj; cases ho
    · exact (h.block j e).trans hj⟩

theorem OnlyAt.setRow (w : World) (g : Nat) (cs : Array Value) : OnlyAt g w (w.setRow g cs) :=
  ⟨rfl, rfl, rfl, by simp, fun j hj => setRow_other w g j cs hj⟩

theorem OnlyAt.setCells (b : Nat) : ∀ (vs : List Value) (o : Nat) (w : World), OnlyAt b w (w.setCells b o vs)
  | [], _, w => OnlyAt.refl b w
  | v :: r, o, w => (OnlyAt.setCell w ⟨b, o, none⟩ v).trans (OnlyAt.setCells b r (o + 1) _)

theorem setCell_heap (w : World) (b o : Nat) (v : Value) {cs : Array Value} {ty : TypeId} {fz : Nat × Nat} (h : w.heap[b]? = some (.cells cs ty fz)) : (w.setCell ⟨b, o, none⟩ v).heap[b]? = some (.cells (cs.setIfInBounds o v) ty fz) := by
  obtain ⟨hlt, hv⟩ := Array.getElem?_eq_some_iff.1 h
  show (w.heap.modify b _)[b]? = _
  rw [Array.getElem?_eq_getElem (by simpa using hlt), Array.getElem_modify_self, hv]
  simp

theorem setCells_heap (b : Nat) {ty : TypeId} {fz : Nat × Nat} : ∀ (vs : List Value) (o : Nat) (w : World) (cs : Array Value), w.heap[b]? = some (.cells cs ty fz) → o + vs.length ≤ cs.size →
    ∃ cs', (w.setCells b o vs).heap[b]? = some (.cells cs' ty fz) ∧ cs'.toList = cs.toList.take o ++ vs ++ cs.toList.drop (o + vs.length) ∧ cs'.size = cs.size
  | [], o, w, cs, h, _ => ⟨cs, h, by simp, rfl⟩
  | v :: r, o, w, cs, h, hl => by
    simp only [List.length_cons] at hl
    obtain ⟨cs', h1, h2, h3⟩ := setCells_heap b r (o + 1) _ _ (setCell_heap w b o v h) (by simp; omega)
    refine ⟨cs', h1, ?_, by simpa using h3⟩
    rw [h2, Array.toList_setIfInBounds]
    have hlt : o < cs.toList.length := by simp; omega
    rw [List.take_set, List.drop_set]
    have e1 : ¬ (o + 1 + r.length ≤ o) := by omega
    have e2 : List.take (o + 1) cs.toList = List.take o cs.toList ++ [cs.toList[o]] := by rw [List.take_succ_eq_append_getElem hlt]
    rw [e2]
    have e3 : (List.take o cs.toList ++ [cs.toList[o]]).set o v = List.take o cs.toList ++ [v] := by
      rw [List.set_append_right _ _ (by simp; omega)]
      have : o - (List.take o cs.toList).length = 0 := by simp; omega
      rw [this]
      rfl
    rw [e3]
    have e4 : o < o + 1 + r.length := by omega
    rw [if_pos e4]
    simp only [List.append_assoc, List.cons_append, List.nil_append, List.length_cons]
    congr 3
    congr 1
    omega

theorem Rs.zero (i : Inf) (hacc : i.acc.all (fun p => match i.zero[p.1]? with | some v => constEq v nilSlice | none => false) = true) : Rs I β κ tk (zeroT i) i.zero := by
  have key : ∀ (acc : List (Nat × Nat)) (l : List TV) (z : List Value), Rs I β κ tk l z → acc.all (fun p => match z[p.1]? with | some v => constEq v nilSlice | none => false) = true →
      Rs I β κ tk (acc.foldl (fun l p => l.set p.1 (.acc p.2 [])) l) z := by
    intro acc
    induction acc with
    | nil => exact fun l z h _ => h
    | cons p acc ih =>
      intro l z h ha
      simp only [List.all_cons, Bool.and_eq_true] at ha
      refine ih _ _ ?_ ha.2
      have h1 := ha.1
      split at h1
      · rename_i v hv
        have e := constEq_eq h1
        have := h.set p.1 (x := .acc p.2 []) (v := v) (by rw [e]; exact .acc0)
        have e2 : z.set p.1 v = z := by
          apply List.ext_getElem?
          intro j
          rw [List.getElem?_set]
          split
          · rename_i e'
            subst e'
            split
            · exact hv.symm
            · rename_i hlt
              rw [List.getElem?_eq_none (by omega)] at hv
              cases hv
          · rfl
        rwa [e2] at this
      · cases h1
  refine key _ _ _ ?_ hacc
  have : Cs I (i.zero.map .s) i.zero := by
    generalize i.zero = l
    induction l with
    | nil => exact .nil
    | cons x l ih => exact .cons (.s x) ih
  have h2 := Rs.of_Cs (β := β) (κ := κ) (tk := tk) this
  simpa [Function.comp_def] using h2

theorem constEq_one {v u : Value} (h : constEq v u = true) : u.oneCell' = true ∧ v.oneCell' = true := by
  have := constEq_eq h
  subst this
  unfold constEq at h
  split at h <;> first | exact ⟨rfl, rfl⟩ | cases h

theorem constsEq_one : ∀ {l m : List Value}, constsEq l m = true → ∀ v ∈ m, v.oneCell' = true
  | [], [], _ => by simp
  | a :: l, b :: m, h => by
    simp only [constsEq, Bool.and_eq_true] at h
    intro v hv
    rcases List.mem_cons.1 hv with rfl | hv
    · exact (constEq_one h.1).1
    · exact constsEq_one h.2 v hv
  | [], _ :: _, h => by simp [constsEq] at h
  | _ :: _, [], h => by simp [constsEq] at h

theorem cellsOf_sound {n : Nat} {t : TV} {u : Value} {cs : List TV} (h : R I β κ tk t u) (hc : cellsOf n t = some cs) : Rs I β κ tk cs u.cells.toList ∧ (∀ v ∈ u.cells.toList, v.oneCell' = true) ∧ cs.length = n := by
  cases t with
  | v p =>
    simp only [cellsOf] at hc
    split at hc
    · rename_i hok
      cases hc
      obtain ⟨h1, h2⟩ := h.inv.okCells hok.1
      exact ⟨Rs.of_Cs h1, h2, by simp [hok.2]⟩
    · cases hc
  | acc t els =>
    simp only [cellsOf] at hc
    split at hc
    · rename_i hn
      cases hc
      have : u.cells = #[u] ∧ u.oneCell' = true := by cases h <;> exact ⟨rfl, rfl⟩
      rw [this.1]
      exact ⟨.cons h .nil, by simpa using this.2, by simp [hn]⟩
    · cases hc
  | own => simp [cellsOf] at hc
  | ptr b off =>
    simp only [cellsOf] at hc
    split at hc
    · rename_i hn
      cases hc
      have : u.cells = #[u] ∧ u.oneCell' = true := by cases h; exact ⟨rfl, rfl⟩
      rw [this.1]
      exact ⟨.cons h .nil, by simpa using this.2, by simp [hn]⟩
    · cases hc

end
end Go.Proofs.Ytnfomjnmigkpmaa.A
