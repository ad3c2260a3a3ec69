/- Operations that make or write memory of the call's own: 'stepA'. -/
import Derived.Test.YtadfcbpakfaaaaaB2
import Derived.Deep.AppendSrc
import Derived.Laws.MakeOwn
set_option linter.unusedVariables false
set_option linter.unusedSimpArgs false
namespace Go.Proofs.Ytadfcbpakfaaaaa.A
open Go Go.RowKit

def putT (s : St) (dst : Option Nat) (t : TV) : St :=
  match dst with
  | some d => { s with tm := s.tm.set d t }
  | none => s

/-- The cells of a new variable: zeros; some of them rows to append to. -/
def zeroT (i : Inf) : List TV := i.acc.foldl (fun l p => l.set p.1 (.acc p.2 [])) (i.zero.map fun v => .v (.s v))

def newToks : List (Nat × Nat) → St → St
  | [], s => s
  | p :: l, s => newToks l (s.newTok p.2)

def cellsOf (n : Nat) : TV → Option (List TV)
  | .v p => if p.ok = true ∧ p.cells.length = n then some (p.cells.map .v) else none
  | .acc t els => if n = 1 then some [.acc t els] else none
  | .ptr b off => if n = 1 then some [.ptr b off] else none
  | .own _ _ => none

def storeA (s : St) (n : Nat) (x y : TV) : Option St :=
  match x with
  | .ptr b off => match lk b s.bx, cellsOf n y with
    | some cs, some xs => if off + xs.length ≤ cs.length then some { s with bx := upd b (cs.take off ++ xs ++ cs.drop (off + xs.length)) s.bx } else none
    | _, _ => none
  | _ => none

def rowOf : PV → Option (List PV)
  | .sl _ els => some els
  | .s (.slice none 0 0) => some []
  | _ => none

/-- Is it a row of elements of n cells each, short enough? -/
def fits (n bytes : Nat) (els ys : List PV) : Bool :=
  els.all (fun e => e.ok && e.cells.length == n) && ys.all (fun e => e.ok && e.cells.length == n) && decide ((els.length + ys.length) * bytes ≤ 140737488355328)

def appA (s : St) (d : Nat) (i : Inf) (x : TV) (ys : List PV) : Option St :=
  match x with
  | .acc t els => if fits i.n i.t els ys = true ∧ els.length = tkOf s.tk t then some (putT { s with tk := upd t (els.length + ys.length) s.tk } (some d) (.acc t (els ++ ys))) else none
  | .v (.s (.slice none 0 0)) => if i.acc.isEmpty = true then none else if fits i.n i.t [] ys = true then some (putT { s.newTok d with tk := upd d ys.length (s.newTok d).tk } (some d) (.acc d ys)) else none
  | .v (.sl true els) => if fits i.n i.t els ys = true then
      (if i.acc.isEmpty then some (putT s (some d) (.v (.sl false (els ++ ys))))
       else if ys.isEmpty then none else some (putT { s.newTok d with tk := upd d (els.length + ys.length) (s.newTok d).tk } (some d) (.acc d (els ++ ys))))
      else none
  | _ => none

def stepA (s : St) (dst : Option Nat) (op : Op) (i : Inf) : Option St :=
  match op with
  | .alloc _ => match dst with
    | some d => if (lk d s.ro).isNone then some (putT ((newToks i.acc s).newBox d (zeroT i)) dst (.ptr d 0)) else none
    | none => none
  | .box _ x => match dst, ev s x with
    | some d, some t => if (lk d s.ro).isNone then (cellsOf i.n t).map fun cs => putT (s.newBox d cs) dst (.ptr d 0) else none
    | _, _ => none
  | .makeSlice _ l c => match dst, ev s l, ev s c with
    | some d, some (.v (.s (.int _ n))), some (.v (.s (.int _ m))) => if i.agg = true then (if n = m ∧ 0 ≤ n ∧ n * i.t ≤ 140737488355328 ∧ n ≤ 16777216 then some (putT s dst (.v (.sl true (List.replicate n.toNat (.s (i.zero.headD .nilFunc)))))) else none) else if n = m ∧ 0 ≤ n ∧ n * i.t ≤ 140737488355328 ∧ n ≤ 16777216 ∧ (lk d s.ro).isNone = true then some (putT (s.newBox d (List.replicate n.toNat (.v (.s (i.zero.headD .nilFunc))))) dst (.own d n.toNat)) else none
    | _, _, _ => none
  | .store _ x y => match ev s x, ev s y with
    | some p, some q => (storeA s i.n p q).map fun s' => putT s' dst (.v .junk)
    | _, _ => none
  | .buildSlice _ len parts => match pvs s (parts.toList.map (·.2)) with
    | some ps => if parts.toList.map (·.1) = List.range len ∧ ps.all (fun p => p.ok && p.cells.length == i.n) = true then some (putT s dst (.v (.sl true ps))) else none
    | none => none
  | .call c => match c.callee, c.args.toList, dst with
    | .builtin .append, [x, y], some d => match ev s x, (pv s y).bind rowOf with
      | some p, some ys => appA s d i p ys
      | _, _ => none
    | _, _, _ => (valA s op i).map (putT s dst)
  | .assign (.const (.slice none 0 0)) => match i.acc with
    | [] => (valA s op i).map (putT s dst)
    | p :: _ => some (putT (s.newTok p.2) dst (.acc p.2 []))
  | op => (valA s op i).map (putT s dst)

/-- What must be so of an operation's types. -/
def infOk' (P : Program) (op : Op) (i : Inf) : Bool :=
  match op with
  | .alloc t => (match tZero P t with
    | some z => constsEq z.cells.toList i.zero && i.acc.all (fun p => match i.zero[p.1]? with | some v => constEq v nilSlice | none => false)
    | none => false)
  | .box _ _ => true
  | .makeSlice t _ _ => (match tElem P t with
    | some e => tSize P e == some 1 && (P.info? e).map (·.bytes) == some i.t && (match tZero P e with | some z => constsEq z.cells.toList i.zero && i.zero.length == 1 | none => false)
    | none => false)
  | .store t _ _ => tSize P t == some i.n
  | .buildSlice t len _ => (match tElem P t with
    | some e => tSize P e == some i.n && i.n != 0 && decide (len * i.n ≤ 16777216) && (match tZero P e with | some z => z.cells.size == i.n | none => false)
    | none => false)
  | .call c => match c.callee, c.argTypes.toList with
    | .builtin .append, [t, t'] => (match tElem P t with
      | some e => (tElem P t').isSome && tSize P e == some i.n && i.t != 0 && (P.info? e).map (·.bytes) == some i.t && (match tZero P e with | some z => z.cells.size == i.n | none => false)
      | none => false)
    | .builtin .append, _ => false
    | _, _ => infOk P op i
  | op => infOk P op i

section
variable {P : Program} {w0 w w' : World} {I0 I J : Imm} {β : Nat → Nat} {κ : Nat → Nat × Nat × Nat} {s : St} {sav : List (Array Value)} {a : Act} {tk : Nat → Nat}

theorem Sim.putT (h : Sim w0 I0 I β κ s sav a w) (d : Option Nat) {x : TV} {v : Value} (hx : R I β κ (tkOf s.tk) x v) : Sim w0 I0 I β κ (A.putT s d x) sav (a.put d v) w := by
  cases d with
  | none => exact h
  | some d => exact h.put d hx

theorem Sim.newToks (l : List (Nat × Nat)) : ∀ {s : St}, Sim w0 I0 I β κ s sav a w → Sim w0 I0 I β κ (A.newToks l s) sav a w := by
  induction l with
  | nil => exact fun h => h
  | cons p l ih => exact fun h => ih (h.newTok p.2)

theorem KeepsOthers.onlyAt {k : Nat} {cs : Array Value} {ty : TypeId} {fz : Nat × Nat} (h : OnlyAt k w w') (hc : w.heap[k]? = some (.cells cs ty fz)) : KeepsOthers w w' :=
  ⟨Nat.le_of_eq h.size.symm, fun j o hj ho => by
    by_cases e : j = k
    · subst e; rw [hc] at hj; cases hj; cases ho
    · exact (h.block j e).trans hj⟩

theorem OnlyAt.setRow (w : World) (g : Nat) (cs : Array Value) : OnlyAt g w (w.setRow g cs) :=
  ⟨rfl, rfl, rfl, by simp, fun j hj => setRow_other w g j cs hj⟩

theorem OnlyAt.setCells (b : Nat) : ∀ (vs : List Value) (o : Nat) (w : World), OnlyAt b w (w.setCells b o vs)
  | [], _, w => OnlyAt.refl b w
  | v :: r, o, w => (OnlyAt.setCell w ⟨b, o, none⟩ v).trans (OnlyAt.setCells b r (o + 1) _)

theorem setCell_heap (w : World) (b o : Nat) (v : Value) {cs : Array Value} {ty : TypeId} {fz : Nat × Nat} (h : w.heap[b]? = some (.cells cs ty fz)) : (w.setCell ⟨b, o, none⟩ v).heap[b]? = some (.cells (cs.setIfInBounds o v) ty fz) := by
  obtain ⟨hlt, hv⟩ := Array.getElem?_eq_some_iff.1 h
  show (w.heap.modify b _)[b]? = _
  rw [Array.getElem?_eq_getElem (by simpa using hlt), Array.getElem_modify_self, hv]
  simp

theorem setCells_heap (b : Nat) {ty : TypeId} {fz : Nat × Nat} : ∀ (vs : List Value) (o : Nat) (w : World) (cs : Array Value), w.heap[b]? = some (.cells cs ty fz) → o + vs.length ≤ cs.size →
    ∃ cs', (w.setCells b o vs).heap[b]? = some (.cells cs' ty fz) ∧ cs'.toList = cs.toList.take o ++ vs ++ cs.toList.drop (o + vs.length) ∧ cs'.size = cs.size
  | [], o, w, cs, h, _ => ⟨cs, h, by simp, rfl⟩
  | v :: r, o, w, cs, h, hl => by
    simp only [List.length_cons] at hl
    obtain ⟨cs', h1, h2, h3⟩ := setCells_heap b r (o + 1) _ _ (setCell_heap w b o v h) (by simp; omega)
    refine ⟨cs', h1, ?_, by simpa using h3⟩
    rw [h2, Array.toList_setIfInBounds]
    have hlt : o < cs.toList.length := by simp; omega
    rw [List.take_set, List.drop_set]
    have e1 : ¬ (o + 1 + r.length ≤ o) := by omega
    have e2 : List.take (o + 1) cs.toList = List.take o cs.toList ++ [cs.toList[o]] := by rw [List.take_succ_eq_append_getElem hlt]
    rw [e2]
    have e3 : (List.take o cs.toList ++ [cs.toList[o]]).set o v = List.take o cs.toList ++ [v] := by
      rw [List.set_append_right _ _ (by simp; omega)]
      have : o - (List.take o cs.toList).length = 0 := by simp; omega
      rw [this]
      rfl
    rw [e3]
    have e4 : o < o + 1 + r.length := by omega
    rw [if_pos e4]
    simp only [List.append_assoc, List.cons_append, List.nil_append, List.length_cons]
    congr 3
    congr 1
    omega

theorem Rs.zero (i : Inf) (hacc : i.acc.all (fun p => match i.zero[p.1]? with | some v => constEq v nilSlice | none => false) = true) : Rs I β κ tk (zeroT i) i.zero := by
  have key : ∀ (acc : List (Nat × Nat)) (l : List TV) (z : List Value), Rs I β κ tk l z → acc.all (fun p => match z[p.1]? with | some v => constEq v nilSlice | none => false) = true →
      Rs I β κ tk (acc.foldl (fun l p => l.set p.1 (.acc p.2 [])) l) z := by
    intro acc
    induction acc with
    | nil => exact fun l z h _ => h
    | cons p acc ih =>
      intro l z h ha
      simp only [List.all_cons, Bool.and_eq_true] at ha
      refine ih _ _ ?_ ha.2
      have h1 := ha.1
      split at h1
      · rename_i v hv
        have e := constEq_eq h1
        have := h.set p.1 (x := .acc p.2 []) (v := v) (by rw [e]; exact .acc0)
        have e2 : z.set p.1 v = z := by
          apply List.ext_getElem?
          intro j
          rw [List.getElem?_set]
          split
          · rename_i e'
            subst e'
            split
            · exact hv.symm
            · rename_i hlt
              rw [List.getElem?_eq_none (by omega)] at hv
              cases hv
          · rfl
        rwa [e2] at this
      · cases h1
  refine key _ _ _ ?_ hacc
  have : Cs I (i.zero.map .s) i.zero := by
    generalize i.zero = l
    induction l with
    | nil => exact .nil
    | cons x l ih => exact .cons (.s x) ih
  have h2 := Rs.of_Cs (β := β) (κ := κ) (tk := tk) this
  simpa [Function.comp_def] using h2

theorem constEq_one {v u : Value} (h : constEq v u = true) : u.oneCell' = true ∧ v.oneCell' = true := by
  have := constEq_eq h
  subst this
  unfold constEq at h
  split at h <;> first | exact ⟨rfl, rfl⟩ | cases h

theorem constsEq_one : ∀ {l m : List Value}, constsEq l m = true → ∀ v ∈ m, v.oneCell' = true
  | [], [], _ => by simp
  | a :: l, b :: m, h => by
    simp only [constsEq, Bool.and_eq_true] at h
    intro v hv
    rcases List.mem_cons.1 hv with rfl | hv
    · exact (constEq_one h.1).1
    · exact constsEq_one h.2 v hv
  | [], _ :: _, h => by simp [constsEq] at h
  | _ :: _, [], h => by simp [constsEq] at h

theorem cellsOf_sound {n : Nat} {t : TV} {u : Value} {cs : List TV} (h : R I β κ tk t u) (hc : cellsOf n t = some cs) : Rs I β κ tk cs u.cells.toList ∧ (∀ v ∈ u.cells.toList, v.oneCell' = true) ∧ cs.length = n := by
  cases t with
  | v p =>
    simp only [cellsOf] at hc
    split at hc
    · rename_i hok
      cases hc
      obtain ⟨h1, h2⟩ := h.inv.okCells hok.1
      exact ⟨Rs.of_Cs h1, h2, by simp [hok.2]⟩
    · cases hc
  | acc t els =>
    simp only [cellsOf] at hc
    split at hc
    · rename_i hn
      cases hc
      have : u.cells = #[u] ∧ u.oneCell' = true := by cases h <;> exact ⟨rfl, rfl⟩
      rw [this.1]
      exact ⟨.cons h .nil, by simpa using this.2, by simp [hn]⟩
    · cases hc
  | own => simp [cellsOf] at hc
  | ptr b off =>
    simp only [cellsOf] at hc
    split at hc
    · rename_i hn
      cases hc
      have : u.cells = #[u] ∧ u.oneCell' = true := by cases h; exact ⟨rfl, rfl⟩
      rw [this.1]
      exact ⟨.cons h .nil, by simpa using this.2, by simp [hn]⟩
    · cases hc

end
end Go.Proofs.Ytadfcbpakfaaaaa.A

/- What 'stepA' tells, the model does. -/
set_option linter.unusedVariables false
set_option linter.unusedSimpArgs false
namespace Go.Proofs.Ytadfcbpakfaaaaa.A
open Go Go.RowKit

section
variable {P : Program} {w0 w w' : World} {I0 I J : Imm} {β : Nat → Nat} {κ : Nat → Nat × Nat × Nat} {s s' : St} {sav : List (Array Value)} {a : Act} {tk : Nat → Nat}

/-- An operation goes through; the state behind it reads as s'. -/
def Goes (P : Program) (w0 : World) (I0 I : Imm) (sav : List (Array Value)) (o : Oper) (a : Act) (w : World) (s' : St) : Prop :=
  ∃ v w' J β' κ', ((execOp a.eval o).run P w = .ok (.value v) w' ∨ ((execOp a.eval o).run P w = .ok .skip w' ∧ v = undef)) ∧ I.le J ∧ KeepsOthers w w' ∧ Sim w0 I0 J β' κ' s' sav (a.put o.dst v) w'

theorem goes_val {o : Oper} {i : Inf} {tv : TV} (h : Sim w0 I0 I β κ s sav a w) (hi : infOk P o.op i = true) (hv : valA s o.op i = some tv) : Goes P w0 I0 I sav o a w (putT s o.dst tv) := by
  obtain ⟨v, hr, hR⟩ := run_valA h hi hv
  exact ⟨v, w, I, β, κ, .inl hr, Imm.le_refl _, KeepsOthers.refl _, h.putT o.dst hR⟩

theorem goes_map {o : Oper} {i : Inf} (h : Sim w0 I0 I β κ s sav a w) (hi : infOk P o.op i = true) (hv : (valA s o.op i).map (putT s o.dst) = some s') : Goes P w0 I0 I sav o a w s' := by
  obtain ⟨tv, h1, rfl⟩ := Option.map_eq_some_iff.1 hv
  exact goes_val h hi h1

theorem newToks_fields (l : List (Nat × Nat)) : ∀ (s : St), (newToks l s).ro = s.ro := by
  induction l with
  | nil => exact fun _ => rfl
  | cons p l ih => exact fun s => (ih (s.newTok p.2)).trans rfl

theorem goes_alloc {o : Oper} {i : Inf} {t : TypeId} (ho : o.op = .alloc t) (h : Sim w0 I0 I β κ s sav a w) (hi : infOk' P o.op i = true) (hs : stepA s o.dst o.op i = some s') : Goes P w0 I0 I sav o a w s' := by
  rw [ho] at hi hs
  simp only [infOk'] at hi
  simp only [stepA] at hs
  split at hi
  · rename_i z hz
    simp only [Bool.and_eq_true] at hi
    split at hs
    · rename_i d hd
      split at hs
      · rename_i hro
        cases hs
        have h1 := h.newToks i.acc
        have hzero := constsEq_eq hi.1
        have h2 := h1.newBox d (zeroT i) z.cells t (by rw [newToks_fields]; simpa using hro) (by rw [hzero]; exact Rs.zero i hi.2) (by rw [hzero]; exact constsEq_one hi.1)
        refine ⟨.pointer (some ⟨w.heap.size, 0, none⟩), w.alloc (.cells z.cells t), I, fun j => if j = d then w.heap.size else β j, κ, .inl ?_, Imm.le_refl _, KeepsOthers.alloc w _, ?_⟩
        · simp [execOp, ho, Instr.alloc, run_zero_of hz, newVar, newRow]
        · rw [hd]
          have hp : R I (fun j => if j = d then w.heap.size else β j) κ (tkOf ((newToks i.acc s).newBox d (zeroT i)).tk) (.ptr d 0) (.pointer (some ⟨(fun j => if j = d then w.heap.size else β j) d, 0, none⟩)) := .ptr
          simp only [if_true] at hp
          exact h2.put d hp
      · cases hs
    · cases hs
  · cases hi

theorem goes_box {o : Oper} {i : Inf} {t : TypeId} {x : Operand} (ho : o.op = .box t x) (h : Sim w0 I0 I β κ s sav a w) (hs : stepA s o.dst o.op i = some s') : Goes P w0 I0 I sav o a w s' := by
  rw [ho] at hs
  simp only [stepA] at hs
  split at hs
  · rename_i d tv hd hx
    split at hs
    · rename_i hro
      obtain ⟨cs, hcs, rfl⟩ := Option.map_eq_some_iff.1 hs
      obtain ⟨h1, h2, _⟩ := cellsOf_sound (ev_R h hx) hcs
      have h3 := h.newBox d cs (a.eval x).cells t (by simpa using hro) h1 h2
      refine ⟨.pointer (some ⟨w.heap.size, 0, none⟩), w.alloc (.cells (a.eval x).cells t), I, fun j => if j = d then w.heap.size else β j, κ, .inl ?_, Imm.le_refl _, KeepsOthers.alloc w _, ?_⟩
      · simp [execOp, ho, Instr.box, newVar, newRow]
      · rw [hd]
        have hp : R I (fun j => if j = d then w.heap.size else β j) κ (tkOf (s.newBox d cs).tk) (.ptr d 0) (.pointer (some ⟨(fun j => if j = d then w.heap.size else β j) d, 0, none⟩)) := .ptr
        simp only [if_true] at hp
        exact h3.put d hp
    · cases hs
  · cases hs

theorem goes_store {o : Oper} {i : Inf} {t : TypeId} {x y : Operand} (ho : o.op = .store t x y) (h : Sim w0 I0 I β κ s sav a w) (hi : infOk' P o.op i = true) (hs : stepA s o.dst o.op i = some s') : Goes P w0 I0 I sav o a w s' := by
  rw [ho] at hi hs
  simp only [infOk', beq_iff_eq] at hi
  simp only [stepA] at hs
  split at hs
  · rename_i p q hp hq
    obtain ⟨s1, h1, rfl⟩ := Option.map_eq_some_iff.1 hs
    unfold storeA at h1
    split at h1
    · rename_i b off
      split at h1
      · rename_i cells xs hb hxs
        split at h1
        · rename_i hlen
          cases h1
          obtain ⟨k1, k2, k3⟩ := cellsOf_sound (ev_R h hq) hxs
          obtain ⟨b1, b2, cs, ty, b3, b4, b5⟩ := h.box b cells hb
          have hxl : xs.length = (a.eval y).cells.toList.length := k1.length
          have hcl : cells.length = cs.toList.length := b4.length
          have haddr : a.eval x = .pointer (some ⟨β b, off, none⟩) := by
            have := ev_R h hp
            generalize a.eval x = u at this
            cases this
            rfl
          have hrun := run_storeCells_at (P := P) (β b) off ty (a.eval y).cells.toList 0 cs w b3 (by simp only [Array.length_toList] at hcl hxl ⊢; omega) k2
          simp only [Nat.add_zero] at hrun
          have honly := OnlyAt.setRow w (β b) (cs.toList.take off ++ (a.eval y).cells.toList ++ cs.toList.drop (off + (a.eval y).cells.toList.length)).toArray
          have hheap := setRow_heap w (β b) cs (cs.toList.take off ++ (a.eval y).cells.toList ++ cs.toList.drop (off + (a.eval y).cells.toList.length)).toArray ty (0, 0) b3
          have h2 := h.store hb honly hheap (cells' := cells.take off ++ xs ++ cells.drop (off + xs.length))
            (by simpa [hxl] using ((b4.take off).append k1).append (b4.drop (off + xs.length)))
            (by
              intro v hv
              simp only [List.mem_append] at hv
              rcases hv with (hv | hv) | hv
              · exact b5 v (List.mem_of_mem_take hv)
              · exact k2 v hv
              · exact b5 v (List.mem_of_mem_drop hv))
          refine ⟨undef, _, I, β, κ, .inr ⟨?_, rfl⟩, Imm.le_refl _, KeepsOthers.onlyAt honly b3, h2.putT o.dst (.v (.junk _))⟩
          have hsz : ¬ ((a.eval y).cells.size ≠ i.n) := by simp only [Array.length_toList] at hxl; omega
          simp only [execOp, ho, Instr.storeAt, haddr, Instr.sureAddr, storeVar, Sem.run_bind, Sem.run_pure, Result.andThen_ok, run_sizeOf_of hi, if_neg hsz, hrun]
        · cases h1
      · cases h1
    · cases h1
  · cases hs

end
end Go.Proofs.Ytadfcbpakfaaaaa.A

/- A literal of a slice; append; the law of 'stepA'. -/
set_option linter.unusedVariables false
set_option linter.unusedSimpArgs false
namespace Go.Proofs.Ytadfcbpakfaaaaa.A
open Go Go.RowKit

section
variable {P : Program} {w0 w w' : World} {I0 I J : Imm} {β : Nat → Nat} {κ : Nat → Nat × Nat × Nat} {s s' : St} {sav : List (Array Value)} {a : Act} {tk : Nat → Nat}

/-- A new block that stays as it is, as far as it is told. -/
theorem Sim.newImm (h : Sim w0 I0 I β κ s sav a w) (cs : Array Value) (ty : TypeId) (k : Nat) (hone : ∀ v ∈ cs.toList.take k, v.oneCell' = true) :
    ∃ J, I.le J ∧ J w.heap.size = some (cs.toList.take k) ∧ Sim w0 I0 J β κ s sav a (w.alloc (.cells cs ty)) := by
  have hnone : I w.heap.size = none := Imm.none_new h.good (Nat.le_refl _)
  have hIJ : I.le (fun b => if b = w.heap.size then some (cs.toList.take k) else I b) := fun b arr hb => by
    by_cases e : b = w.heap.size
    · rw [e, hnone] at hb; cases hb
    · exact ⟨[], by simp [e, hb]⟩
  have hnew : (w.alloc (.cells cs ty)).heap[w.heap.size]? = some (.cells cs ty (0, 0)) := World.alloc_heap_new w _
  refine ⟨_, hIJ, by simp, h.grow ((Below.refl _ w).alloc (Nat.le_refl _) (.cells cs ty)) hIJ (fun b hb => ?_) (fun b arr hb => ?_)⟩
  · have : b ≠ w.heap.size := by omega
    simp [this]
  · by_cases e : b = w.heap.size
    · simp only [e, if_true, Option.some.injEq] at hb
      subst hb
      exact ⟨cs, ty, (0, 0), cs.toList.drop k, by rw [e]; exact hnew, (List.take_append_drop _ _).symm⟩
    · simp only [e, if_false] at hb
      exact (h.good.below ((Below.refl _ w).alloc (Nat.le_refl _) _)) b arr hb

theorem made_one {z0 : Value} {z : Array Value} (hz : z.toList = [z0]) (n : Nat) : (madeCells z n).toList = List.replicate n z0 := by
  have : z = #[z0] := by rw [← Array.toList_inj, hz]
  subst this
  apply List.ext_getElem
  · simp [madeCells]
  · intro i h1 h2
    simp [madeCells, Nat.mod_one]

theorem goes_make {o : Oper} {i : Inf} {t : TypeId} {l c : Operand} (ho : o.op = .makeSlice t l c) (h : Sim w0 I0 I β κ s sav a w) (hi : infOk' P o.op i = true) (hs : stepA s o.dst o.op i = some s') : Goes P w0 I0 I sav o a w s' := by
  rw [ho] at hi hs
  simp only [infOk'] at hi
  simp only [stepA] at hs
  split at hs
  · rename_i d k n k' m hd hl hc
    by_cases hagg : i.agg = true
    · rw [if_pos hagg] at hs
      split at hs
      · rename_i hcond
        obtain ⟨rfl, h0, hby, hbig⟩ := hcond
        cases hs
        split at hi
        · rename_i e he
          simp only [Bool.and_eq_true, beq_iff_eq] at hi
          obtain ⟨⟨h1, h2⟩, h3⟩ := hi
          split at h3
          · rename_i z hz
            simp only [Bool.and_eq_true, beq_iff_eq] at h3
            obtain ⟨h4, h5⟩ := h3
            obtain ⟨ti, hti, hzz⟩ := Option.bind_eq_some_iff.1 hz
            have hsz : ti.size = 1 := by simpa [tSize, hti] using h1
            have hbt : ti.bytes = i.t := by simpa [hti] using h2
            have hzero := constsEq_eq h4
            obtain ⟨z0, hz0⟩ : ∃ z0, i.zero = [z0] := by
              match hq : i.zero, h5 with
              | [x], _ => exact ⟨x, rfl⟩
            have e1 : a.eval l = .int k n := (ev_R h hl).inv.inv_s
            have e2 : a.eval c = .int k' n := (ev_R h hc).inv.inv_s
            have hrun := run_make (P := P) w t e ti z (run_underlying_elem he) hti hzz k k' n n h0 (Int.le_refl _) (by rw [hbt, Int.mul_comm]; omega) (by omega)
            rw [hsz, Nat.mul_one] at hrun
            have hcells : (madeCells z.cells n.toNat).toList = List.replicate n.toNat z0 := made_one (by rw [hzero, hz0]) _
            have hone : ∀ v ∈ (madeCells z.cells n.toNat).toList.take n.toNat, v.oneCell' = true := by
              rw [hcells]
              intro v hv
              rw [List.eq_of_mem_replicate (List.mem_of_mem_take hv)]
              exact constsEq_one h4 z0 (by rw [hz0]; simp)
            obtain ⟨J, hJ, hI, hS⟩ := h.newImm (madeCells z.cells n.toNat) e n.toNat hone
            rw [hcells, List.take_of_length_le (by simp)] at hI
            refine ⟨.slice (some ⟨w.heap.size, 0, none⟩) n.toNat n.toNat, w.alloc (.cells (madeCells z.cells n.toNat) e), J, β, κ, .inl ?_, hJ, KeepsOthers.alloc w _, ?_⟩
            · simp [execOp, ho, e1, e2, hrun]
            · rw [hd, hz0]
              have hfl : flat (List.replicate n.toNat (PV.s z0)) = List.replicate n.toNat (PV.s z0) := flat_cells (by simp [PV.one])
              have hcs : ∀ q : Nat, Cs J (List.replicate q (PV.s z0)) (List.replicate q z0) := fun q => by
                induction q with
                | zero => exact .nil
                | succ q ih => exact .cons (.s _) ih
              refine hS.put d (.v (.sl (sz := 1) hI (fun y hy => ?_) (by simp) ?_ ?_ (Nat.le_refl _) (fun _ => rfl)))
              · rw [List.eq_of_mem_replicate hy]
                rfl
              · rw [List.headD_cons, hfl, List.drop_zero, List.length_replicate, List.take_of_length_le (by simp)]
                exact hcs _
              · rw [List.headD_cons, hfl]
                simp
          · cases h3
        · cases hi
      · cases hs
    rw [if_neg hagg] at hs
    split at hs
    · rename_i hcond
      obtain ⟨rfl, h0, hby, hbig, hro⟩ := hcond
      cases hs
      split at hi
      · rename_i e he
        simp only [Bool.and_eq_true, beq_iff_eq] at hi
        obtain ⟨⟨h1, h2⟩, h3⟩ := hi
        split at h3
        · rename_i z hz
          simp only [Bool.and_eq_true, beq_iff_eq] at h3
          obtain ⟨h4, h5⟩ := h3
          obtain ⟨ti, hti, hzz⟩ := Option.bind_eq_some_iff.1 hz
          have hsz : ti.size = 1 := by simpa [tSize, hti] using h1
          have hbt : ti.bytes = i.t := by simpa [hti] using h2
          have hzero := constsEq_eq h4
          obtain ⟨z0, hz0⟩ : ∃ z0, i.zero = [z0] := by
            match hq : i.zero, h5 with
            | [x], _ => exact ⟨x, rfl⟩
          have e1 : a.eval l = .int k n := (ev_R h hl).inv.inv_s
          have e2 : a.eval c = .int k' n := (ev_R h hc).inv.inv_s
          have hrun := run_make (P := P) w t e ti z (run_underlying_elem he) hti hzz k k' n n h0 (Int.le_refl _) (by rw [hbt, Int.mul_comm]; omega) (by omega)
          rw [hsz, Nat.mul_one] at hrun
          have hcells : (madeCells z.cells n.toNat).toList = List.replicate n.toNat z0 := made_one (by rw [hzero, hz0]) _
          have hone : ∀ v ∈ (madeCells z.cells n.toNat).toList, v.oneCell' = true := by
            rw [hcells]
            intro v hv
            rw [List.eq_of_mem_replicate hv]
            exact constsEq_one h4 z0 (by rw [hz0]; simp)
          have hrs : Rs I β κ (tkOf s.tk) (List.replicate n.toNat (.v (.s (i.zero.headD .nilFunc)))) (madeCells z.cells n.toNat).toList := by
            rw [hcells, hz0]
            generalize n.toNat = q
            induction q with
            | zero => exact .nil
            | succ q ih => exact .cons (.v (.s _)) ih
          have h3 := h.newBox d _ (madeCells z.cells n.toNat) e (by simpa using hro) hrs hone
          refine ⟨.slice (some ⟨w.heap.size, 0, none⟩) n.toNat n.toNat, w.alloc (.cells (madeCells z.cells n.toNat) e), I, fun j => if j = d then w.heap.size else β j, κ, .inl ?_, Imm.le_refl _, KeepsOthers.alloc w _, ?_⟩
          · simp [execOp, ho, e1, e2, hrun]
          · rw [hd]
            have hp : R I (fun j => if j = d then w.heap.size else β j) κ (tkOf (s.newBox d (List.replicate n.toNat (.v (.s (i.zero.headD .nilFunc))))).tk) (.own d n.toNat) (.slice (some ⟨(fun j => if j = d then w.heap.size else β j) d, 0, none⟩) n.toNat n.toNat) := .own
            simp only [if_true] at hp
            exact h3.put d hp
        · cases h3
      · cases hi
    · cases hs
  · cases hs

theorem cs_flat : ∀ {ps : List PV} {vs : List Value}, Cs I ps vs → ps.all (fun p => p.ok) = true → Cs I (flat ps) (vs.flatMap fun v => v.cells.toList) ∧ ∀ u ∈ vs.flatMap (fun v => v.cells.toList), u.oneCell' = true
  | [], _, h, _ => by cases h; exact ⟨.nil, by simp⟩
  | p :: ps, _, h, hok => by
    cases h with
    | cons h1 h2 =>
      simp only [List.all_cons, Bool.and_eq_true] at hok
      obtain ⟨k1, k2⟩ := h1.okCells hok.1
      obtain ⟨g1, g2⟩ := cs_flat h2 hok.2
      refine ⟨by simpa [flat] using k1.append g1, fun u hu => ?_⟩
      simp only [List.flatMap_cons, List.mem_append] at hu
      rcases hu with hu | hu
      · exact k2 u hu
      · exact g2 u hu

theorem Cs.cells_size {n : Nat} : ∀ {ps : List PV} {vs : List Value}, Cs I ps vs → ps.all (fun p => p.ok && p.cells.length == n) = true → ∀ v ∈ vs, v.cells.size = n
  | [], _, h, _ => by cases h; simp
  | p :: ps, _, h, hok => by
    cases h with
    | cons h1 h2 =>
      simp only [List.all_cons, Bool.and_eq_true, beq_iff_eq] at hok
      intro v hv
      rcases List.mem_cons.1 hv with rfl | hv
      · have := (h1.okCells hok.1.1).1.length
        simp only [Array.length_toList] at this
        omega
      · exact Cs.cells_size h2 (by simpa using hok.2) v hv

theorem goes_lit {o : Oper} {i : Inf} {t : TypeId} {len : Nat} {parts : Array (Nat × Operand)} (ho : o.op = .buildSlice t len parts) (h : Sim w0 I0 I β κ s sav a w) (hi : infOk' P o.op i = true) (hs : stepA s o.dst o.op i = some s') :
    Goes P w0 I0 I sav o a w s' := by
  rw [ho] at hi hs
  simp only [infOk'] at hi
  simp only [stepA] at hs
  split at hi
  · rename_i e he
    simp only [Bool.and_eq_true, beq_iff_eq, bne_iff_ne, ne_eq, decide_eq_true_eq] at hi
    obtain ⟨⟨⟨hS, hn0⟩, hle⟩, hz⟩ := hi
    split at hz
    · rename_i z hz'
      simp only [beq_iff_eq] at hz
      split at hs
      · rename_i ps hps
        split at hs
        · rename_i hc
          obtain ⟨hidx, hall⟩ := hc
          cases hs
          have hC := pvs_C h hps
          have hpl : parts.size = len := by have := congrArg List.length hidx; simpa using this
          have hok : ps.all (fun p => p.ok) = true := by
            rw [List.all_eq_true] at hall ⊢
            intro p hp
            have := hall p hp
            simp only [Bool.and_eq_true] at this
            exact this.1
          have hun : ∀ p ∈ ps, p.cells.length = i.n := by
            rw [List.all_eq_true] at hall
            intro p hp
            have := hall p hp
            simp only [Bool.and_eq_true, beq_iff_eq] at this
            exact this.2
          have hvs : ∀ v ∈ (parts.toList.map (·.2)).map a.eval, v.cells.size = i.n := Cs.cells_size hC hall
          obtain ⟨k1, k2⟩ := cs_flat hC hok
          have hlen : ps.length = len := by have := hC.length; simpa [hpl] using this
          have hparts : (parts.map fun (j, x) => (j, a.eval x)).toList = ((((parts.toList.map (·.2)).map a.eval).zipIdx 0).map fun x => (x.2, x.1)) := by
            apply List.ext_getElem?
            intro j
            simp only [Array.toList_map, List.getElem?_map, List.getElem?_zipIdx, Array.getElem?_toList]
            have hj := congrArg (fun l => l[j]?) hidx
            simp only [List.getElem?_map, Array.getElem?_toList] at hj
            cases hp : parts[j]? with
            | none => simp
            | some p =>
              rw [hp] at hj
              obtain ⟨p1, p2⟩ := p
              simp only [Option.map_some] at hj ⊢
              have hlt : j < len := by rw [← hpl]; exact (Array.getElem?_eq_some_iff.1 hp).1
              rw [List.getElem?_range hlt] at hj
              cases hj
              simp
          have hfill := Go.Great.fill_whole (s := i.n) (Nat.pos_of_ne_zero hn0) ((parts.toList.map (·.2)).map a.eval) ((Array.range (len * i.n)).map (z.cells[· % z.cells.size]!)) hvs (by simp [hpl])
          rw [← hparts] at hfill
          generalize hcs : ((parts.toList.map (·.2)).map a.eval).flatMap (fun v => v.cells.toList) = fl at *
          have hfl : fl.length = len * i.n := by have := k1.length; rw [flat_length hun, hlen] at this; exact this.symm
          obtain ⟨J, hIJ, hJ, hsim⟩ := h.newImm fl.toArray e fl.length (by simpa using k2)
          have hJ' : J w.heap.size = some fl := by rw [hJ]; simp
          refine ⟨.slice (some ⟨w.heap.size, 0, none⟩) len len, w.alloc (.cells fl.toArray e), J, β, κ, .inl ?_, hIJ, KeepsOthers.alloc w _, hsim.putT o.dst (.v (.sl (sz := i.n) hJ' hun hlen.symm ?_ ?_ (by omega) (fun _ => rfl)))⟩
          · have hz0 : ¬ (len * i.n > 2 ^ 24) := by omega
            by_cases hl0 : len * i.n = 0
            · have : fl = [] := List.eq_nil_of_length_eq_zero (by omega)
              have hlen0 : len = 0 := by rcases Nat.mul_eq_zero.1 hl0 with h | h; · exact h
                                         · exact absurd h hn0
              have hp0 : (parts.map fun (j, x) => (j, a.eval x)).toList = [] := by apply List.eq_nil_of_length_eq_zero; simp [hpl, hlen0]
              simp only [execOp, ho, Instr.buildSlice, Sem.run_bind, run_underlying (run_underlying_elem he), Result.andThen_ok, run_sizeOf_of hS, if_neg hz0, hl0, if_true, Sem.run_pure, hp0, Instr.fill, this]
              simp [newRow]
              apply congrArg w.alloc
              apply congrArg (fun c => Obj.cells c e)
              apply Array.ext'
              simp
            · simp only [execOp, ho, Instr.buildSlice, Sem.run_bind, run_underlying (run_underlying_elem he), Result.andThen_ok, run_sizeOf_of hS, if_neg hz0, if_neg hl0, run_zero_of hz', Sem.run_pure, hfill]
              simp [newRow]
          · rw [List.drop_zero, flat_length hun, hlen, ← hfl, List.take_length]
            exact k1.mono hIJ
          · rw [flat_length hun, hlen]; omega
        · cases hs
      · cases hs
    · cases hz
  · cases hi

theorem goes_nilAcc {o : Oper} {i : Inf} (ho : o.op = .assign (.const (.slice none 0 0))) (h : Sim w0 I0 I β κ s sav a w) (hs : stepA s o.dst o.op i = some s') : Goes P w0 I0 I sav o a w s' := by
  rw [ho] at hs
  simp only [stepA] at hs
  split at hs
  · exact goes_map (o := o) (i := i) h (by rw [ho]; rfl) (by rw [ho]; exact hs)
  · rename_i p _ _
    cases hs
    exact ⟨.slice none 0 0, w, I, β, κ, .inl (by simp [execOp, ho, Act.eval]), Imm.le_refl _, KeepsOthers.refl _, (h.newTok p.2).putT o.dst .acc0⟩

theorem flat_ok {ys : List PV} (h : ∀ e ∈ ys, e.ok = true) : (flat ys).all PV.cell = true := by
  simp only [flat, List.all_eq_true, List.mem_flatMap]
  rintro x ⟨e, he, hx⟩
  have := h e he
  simp only [PV.ok, List.all_eq_true] at this
  exact this x hx

/-- A row of values, where it lies. -/
theorem src_of {y : Operand} {p : PV} {ys : List PV} {t' e' : TypeId} {n : Nat} (h : Sim w0 I0 I β κ s sav a w) (hp : pv s y = some p) (hr : rowOf p = some ys) (hu : ys.all (fun e => e.ok && e.cells.length == n) = true) (he : tElem P t' = some e') :
    ∃ news, Src P n t' (a.eval y) ys.length news w ∧ Cs I (flat ys) news := by
  have hC := pv_C h hp
  have hk := run_underlying_elem he
  have hun : ∀ e ∈ ys, e.cells.length = n := fun e he => by
    have := List.all_eq_true.1 hu e he
    simp only [Bool.and_eq_true, beq_iff_eq] at this
    exact this.2
  have hok : (flat ys).all PV.cell = true := flat_ok fun e he => by
    have := List.all_eq_true.1 hu e he
    simp only [Bool.and_eq_true, beq_iff_eq] at this
    exact this.1
  unfold rowOf at hr
  split at hr
  · rename_i ex els
    cases hr
    generalize hv : a.eval y = u at hC
    cases hC with
    | sl0 => exact ⟨[], Src.ofNil w hk 0, .nil⟩
    | sle => exact ⟨[], Src.ofSlice w hk _ 0 0 [] (by simp) (fun j u hj => by simp at hj) (fun u hu => by cases hu), .nil⟩
    | @sl _ _ b off m sz cap arr hI huu hm hc hl hcap hex =>
      subst hm
      have hfl := flat_length hun
      obtain ⟨cs, ty, fz, more, hw, hcs⟩ := h.good b arr hI
      refine ⟨(arr.drop off).take (flat ys).length, Src.ofSlice w hk ⟨b, off, none⟩ ys.length cap _ (by simp only [List.length_take, List.length_drop]; omega) ?_ (hc.cell hok), hc⟩
      intro j u hj
      rw [addr_add]
      exact cellsAt_of hw ⟨(flat ys).length, by rw [hcs, List.drop_append_of_le_length (by omega), List.take_append_of_le_length (by simp; omega)]⟩ j u hj
  · cases hr
    rw [hC.inv_s]
    exact ⟨[], Src.ofNil w hk 0, .nil⟩
  · cases hr

/-- What is asked of append's types. -/
structure AppTy (P : Program) (t t' e : TypeId) (z : Value) (ti : TypeInfo) (n bytes : Nat) : Prop where
  te : tElem P t = some e
  te' : ∃ e', tElem P t' = some e'
  info : P.info? e = some ti
  size : ti.size = n
  bts : ti.bytes = bytes
  zero : ti.zero = some z
  zsize : z.cells.size = n
  pos : bytes ≠ 0

theorem Sim.tkSame (h : Sim w0 I0 I β κ s sav a w) {l : List (Nat × Nat)} (hl : tkOf l = tkOf s.tk) : Sim w0 I0 I β κ { s with tk := l } sav a w :=
  { below := h.below, good := h.good, ext := h.ext, old := h.old, tm := by simp only [hl]; exact h.tm, sv := by simp only [hl]; exact h.sv, box := by simp only [hl]; exact h.box, rob := h.rob, inj := h.inj,
    tok := by simp only [hl]; exact h.tok, tinj := by simp only [hl]; exact h.tinj, dfr := h.dfr }

/-- append, where the row has to move: the new row, and what is known of it. -/
theorem run_grow {t t' e ty : TypeId} {z : Value} {ti : TypeInfo} {n bytes : Nat} (T : AppTy P t t' e z ti n bytes) {base : Option Addr} {len cap m : Nat} {olds news : List Value} {y : Value} (hs : Src P n t' y m news w)
    (hold : (Builtin.firstCells n len (.slice base len cap)).run P w.drew = .ok olds.toArray w.drew) (hg : cap < len + m) (hfit : (len + m) * bytes ≤ 140737488355328) (hol : olds.length = len * n) :
    ∃ cap' cs, (Builtin.append_ #[t, t'] ty #[.slice base len cap, y]).run P w = .ok (.slice (some ⟨w.heap.size, 0, none⟩) (len + m) cap') (w.drew.alloc (.cells cs e)) ∧ len + m ≤ cap' ∧ cs.size = cap' * n ∧
      cs.toList.take ((len + m) * n) = olds ++ news := by
  have hu := run_underlying_elem T.te
  have hb := T.pos
  have h63 : ((len + m : Nat) : Int) ≤ 9223372036854775807 := by
    have : (len + m) * 1 ≤ (len + m) * bytes := Nat.mul_le_mul_left _ (by omega)
    omega
  have hfit' := growslice_fits (bytes := bytes) hg hfit
  have hs' : Src P ti.size t' y m news w := by rw [T.size]; exact hs
  have hrun := run_append_grow_src w t t' ty e ti z hu T.info T.zero base len cap olds (by rw [T.size]; exact hold) y m news hs' hg h63 (by rw [T.bts]; exact hfit')
  have hge := grownCap_ge w (len + m) cap e
  have hnl := hs.newsLen
  refine ⟨_, _, hrun, hge, ?_, ?_⟩
  · simp only [Array.size_append, List.size_toArray, List.length_append, size_zeroCells, T.zsize, hol, hnl]
    rw [← Nat.add_mul, ← Nat.add_mul]
    congr 1
    omega
  · simp only [Array.toList_append, List.toList_toArray]
    rw [List.take_append_of_le_length (by simp only [List.length_append, hol, hnl]; rw [Nat.add_mul]; exact Nat.le_refl _), List.take_of_length_le (by simp only [List.length_append, hol, hnl]; rw [Nat.add_mul]; exact Nat.le_refl _)]

theorem KeepsOthers.drewAlloc (w : World) (o : Obj) : KeepsOthers w (w.drew.alloc o) := (KeepsOthers.drew w).trans (KeepsOthers.alloc _ _)

theorem fits_spec {n bytes : Nat} {els ys : List PV} (h : fits n bytes els ys = true) : (∀ e ∈ els, e.cells.length = n) ∧ ys.all (fun e => e.ok && e.cells.length == n) = true ∧ (∀ e ∈ ys, e.cells.length = n) ∧ (els.length + ys.length) * bytes ≤ 140737488355328 ∧ (flat els).all PV.cell = true := by
  simp only [fits, Bool.and_eq_true, decide_eq_true_eq] at h
  have key : ∀ l : List PV, l.all (fun e => e.ok && e.cells.length == n) = true → ∀ e ∈ l, e.ok = true ∧ e.cells.length = n := fun l hl e he => by
    have := List.all_eq_true.1 hl e he
    simpa only [Bool.and_eq_true, beq_iff_eq] using this
  exact ⟨fun e he => (key _ h.1.1 e he).2, h.1.2, fun e he => (key _ h.1.2 e he).2, h.2, flat_ok fun e he => (key _ h.1.1 e he).1⟩

theorem app_sound {t t' e ty : TypeId} {z : Value} {ti : TypeInfo} {i : Inf} (T : AppTy P t t' e z ti i.n i.t) {d : Nat} {x y : Operand} {tv : TV} {p : PV} {ys : List PV} (h : Sim w0 I0 I β κ s sav a w) (hx : ev s x = some tv) (hp : pv s y = some p)
    (hr : rowOf p = some ys) (hs : appA s d i tv ys = some s') :
    ∃ v w' J β' κ', (Builtin.append_ #[t, t'] ty #[a.eval x, a.eval y]).run P w = .ok v w' ∧ I.le J ∧ KeepsOthers w w' ∧ Sim w0 I0 J β' κ' s' sav (a.put (some d) v) w' := by
  obtain ⟨e', he'⟩ := T.te'
  have hR := ev_R h hx
  unfold appA at hs
  split at hs
  · -- a row that is being appended to
    rename_i tok els
    split at hs
    · rename_i hc
      obtain ⟨hfit, hcur⟩ := hc
      cases hs
      obtain ⟨hu1, hu2, hu3, hb, helsok⟩ := fits_spec hfit
      obtain ⟨news, hsrc, hnews⟩ := src_of h hp hr hu2 he'
      generalize a.eval x = u at hR
      cases hR with
      | acc0 =>
        by_cases hy : ys = []
        · -- nothing to nothing
          subst hy
          have hn : news = [] := by cases hnews; rfl
          subst hn
          have hsl := hsrc.len w
          have hrun : (Builtin.append_ #[t, t'] ty #[.slice none 0 0, a.eval y]).run P w = .ok (.slice none 0 0) w := by
            have hfc : (Builtin.firstCells i.n 0 (a.eval y)).run P w = .ok #[] w := hsrc.cells
            have hln : (Builtin.lenOf (a.eval y)).run P w = .ok 0 w := hsl
            rcases hsrc.kind with ⟨e2, hk⟩ | hk <;> simp [Builtin.append_, run_underlying (run_underlying_elem T.te), run_underlying hk, sizeOf, typeInfo, T.info, hln, T.size, hfc]
          refine ⟨_, w, I, β, κ, hrun, Imm.le_refl _, KeepsOthers.refl _, ?_⟩
          have e1 : tkOf s.tk tok = 0 := by simpa using hcur.symm
          have h1 := h.tkSame (l := upd tok (0 + 0) s.tk) (funext fun j => by rw [tkOf_upd]; split <;> simp_all)
          exact h1.put d .acc0
        · have hpos : 0 < ys.length := List.length_pos_iff.2 hy
          obtain ⟨cap', cs, hrun, hcap, hcs, htake⟩ := run_grow (ty := ty) T (base := none) (len := 0) (cap := 0) (olds := []) hsrc (by simpa using run_firstCells_none (P := P) w.drew i.n 0 0 0) (by omega) (by simpa using hb) (by simp)
          have e1 : tkOf s.tk tok = 0 := by simpa using hcur.symm
          obtain ⟨J, κ', hIJ, hsim, hacc⟩ := h.drew.ownNew tok ys.length cap' i.n ys cs e rfl (by omega) hcs (by omega) hu3
            (by rw [flat_length hu3]; simp only [Nat.zero_add, List.nil_append] at htake; rw [htake]; exact hnews)
            (by simp only [Nat.zero_add, List.nil_append] at htake; rw [htake]; exact hsrc.one)
          refine ⟨_, _, J, β, κ', hrun, hIJ, KeepsOthers.drewAlloc w _, ?_⟩
          simpa [A.putT] using hsim.put d (by simpa using hacc)
      | @acc _ _ c m cap sz g1 g2 g3 g4 g5 g6 =>
        subst g2
        have hκ := g6 hcur
        have hsz : sz = i.n := by
          obtain ⟨arr, _, q2, _⟩ := g4
          obtain ⟨e1, he1⟩ := List.exists_mem_of_ne_nil els g1
          rw [← q2 e1 he1, hu1 e1 he1]
        subst hsz
        have hlen0 : 0 < els.length := List.length_pos_iff.2 g1
        obtain ⟨_, cs, ty0, arr, c2, c3, c4, c5, c6⟩ := h.tok tok (by omega)
        rw [hκ] at c2 c3 c4 c5 c6
        simp only at c2 c3 c4 c5 c6
        rw [← hcur] at c5
        obtain ⟨cs1, ty1, fz1, more1, q1, q2⟩ := h.good c arr c4
        rw [c2] at q1
        cases q1
        have hT : P.underlying t = some (.slice e) := run_underlying_elem T.te
        have hsrc' : Src P ti.size t' (a.eval y) ys.length news w := by rw [T.size]; exact hsrc
        have hnl := hsrc.newsLen
        by_cases hroom : els.length + ys.length ≤ cap
        · have hmul : (els.length + ys.length) * i.n ≤ cap * i.n := Nat.mul_le_mul_right _ hroom
          rw [Nat.add_mul] at hmul
          have hrun := run_append_room_src w t t' ty e ti hT T.info c 0 els.length cap (a.eval y) ys.length news hsrc' hroom
            (fun j hj => by
              have : els.length * ti.size + j < cs.size := by rw [T.size, c3]; omega
              simp [World.cell?, c2, this])
            (fun j hj => by simp [World.frozen?, c2])
          rw [T.size] at hrun
          simp only [Nat.zero_add] at hrun
          by_cases hy : ys = []
          · subst hy
            have hn0 : news = [] := List.eq_nil_of_length_eq_zero (by simpa using hnl)
            subst hn0
            refine ⟨_, w, I, β, κ, hrun, Imm.le_refl _, KeepsOthers.refl _, ?_⟩
            have h1 := h.tkSame (l := upd tok (els.length + 0) s.tk) (funext fun j => by rw [tkOf_upd]; split <;> simp_all)
            have h2 := h1.put d (x := .acc tok (els ++ [])) (v := .slice (some ⟨c, 0, none⟩) (els.length + 0) cap)
              (by
                have e1 : tkOf (upd tok (els.length + 0) s.tk) = tkOf s.tk := funext fun j => by rw [tkOf_upd]; split <;> simp_all
                have hacc : R I β κ (tkOf s.tk) (.acc tok els) (.slice (some ⟨c, 0, none⟩) els.length cap) := .acc g1 rfl g3 g4 g5 g6
                show R I β κ (tkOf (upd tok (els.length + 0) s.tk)) _ _
                rw [e1, List.append_nil]
                exact hacc)
            exact h2
          · obtain ⟨cs', w1, w2, w3⟩ := setCells_heap c news (els.length * i.n) w cs c2 (by rw [c3, hnl]; omega)
            obtain ⟨J, κ', hIJ, hsim, hacc⟩ := h.ownGrow (ys := ys) (new := news) hcur.symm g1 hy rfl hκ hroom g4 hu3 hnews c2 (OnlyAt.setCells c news _ w) w1 w3 ⟨_, w2⟩ hsrc.one
            exact ⟨_, _, J, β, κ', hrun, hIJ, KeepsOthers.onlyAt (OnlyAt.setCells c news _ w) c2, hsim.put d hacc⟩
        · have hcells : ∀ j v, arr[j]? = some v → w.drew.cell? ((⟨c, 0, none⟩ : Addr).add j) = some v := fun j v hj => by
            rw [addr_add]
            show w.cell? _ = _
            exact cellsAt_of c2 ⟨arr.length, by rw [List.drop_zero, q2, List.take_left]⟩ j v hj
          obtain ⟨cap', cs', hrun, hcap, hcs, htake⟩ := run_grow (ty := ty) T (base := some ⟨c, 0, none⟩) (len := els.length) (cap := cap) (olds := arr) hsrc (run_firstCells_some (P := P) w.drew i.n els.length ⟨c, 0, none⟩ els.length cap arr c5 hcells) (by omega) hb c5
          have hun : ∀ x ∈ els ++ ys, x.cells.length = i.n := fun x hx => by
            rcases List.mem_append.1 hx with hx | hx
            · exact hu1 x hx
            · exact hu3 x hx
          have hcf : Cs I (flat (els ++ ys)) (arr ++ news) := by
            rw [flat_append]
            obtain ⟨arr', r1, r2, r3, r4⟩ := g4
            rw [c4] at r1
            cases r1
            have : arr.take (flat els).length = arr := List.take_of_length_le (by rw [flat_length hu1]; omega)
            rw [this] at r3
            exact r3.append hnews
          have harrone : ∀ v ∈ arr, v.oneCell' = true := by
            obtain ⟨arr', r1, r2, r3, r4⟩ := g4
            rw [c4] at r1
            cases r1
            have : arr.take (flat els).length = arr := List.take_of_length_le (by rw [flat_length hu1]; omega)
            rw [this] at r3
            exact r3.cell helsok
          have hy : 0 < ys.length := by omega
          obtain ⟨J, κ', hIJ, hsim, hacc⟩ := h.drew.ownNew tok (els.length + ys.length) cap' i.n (els ++ ys) cs' e (by simp) (by omega) hcs hcap hun
            (by rw [flat_length hun, List.length_append, htake]; exact hcf)
            (by rw [htake]; intro v hv; rcases List.mem_append.1 hv with hv | hv
                · exact harrone v hv
                · exact hsrc.one v hv)
          exact ⟨_, _, J, β, κ', hrun, hIJ, KeepsOthers.drewAlloc w _, hsim.put d hacc⟩
    · cases hs
  · -- nil
    split at hs
    · cases hs
    split at hs
    · rename_i hfit
      cases hs
      obtain ⟨_, hu2, hu3, hb, _⟩ := fits_spec hfit
      obtain ⟨news, hsrc, hnews⟩ := src_of h hp hr hu2 he'
      have hx0 := hR.inv.inv_s
      rw [hx0]
      have h1 := h.newTok d
      have e1 : tkOf (s.newTok d).tk d = 0 := by simp [St.newTok, tkOf_upd]
      by_cases hy : ys = []
      · subst hy
        have hn : news = [] := by cases hnews; rfl
        subst hn
        have hrun : (Builtin.append_ #[t, t'] ty #[.slice none 0 0, a.eval y]).run P w = .ok (.slice none 0 0) w := by
          have hfc : (Builtin.firstCells i.n 0 (a.eval y)).run P w = .ok #[] w := hsrc.cells
          have hln : (Builtin.lenOf (a.eval y)).run P w = .ok 0 w := hsrc.len w
          rcases hsrc.kind with ⟨e2, hk⟩ | hk <;> simp [Builtin.append_, run_underlying (run_underlying_elem T.te), run_underlying hk, sizeOf, typeInfo, T.info, hln, T.size, hfc]
        refine ⟨_, w, I, β, κ, hrun, Imm.le_refl _, KeepsOthers.refl _, ?_⟩
        have h2 := h1.tkSame (l := upd d 0 (s.newTok d).tk) (funext fun j => by rw [tkOf_upd]; split <;> simp_all)
        exact h2.put d .acc0
      · have hpos : 0 < ys.length := List.length_pos_iff.2 hy
        obtain ⟨cap', cs, hrun, hcap, hcs, htake⟩ := run_grow (ty := ty) T (base := none) (len := 0) (cap := 0) (olds := []) hsrc (by simpa using run_firstCells_none (P := P) w.drew i.n 0 0 0) (by omega) (by simpa using hb) (by simp)
        simp only [Nat.zero_add, List.nil_append] at htake hrun hcap
        obtain ⟨J, κ', hIJ, hsim, hacc⟩ := h1.drew.ownNew d ys.length cap' i.n ys cs e rfl (by omega) hcs hcap hu3
          (by rw [flat_length hu3, htake]; exact hnews) (by rw [htake]; exact hsrc.one)
        exact ⟨_, _, J, β, κ', hrun, hIJ, KeepsOthers.drewAlloc w _, hsim.put d hacc⟩
    · cases hs
  · -- a slice that ends where its block does
    rename_i els
    split at hs
    · rename_i hfit
      obtain ⟨hu1, hu2, hu3, hb, helsok⟩ := fits_spec hfit
      obtain ⟨news, hsrc, hnews⟩ := src_of h hp hr hu2 he'
      have hC := hR.inv
      have hT : P.underlying t = some (.slice e) := run_underlying_elem T.te
      -- what the old slice is
      obtain ⟨base, olds, hxe, hol, hcf, hold, hone⟩ : ∃ base olds, a.eval x = .slice base els.length els.length ∧ olds.length = els.length * i.n ∧ Cs I (flat els) olds ∧
          (Builtin.firstCells i.n els.length (.slice base els.length els.length)).run P w.drew = .ok olds.toArray w.drew ∧ ∀ v ∈ olds, v.oneCell' = true := by
        generalize a.eval x = u at hC
        cases hC with
        | sl0 => exact ⟨none, [], rfl, by simp, .nil, by simpa using run_firstCells_none (P := P) w.drew i.n 0 0 0, by simp⟩
        | @sle _ ad => exact ⟨some ad, [], rfl, by simp, .nil, run_firstCells_some (P := P) w.drew i.n 0 ad 0 0 [] (by simp) (fun j v hj => by simp at hj), by simp⟩
        | @sl _ _ b off m sz cap arr hI huu hm hc hl hcap hex =>
          subst hm
          have hc1 := hex rfl
          subst hc1
          obtain ⟨cs1, ty1, fz1, more1, q1, q2⟩ := h.good b arr hI
          have hfl := flat_length hu1
          refine ⟨some ⟨b, off, none⟩, (arr.drop off).take (flat els).length, rfl, by simp only [List.length_take, List.length_drop]; omega, hc, ?_, hc.cell helsok⟩
          refine run_firstCells_some (P := P) w.drew i.n els.length ⟨b, off, none⟩ els.length els.length _ (by simp only [List.length_take, List.length_drop]; omega) (fun j v hj => ?_)
          rw [addr_add]
          show w.cell? _ = _
          exact cellsAt_of q1 ⟨(flat els).length, by rw [q2, List.drop_append_of_le_length (by omega), List.take_append_of_le_length (by simp; omega)]⟩ j v hj
      have hun : ∀ x ∈ els ++ ys, x.cells.length = i.n := fun x hx => by
        rcases List.mem_append.1 hx with hx | hx
        · exact hu1 x hx
        · exact hu3 x hx
      have hcfl : Cs I (flat (els ++ ys)) (olds ++ news) := by rw [flat_append]; exact hcf.append hnews
      have hallone : ∀ v ∈ olds ++ news, v.oneCell' = true := fun v hv => by
        rcases List.mem_append.1 hv with hv | hv
        · exact hone v hv
        · exact hsrc.one v hv
      by_cases hy : ys = []
      · subst hy
        split at hs
        · cases hs
          have hn : news = [] := by cases hnews; rfl
          subst hn
          have hfc : (Builtin.firstCells i.n 0 (a.eval y)).run P w = .ok #[] w := hsrc.cells
          have hln : (Builtin.lenOf (a.eval y)).run P w = .ok 0 w := hsrc.len w
          have hrun : (Builtin.append_ #[t, t'] ty #[a.eval x, a.eval y]).run P w = .ok (a.eval x) w := by
            rw [hxe]
            rcases hsrc.kind with ⟨e2, hk⟩ | hk <;> cases base <;> simp [Builtin.append_, run_underlying hT, run_underlying hk, sizeOf, typeInfo, T.info, hln, T.size, hfc, storeCells]
          refine ⟨_, w, I, β, κ, hrun, Imm.le_refl _, KeepsOthers.refl _, h.putT (some d) (.v ?_)⟩
          simp only [List.append_nil]
          clear hrun hxe
          generalize a.eval x = u at hC
          cases hC with
          | sl0 => exact .sl0
          | sle => exact .sle
          | sl k1 k2 k3 k4 k5 k6 k7 => exact .sl k1 k2 k3 k4 k5 k6 (fun h => by cases h)
        · simp at hs
      · have hpos : 0 < ys.length := List.length_pos_iff.2 hy
        obtain ⟨cap', cs, hrun, hcap, hcs, htake⟩ := run_grow (ty := ty) T (base := base) (len := els.length) (cap := els.length) (olds := olds) hsrc hold (by omega) hb hol
        rw [← hxe] at hrun
        split at hs
        · cases hs
          obtain ⟨J, hIJ, hJ, hsim⟩ := h.drew.newImm cs e ((els.length + ys.length) * i.n) (by rw [htake]; exact hallone)
          rw [htake] at hJ
          have hfl := flat_length hun
          have hlen : (olds ++ news).length = (els.length + ys.length) * i.n := by rw [← hcfl.length, hfl, List.length_append]
          refine ⟨_, _, J, β, κ, hrun, hIJ, KeepsOthers.drewAlloc w _, hsim.putT (some d) (.v (.sl hJ hun (by simp) ?_ ?_ hcap (fun h => by cases h)))⟩
          · rw [List.drop_zero, hfl, List.length_append, ← hlen, List.take_length]
            exact hcfl.mono hIJ
          · rw [hfl, hlen, List.length_append]; omega
        · split at hs
          · cases hs
          · cases hs
            have h1 := h.newTok d
            have e1 : tkOf (s.newTok d).tk d = 0 := by simp [St.newTok, tkOf_upd]
            obtain ⟨J, κ', hIJ, hsim, hacc⟩ := h1.drew.ownNew d (els.length + ys.length) cap' i.n (els ++ ys) cs e (by simp) (by omega) hcs hcap hun
              (by rw [flat_length hun, List.length_append, htake]; exact hcfl) (by rw [htake]; exact hallone)
            exact ⟨_, _, J, β, κ', hrun, hIJ, KeepsOthers.drewAlloc w _, hsim.put d hacc⟩
    · cases hs
  · cases hs

end
end Go.Proofs.Ytadfcbpakfaaaaa.A

/- The law of 'stepA'. -/
set_option linter.unusedVariables false
set_option linter.unusedSimpArgs false
namespace Go.Proofs.Ytadfcbpakfaaaaa.A
open Go Go.RowKit

section
variable {P : Program} {w0 w w' : World} {I0 I J : Imm} {β : Nat → Nat} {κ : Nat → Nat × Nat × Nat} {s s' : St} {sav : List (Array Value)} {a : Act} {tk : Nat → Nat}

theorem goes_call {o : Oper} {i : Inf} {c : Call} (ho : o.op = .call c) (h : Sim w0 I0 I β κ s sav a w) (hi : infOk' P o.op i = true) (hs : stepA s o.dst o.op i = some s') : Goes P w0 I0 I sav o a w s' := by
  obtain ⟨callee, args, argTypes⟩ := c
  rw [ho] at hi hs
  by_cases hap : callee = .builtin .append
  · subst hap
    simp only [infOk'] at hi
    simp only [stepA] at hs
    split at hs
    · rename_i x y d hc hargs hd
      split at hs
      · rename_i tv ys hx hy
        obtain ⟨p, hp, hr⟩ := Option.bind_eq_some_iff.1 hy
        split at hi
        · rename_i t t' _ hts
          split at hi
          · rename_i e he
            simp only [Bool.and_eq_true, beq_iff_eq, bne_iff_ne, ne_eq] at hi
            obtain ⟨⟨⟨⟨h1, h2⟩, h3⟩, h4⟩, h5⟩ := hi
            split at h5
            · rename_i z hz
              simp only [beq_iff_eq] at h5
              obtain ⟨ti, hti, hzz⟩ := Option.bind_eq_some_iff.1 hz
              have T : AppTy P t t' e z ti i.n i.t :=
                { te := he, te' := Option.isSome_iff_exists.1 h1, info := hti, size := by simpa [tSize, hti] using h2, bts := by simpa [hti] using h4, zero := hzz, zsize := h5, pos := h3 }
              obtain ⟨v, w', J, β', κ', hrun, hIJ, hk, hsim⟩ := app_sound (ty := o.type) T h hx hp hr hs
              have ha : args = #[x, y] := by obtain ⟨args⟩ := args; simpa using hargs
              have hat : argTypes = #[t, t'] := by obtain ⟨argTypes⟩ := argTypes; simpa using hts
              subst ha
              subst hat
              exact ⟨v, w', J, β', κ', .inl (by simp [execOp, ho, resolve, invoke, builtin, hrun]), hIJ, hk, by rw [hd]; exact hsim⟩
            · cases h5
          · cases hi
        · cases hi
        · simp_all
      · cases hs
    · exfalso
      obtain ⟨tv, h1, _⟩ := Option.map_eq_some_iff.1 hs
      simp [valA] at h1
  · have e1 : stepA s o.dst (.call ⟨callee, args, argTypes⟩) i = (valA s (.call ⟨callee, args, argTypes⟩) i).map (putT s o.dst) := by
      simp only [stepA]
      split <;> simp_all
    have e2 : infOk' P (.call ⟨callee, args, argTypes⟩) i = infOk P (.call ⟨callee, args, argTypes⟩) i := by
      simp only [infOk']
      split <;> simp_all
    rw [e1] at hs
    rw [e2] at hi
    exact goes_map (o := o) (i := i) h (by rw [ho]; exact hi) (by rw [ho]; exact hs)

theorem goes_step {o : Oper} {i : Inf} (h : Sim w0 I0 I β κ s sav a w) (hi : infOk' P o.op i = true) (hs : stepA s o.dst o.op i = some s') : Goes P w0 I0 I sav o a w s' := by
  cases ho : o.op with
  | alloc t => exact goes_alloc ho h hi hs
  | box t x => exact goes_box ho h hs
  | makeSlice t l c => exact goes_make ho h hi hs
  | store t x y => exact goes_store ho h hi hs
  | buildSlice t len parts => exact goes_lit ho h hi hs
  | call c => exact goes_call ho h hi hs
  | assign x =>
    by_cases hx : x = .const (.slice none 0 0)
    · subst hx; exact goes_nilAcc ho h hs
    · rw [ho] at hi hs
      refine goes_map (o := o) (i := i) h (by rw [ho]; exact hi) ?_
      rw [ho]
      unfold stepA at hs
      split at hs <;> first | exact hs | (rename_i e; cases e) | skip
      · exact absurd rfl hx
  | _ =>
    rw [ho] at hi hs
    exact goes_map (o := o) (i := i) h (by rw [ho]; exact hi) (by rw [ho]; exact hs)

end
end Go.Proofs.Ytadfcbpakfaaaaa.A

