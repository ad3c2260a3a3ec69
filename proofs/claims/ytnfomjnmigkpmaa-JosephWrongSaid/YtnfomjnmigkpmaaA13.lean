/- What 'stepA' tells, the model does. -/
import Derived.Test.YtnfomjnmigkpmaaA12
import Derived.Laws.MakeOwn
set_option linter.unusedVariables false
set_option linter.unusedSimpArgs false
namespace Go.Proofs.Ytnfomjnmigkpmaa.A
open Go Go.RowKit

section
variable {P : Program} {w0 w w' : World} {I0 I J : Imm} {β : Nat → Nat} {κ : Nat → Nat × Nat × Nat} {s s' : St} {sav : List (Array Value)} {a : Act} {tk : Nat → Nat}

/-- An operation goes through; the state behind it reads as s'. -/
def Goes (P : Program) (w0 : World) (I0 I : Imm) (sav : List (Array Value)) (o : Oper) (a : Act) (w : World) (s' : St) : Prop :=
  ∃ v w' J β' κ', ((execOp a.eval o).run P w = .ok (.value v) w' ∨ ((execOp a.eval o).run P w = .ok .skip w' ∧ v = undef)) ∧ I.le J ∧ KeepsOthers w w' ∧ Sim w0 I0 J β' κ' s' sav (a.put o.dst v) w'

theorem goes_val {o : Oper} {i : Inf} {tv : TV} (h : Sim w0 I0 I β κ s sav a w) (hi : infOk P o.op i = true) (hv : valA s o.op i = some tv) : Goes P w0 I0 I sav o a w (putT s o.dst tv) := by
  obtain ⟨v, hr, hR⟩ := run_valA h hi hv
  exact ⟨v, w, I, β, κ, .inl hr, Imm.le_refl _, KeepsOthers.refl _, h.putT o.dst hR⟩

theorem goes_map {o : Oper} {i : Inf} (h : Sim w0 I0 I β κ s sav a w) (hi : infOk P o.op i = true) (hv : (valA s o.op i).map (putT s o.dst) = some s') : Goes P w0 I0 I sav o a w s' := by
  obtain ⟨tv, h1, rfl⟩ := Option.map_eq_some_iff.1 hv
  exact goes_val h hi h1

theorem newToks_fields (l : List (Nat × Nat)) : ∀ (s : St), (newToks l s).ro = s.ro := by
  induction l with
  | nil => exact fun _ => rfl
  | cons p l ih => exact fun s => (ih (s.newTok p.2)).trans rfl

theorem goes_alloc {o : Oper} {i : Inf} {t : TypeId} (ho : o.op = .alloc t) (h : Sim w0 I0 I β κ s sav a w) (hi : infOk' P o.op i = true) (hs : stepA s o.dst o.op i = some s') : Goes P w0 I0 I sav o a w s' := by
  rw [ho] at hi hs
  simp only [infOk'] at hi
  simp only [stepA] at hs
  split at hi
  · rename_i z hz
    simp only [Bool.and_eq_true] at hi
    split at hs
    · rename_i d hd
      split at hs
      · rename_i hro
        cases hs
        have h1 := h.newToks i.acc
        have hzero := constsEq_eq hi.1
        have h2 := h1.newBox d (zeroT i) z.cells t (by rw [newToks_fields]; simpa using hro) (by rw [hzero]; exact Rs.zero i hi.2) (by rw [hzero]; exact constsEq_one hi.1)
        refine ⟨.pointer (some ⟨w.heap.size, 0, none⟩), w.alloc (.cells z.cells t), I, fun j => if j = d then w.heap.size else β j, κ, .inl ?_, Imm.le_refl _, KeepsOthers.alloc w _, ?_⟩
        · simp [execOp, ho, Instr.alloc, run_zero_of hz, newVar, newRow]
        · rw [hd]
          have hp : R I (fun j => if j = d then w.heap.size else β j) κ (tkOf ((newToks i.acc s).newBox d (zeroT i)).tk) (.ptr d 0) (.pointer (some ⟨(fun j => if j = d then w.heap.size else β j) d, 0, none⟩)) := .ptr
          simp only [if_true] at hp
          exact h2.put d hp
      · cases hs
    · cases hs
  · cases hi

theorem goes_box {o : Oper} {i : Inf} {t : TypeId} {x : Operand} (ho : o.op = .box t x) (h : Sim w0 I0 I β κ s sav a w) (hs : stepA s o.dst o.op i = some s') : Goes P w0 I0 I sav o a w s' := by
  rw [ho] at hs
  simp only [stepA] at hs
  split at hs
  · rename_i d tv hd hx
    split at hs
    · rename_i hro
      obtain ⟨cs, hcs, rfl⟩ := Option.map_eq_some_iff.1 hs
      obtain ⟨h1, h2, _⟩ := cellsOf_sound (ev_R h hx) hcs
      have h3 := h.newBox d cs (a.eval x).cells t (by simpa using hro) h1 h2
      refine ⟨.pointer (some ⟨w.heap.size, 0, none⟩), w.alloc (.cells (a.eval x).cells t), I, fun j => if j = d then w.heap.size else β j, κ, .inl ?_, Imm.le_refl _, KeepsOthers.alloc w _, ?_⟩
      · simp [execOp, ho, Instr.box, newVar, newRow]
      · rw [hd]
        have hp : R I (fun j => if j = d then w.heap.size else β j) κ (tkOf (s.newBox d cs).tk) (.ptr d 0) (.pointer (some ⟨(fun j => if j = d then w.heap.size else β j) d, 0, none⟩)) := .ptr
        simp only [if_true] at hp
        exact h3.put d hp
    · cases hs
  · cases hs

theorem goes_store {o : Oper} {i : Inf} {t : TypeId} {x y : Operand} (ho : o.op = .store t x y) (h : Sim w0 I0 I β κ s sav a w) (hi : infOk' P o.op i = true) (hs : stepA s o.dst o.op i = some s') : Goes P w0 I0 I sav o a w s' := by
  rw [ho] at hi hs
  simp only [infOk', beq_iff_eq] at hi
  simp only [stepA] at hs
  split at hs
  · rename_i p q hp hq
    obtain ⟨s1, h1, rfl⟩ := Option.map_eq_some_iff.1 hs
    unfold storeA at h1
    split at h1
    · rename_i b off
      split at h1
      · rename_i cells xs hb hxs
        split at h1
        · rename_i hlen
          cases h1
          obtain ⟨k1, k2, k3⟩ := cellsOf_sound (ev_R h hq) hxs
          obtain ⟨b1, b2, cs, ty, b3, b4, b5⟩ := h.box b cells hb
          have hxl : xs.length = (a.eval y).cells.toList.length := k1.length
          have hcl : cells.length = cs.toList.length := b4.length
          have haddr : a.eval x = .pointer (some ⟨β b, off, none⟩) := by
            have := ev_R h hp
            generalize a.eval x = u at this
            cases this
            rfl
          have hrun := run_storeCells_at (P := P) (β b) off ty (a.eval y).cells.toList 0 cs w b3 (by simp only [Array.length_toList] at hcl hxl ⊢; omega) k2
          simp only [Nat.add_zero] at hrun
          have honly := OnlyAt.setRow w (β b) (cs.toList.take off ++ (a.eval y).cells.toList ++ cs.toList.drop (off + (a.eval y).cells.toList.length)).toArray
          have hheap := setRow_heap w (β b) cs (cs.toList.take off ++ (a.eval y).cells.toList ++ cs.toList.drop (off + (a.eval y).cells.toList.length)).toArray ty (0, 0) b3
          have h2 := h.store hb honly hheap (cells' := cells.take off ++ xs ++ cells.drop (off + xs.length))
            (by simpa [hxl] using ((b4.take off).append k1).append (b4.drop (off + xs.length)))
            (by
              intro v hv
              simp only [List.mem_append] at hv
              rcases hv with (hv | hv) | hv
              · exact b5 v (List.mem_of_mem_take hv)
              · exact k2 v hv
              · exact b5 v (List.mem_of_mem_drop hv))
          refine ⟨undef, _, I, β, κ, .inr ⟨?_, rfl⟩, Imm.le_refl _, KeepsOthers.onlyAt honly b3, h2.putT o.dst (.v (.junk _))⟩
          have hsz : ¬ ((a.eval y).cells.size ≠ i.n) := by simp only [Array.length_toList] at hxl; omega
          simp only [execOp, ho, Instr.storeAt, haddr, Instr.sureAddr, storeVar, Sem.run_bind, Sem.run_pure, Result.andThen_ok, run_sizeOf_of hi, if_neg hsz, hrun]
        · cases h1
      · cases h1
    · cases h1
  · cases hs

end
end Go.Proofs.Ytnfomjnmigkpmaa.A
