/- What 'stepA' tells, the model does. -/
import Derived.Test.YtfikikfbdgpdcaaA12
import Derived.Laws.MakeOwn
set_option linter.unusedVariables false
set_option linter.unusedSimpArgs false
namespace Go.Proofs.Ytfikikfbdgpdcaa.A
open Go Go.RowKit

section
variable {P : Program} {w0 w w' : World} {I0 I J : Imm} {β : Nat → Nat} {κ : Nat → Nat × Nat × Nat} {s s' : St} {sav : List (Array Value)} {a : Act} {tk : Nat → Nat}

/-- An operation goes through; the state behind it reads as s'. -/
def Goes (P : Program) (w0 : World) (I0 I : Imm) (sav : List (Array Value)) (o : Oper) (a : Act) (w : World) (s' : St) : Prop :=
  ∃ v w' J β' κ', ((execOp a.eval o).run P w = .ok (.value v) w' ∨ ((execOp a.eval o).run P w = .ok .skip w' ∧ v = undef)) ∧ I.le J ∧ KeepsOthers w w' ∧ Sim w0 I0 J β' κ' s' sav (a.put o.dst v) w'

theorem goes_val {o : Oper} {i : Inf} {tv : TV} (h : Sim w0 I0 I β κ s sav a w) (hi : infOk P o.op i = true) (hv : valA s o.op i = some tv) : Goes P w0 I0 I sav o a w (putT s o.dst tv) := by
  obtain ⟨v, hr, hR⟩ := run_valA h hi hv
  exact ⟨v, w, I, β, κ, .inl hr, Imm.le_refl _, KeepsOthers.refl _, h.putT o.dst hR⟩

theorem goes_map {o : Oper} {i : Inf} (h : Sim w0 I0 I β κ s sav a w) (hi : infOk P o.op i = true) (hv : (valA s o.op i).map (putT s o.dst) = some s') : Goes P w0 I0 I sav o a w s' := by
  obtain ⟨tv, h1, rfl⟩ := Option.map_eq_some_iff.1 hv
  exact goes_val h hi h1

theorem newToks_fields (l : List (Nat × Nat)) : ∀ (s : St), (newToks l s).ro = s.ro := by
  induction l with
  | nil => exact fun _ => rfl
  | cons p l ih => exact fun s => (ih (s.newTok p.2)).trans rfl

theorem goes_alloc {o : Oper} {i : Inf} {t : TypeId} (ho : o.op = .alloc t) (h : Sim w0 I0 I β κ s sav a w) (hi : infOk' P o.op i = true) (hs : stepA s o.dst o.op i = some s') : Goes P w0 I0 I sav o a w s' := by
  rw [ho] at hi hs
  simp only [infOk'] at hi
  simp only [stepA] at hs
  split at hi
  · rename_i z hz
    simp only [Bool.and_eq_true] at hi
    split at hs
    · rename_i d hd
      split at hs
      · rename_i hro
        cases hs
        have h1 := h.newToks i.acc
        have hzero := constsEq_eq hi.1
        have h2 := h1.newBox d (zeroT i) z.cells t (by rw [newToks_fields]; simpa using hro) (by rw [hzero]; exact Rs.zero i hi.2) (by rw [hzero]; exact constsEq_one hi.1)
        refine ⟨.pointer (some ⟨w.heap.size, 0, none⟩), w.alloc (.cells z.cells t), I, fun j => if j = d then w.heap.size else β j, κ, .inl ?_, Imm.le_refl _, KeepsOthers.alloc w _, ?_⟩
        · simp [execOp, ho, Instr.alloc, run_zero_of hz, newVar, newRow]
        · rw [hd]
          have hp : R I (fun j => if j = d then w.heap.size else β j) κ (tkOf ((newToks i.acc s).newBox d (zeroT i)).tk) (.ptr d 0) (.pointer (some ⟨(fun j => if j = d then w.heap.size else β j) d, 0, none⟩)) := .ptr
          simp only [if_true] at hp
          exact h2.put d hp
      · cases hs
    · cases hs
  · cases hi

theorem made_one {z0 : Value} {z : Array Value} (hz : z.toList = [z0]) (n : Nat) : (madeCells z n).toList = List.replicate n z0 := by
  have : z = #[z0] := by rw [← Array.toList_inj, hz]
  subst this
  apply List.ext_getElem
  · simp [madeCells]
  · intro i h1 h2
    simp [madeCells, Nat.mod_one]

theorem goes_make {o : Oper} {i : Inf} {t : TypeId} {l c : Operand} (ho : o.op = .makeSlice t l c) (h : Sim w0 I0 I β κ s sav a w) (hi : infOk' P o.op i = true) (hs : stepA s o.dst o.op i = some s') : Goes P w0 I0 I sav o a w s' := by
  rw [ho] at hi hs
  simp only [infOk'] at hi
  simp only [stepA] at hs
  split at hs
  · rename_i d k n k' m hd hl hc
    split at hs
    · rename_i hcond
      obtain ⟨rfl, h0, hby, hbig, hro⟩ := hcond
      cases hs
      split at hi
      · rename_i e he
        simp only [Bool.and_eq_true, beq_iff_eq] at hi
        obtain ⟨⟨h1, h2⟩, h3⟩ := hi
        split at h3
        · rename_i z hz
          simp only [Bool.and_eq_true, beq_iff_eq] at h3
          obtain ⟨h4, h5⟩ := h3
          obtain ⟨ti, hti, hzz⟩ := Option.bind_eq_some_iff.1 hz
          have hsz : ti.size = 1 := by simpa [tSize, hti] using h1
          have hbt : ti.bytes = i.t := by simpa [hti] using h2
          have hzero := constsEq_eq h4
          obtain ⟨z0, hz0⟩ : ∃ z0, i.zero = [z0] := by
            match hq : i.zero, h5 with
            | [x], _ => exact ⟨x, rfl⟩
          have e1 : a.eval l = .int k n := (ev_R h hl).inv.inv_s
          have e2 : a.eval c = .int k' n := (ev_R h hc).inv.inv_s
          have hrun := run_make (P := P) w t e ti z (run_underlying_elem he) hti hzz k k' n n h0 (Int.le_refl _) (by rw [hbt, Int.mul_comm]; omega) (by omega)
          rw [hsz, Nat.mul_one] at hrun
          have hcells : (madeCells z.cells n.toNat).toList = List.replicate n.toNat z0 := made_one (by rw [hzero, hz0]) _
          have hone : ∀ v ∈ (madeCells z.cells n.toNat).toList, v.oneCell' = true := by
            rw [hcells]
            intro v hv
            rw [List.eq_of_mem_replicate hv]
            exact constsEq_one h4 z0 (by rw [hz0]; simp)
          have hrs : Rs I β κ (tkOf s.tk) (List.replicate n.toNat (.v (.s (i.zero.headD .nilFunc)))) (madeCells z.cells n.toNat).toList := by
            rw [hcells, hz0]
            generalize n.toNat = q
            induction q with
            | zero => exact .nil
            | succ q ih => exact .cons (.v (.s _)) ih
          have h3 := h.newBox d _ (madeCells z.cells n.toNat) e (by simpa using hro) hrs hone
          refine ⟨.slice (some ⟨w.heap.size, 0, none⟩) n.toNat n.toNat, w.alloc (.cells (madeCells z.cells n.toNat) e), I, fun j => if j = d then w.heap.size else β j, κ, .inl ?_, Imm.le_refl _, KeepsOthers.alloc w _, ?_⟩
          · simp [execOp, ho, e1, e2, hrun]
          · rw [hd]
            have hp : R I (fun j => if j = d then w.heap.size else β j) κ (tkOf (s.newBox d (List.replicate n.toNat (.v (.s (i.zero.headD .nilFunc))))).tk) (.own d n.toNat) (.slice (some ⟨(fun j => if j = d then w.heap.size else β j) d, 0, none⟩) n.toNat n.toNat) := .own
            simp only [if_true] at hp
            exact h3.put d hp
        · cases h3
      · cases hi
    · cases hs
  · cases hs

theorem goes_box {o : Oper} {i : Inf} {t : TypeId} {x : Operand} (ho : o.op = .box t x) (h : Sim w0 I0 I β κ s sav a w) (hs : stepA s o.dst o.op i = some s') : Goes P w0 I0 I sav o a w s' := by
  rw [ho] at hs
  simp only [stepA] at hs
  split at hs
  · rename_i d tv hd hx
    split at hs
    · rename_i hro
      obtain ⟨cs, hcs, rfl⟩ := Option.map_eq_some_iff.1 hs
      obtain ⟨h1, h2, _⟩ := cellsOf_sound (ev_R h hx) hcs
      have h3 := h.newBox d cs (a.eval x).cells t (by simpa using hro) h1 h2
      refine ⟨.pointer (some ⟨w.heap.size, 0, none⟩), w.alloc (.cells (a.eval x).cells t), I, fun j => if j = d then w.heap.size else β j, κ, .inl ?_, Imm.le_refl _, KeepsOthers.alloc w _, ?_⟩
      · simp [execOp, ho, Instr.box, newVar, newRow]
      · rw [hd]
        have hp : R I (fun j => if j = d then w.heap.size else β j) κ (tkOf (s.newBox d cs).tk) (.ptr d 0) (.pointer (some ⟨(fun j => if j = d then w.heap.size else β j) d, 0, none⟩)) := .ptr
        simp only [if_true] at hp
        exact h3.put d hp
    · cases hs
  · cases hs

theorem goes_store {o : Oper} {i : Inf} {t : TypeId} {x y : Operand} (ho : o.op = .store t x y) (h : Sim w0 I0 I β κ s sav a w) (hi : infOk' P o.op i = true) (hs : stepA s o.dst o.op i = some s') : Goes P w0 I0 I sav o a w s' := by
  rw [ho] at hi hs
  simp only [infOk', beq_iff_eq] at hi
  simp only [stepA] at hs
  split at hs
  · rename_i p q hp hq
    obtain ⟨s1, h1, rfl⟩ := Option.map_eq_some_iff.1 hs
    unfold storeA at h1
    split at h1
    · rename_i b off
      split at h1
      · rename_i cells xs hb hxs
        split at h1
        · rename_i hlen
          cases h1
          obtain ⟨k1, k2, k3⟩ := cellsOf_sound (ev_R h hq) hxs
          obtain ⟨b1, b2, cs, ty, b3, b4, b5⟩ := h.box b cells hb
          have hxl : xs.length = (a.eval y).cells.toList.length := k1.length
          have hcl : cells.length = cs.toList.length := b4.length
          have haddr : a.eval x = .pointer (some ⟨β b, off, none⟩) := by
            have := ev_R h hp
            generalize a.eval x = u at this
            cases this
            rfl
          have hrun := run_storeCells_at (P := P) (β b) off ty (a.eval y).cells.toList 0 cs w b3 (by simp only [Array.length_toList] at hcl hxl ⊢; omega) k2
          simp only [Nat.add_zero] at hrun
          have honly := OnlyAt.setRow w (β b) (cs.toList.take off ++ (a.eval y).cells.toList ++ cs.toList.drop (off + (a.eval y).cells.toList.length)).toArray
          have hheap := setRow_heap w (β b) cs (cs.toList.take off ++ (a.eval y).cells.toList ++ cs.toList.drop (off + (a.eval y).cells.toList.length)).toArray ty (0, 0) b3
          have h2 := h.store hb honly hheap (cells' := cells.take off ++ xs ++ cells.drop (off + xs.length))
            (by simpa [hxl] using ((b4.take off).append k1).append (b4.drop (off + xs.length)))
            (by
              intro v hv
              simp only [List.mem_append] at hv
              rcases hv with (hv | hv) | hv
              · exact b5 v (List.mem_of_mem_take hv)
              · exact k2 v hv
              · exact b5 v (List.mem_of_mem_drop hv))
          refine ⟨undef, _, I, β, κ, .inr ⟨?_, rfl⟩, Imm.le_refl _, KeepsOthers.onlyAt honly b3, h2.putT o.dst (.v (.junk _))⟩
          have hsz : ¬ ((a.eval y).cells.size ≠ i.n) := by simp only [Array.length_toList] at hxl; omega
          simp only [execOp, ho, Instr.storeAt, haddr, Instr.sureAddr, storeVar, Sem.run_bind, Sem.run_pure, Result.andThen_ok, run_sizeOf_of hi, if_neg hsz, hrun]
        · cases h1
      · cases h1
    · cases h1
  · cases hs

end
end Go.Proofs.Ytfikikfbdgpdcaa.A
