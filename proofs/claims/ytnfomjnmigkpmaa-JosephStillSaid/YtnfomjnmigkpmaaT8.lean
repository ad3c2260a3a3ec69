import Derived.Test.YtnfomjnmigkpmaaT7
set_option linter.unusedVariables false
set_option linter.unusedSimpArgs false
set_option maxRecDepth 100000
namespace Go.Proofs.Ytnfomjnmigkpmaa.A
open Go Go.RowKit Go.Shelf

/-- A contract for what is known better. -/
theorem Ok.args {P : Program} {f : FuncId} {xs ys : List PV} {r : PV} (k : Ok P f xs r) (h : ∀ I vs, Cs I ys vs → Cs I xs vs) : Ok P f ys r :=
  ⟨k.1, fun I w vs hg hc => k.2 I w vs hg (h I vs hc)⟩
theorem Cs.nil_of {I : Imm} {xs ys : List PV} {vs : List Value} {ex : Bool} (h : Cs I (.s (.slice none 0 0) :: xs) vs) (k : ∀ us, Cs I xs us → Cs I ys us) : Cs I (.sl ex [] :: ys) vs := by
  cases h with | cons h1 h2 => cases h1; exact .cons .sl0 (k _ h2)

def fewB (xs : List Int) : Bool := decide (xs.length ≤ 256 ∧ ∀ x ∈ xs, -100 ≤ x ∧ x ≤ 100)

theorem ok5 (ex : Bool) (xs : List Int) : Ok Try.prog 5 [.sl ex (xs.map num)] (tru (fewB xs)) := by
  refine ok_fn mixed Try.func5 (code := ?_) (h := h5) ?_ k5 ?_
  rotate_left
  · exact rfl
  unfold h5 initS
  simp -implicitDefEqProofs only [wp_reg0, wp_seq, wp_block, seqK_normal, opsK_at, ops_nil, ops_cons, op_plain, step_assign, opt_some, ev_const, putT_some, lk, stepA, valA, Option.getD_none, Option.map_some, List.set_cons_zero, List.set_cons_succ, List.map_cons, List.map_nil, List.length_cons, List.length_nil, List.cons_append, List.nil_append, List.toList_toArray, List.replicate_succ, List.replicate_zero, Nat.zero_add, Nat.reduceSub, Try.ntmps5, Try.results5]
  refine wp_loop (fun m s => ∃ i : Nat, i + m = xs.length ∧ i ≤ 257 ∧ (∀ x ∈ xs.take i, -100 ≤ x ∧ x ≤ 100) ∧ s = ⟨[.v (.sl ex (xs.map num)), jk, jk, nt i, jk, jk, jk, jk, jk, jk, jk, jk, jk, jk, jk, jk, jk, jk, jk, jk, jk, jk, jk, jk, jk, jk, jk, jk, jk], [], [], [], [], 0⟩) xs.length ?_ ?_
  · simp -implicitDefEqProofs only [opt_some, ghs, gh1, junkAll, Option.bind_some, List.set_cons_zero, List.set_cons_succ]
    exact ⟨0, by simp, by omega, by simp, rfl⟩
  rintro m s ⟨i, hi, hi7, hall, rfl⟩
  simp -implicitDefEqProofs only [wp_reg0, wp_seq, opsK_at, ops_cons, op_plain, op_guard, slotAt_zero, slotAt_succ, step_builtin, step_move, step_binOp, opt_some, ev_tmp, putT_some, pv_eq, lk, tov, stepA, valA, lenA, binA, num2, binV, Option.getD_none, Option.map_some, Option.bind_some, List.getElem?_cons_zero, List.getElem?_cons_succ, List.set_cons_zero, List.set_cons_succ, if_true, Nat.zero_add, Nat.reduceAdd, Nat.reduceBEq, eq_self]
  have hend : ¬ ((i : Int) < (xs.length : Int) ∧ (i : Int) ≤ 256) → decide (((xs.map num).length : Int) ≤ 256) = fewB xs := by
    intro hn
    have : (xs.length ≤ 256 ↔ (xs.length ≤ 256 ∧ ∀ x ∈ xs, -100 ≤ x ∧ x ≤ 100)) := by
      constructor
      · intro h1
        refine ⟨h1, ?_⟩
        rw [List.take_of_length_le (by omega)] at hall
        exact hall
      · exact fun h1 => h1.1
    simp only [fewB, List.length_map, decide_eq_decide, ← this]
    omega
  have hbad : ∀ hl : i < xs.length, ¬ (-100 ≤ xs[i] ∧ xs[i] ≤ 100) → fewB xs = false := fun hl hn => by
    simp only [fewB, decide_eq_false_iff_not]
    exact fun hk => hn (hk.2 _ (List.getElem_mem hl))
  refine gB_dec ?_ ?_ <;> intro hc <;> simp -implicitDefEqProofs only [hc, wp_reg0, wp_seq, wp_cond, wp_exit, wp_ret, wpK_at, execK_at, junkK_at, seqK_normal, seqK_exit, blockK_exit, loopK_exit, opsK_at, ops_nil, ops_cons, op_plain, op_guard, slotAt_zero, slotAt_succ, step_builtin, step_move, step_assign, step_pick, step_binOp, opt_some, gB_true, gB_false, ev_tmp, ev_const, putT_some, pv_eq, lk, tov, stepA, valA, lenA, binA, num2, binV, Option.getD_none, Option.map_some, Option.bind_some, List.getElem?_cons_zero, List.getElem?_cons_succ, List.set_cons_zero, List.set_cons_succ, if_true, if_false, Nat.zero_add, Nat.reduceAdd, Nat.reduceBEq, Bool.false_eq_true, decide_true, decide_false, eq_self, RetQ_ret, resAll, res1, packR, Option.some.injEq]
  · refine gB_dec ?_ ?_ <;> intro hc2 <;> simp -implicitDefEqProofs only [hc2, wp_skip, wp_reg0, wp_reg, wp_seq, wp_block, wp_exit, wp_ret, wpK_at, seqK_normal, seqK_exit, blockK_exit, loopK_exit, opsK_at, ops_nil, ops_cons, op_plain, step_builtin, step_move, step_assign, step_indexAddr, step_binOp, opt_some, ev_tmp, ev_const, putT_some, pv_eq, lk, tov, stepA, valA, idxAddrA, idxA, lenA, binA, num2, binV, PV.cells, Option.getD_some, Option.getD_none, Option.map_some, Option.bind_some, List.getElem?_cons_zero, List.getElem?_cons_succ, List.set_cons_zero, List.set_cons_succ, if_true, if_false, reduceCtorEq, Nat.zero_add, Nat.reduceAdd, Nat.reduceEqDiff, Nat.reduceBEq, decide_true, decide_false, eq_self, RetQ_ret, resAll, res1, packR, Option.some.injEq]
    · have hlt : i < xs.length := by simpa using hc
      have h0 : (0 : Int) ≤ (i : Int) := by omega
      have hg : (xs.map num)[i]? = some (num xs[i]) := by simp [hlt]
      simp -implicitDefEqProofs only [h0, Int.toNat_natCast, hg, opsK_at, ops_cons, op_plain, op_guardn, slotAt_zero, slotAt_succ, step_move, step_load, step_binOp, opt_some, ev_tmp, ev_const, putT_some, lk, valA, ldA, ldC, binA, num2, binV, Option.getD_some, Option.getD_none, Option.map_some, Option.bind_some, List.getElem?_cons_zero, List.getElem?_cons_succ, List.set_cons_zero, List.set_cons_succ, List.length_cons, List.length_nil, List.take_succ_cons, List.take_nil, if_true, if_false, Nat.zero_add, Nat.reduceAdd, Nat.reduceEqDiff, Nat.le_refl, Nat.reduceBEq, Bool.false_eq_true, eq_self]
      refine gB_dec ?_ ?_ <;> intro hc3 <;> simp -implicitDefEqProofs only [hc3, wp_reg0, wp_seq, wp_cond, wp_ret, wpK_at, execK_at, junkK_at, seqK_normal, seqK_ret, blockK_ret, loopK_ret, opsK_at, ops_nil, ops_cons, op_plain, op_guardn, slotAt_zero, slotAt_succ, step_move, step_assign, step_pick, step_indexAddr, opt_some, gB_true, gB_false, ev_tmp, ev_const, putT_some, pv_eq, lk, tov, stepA, valA, idxAddrA, idxA, PV.cells, Option.getD_some, Option.getD_none, Option.map_some, Option.bind_some, List.getElem?_cons_zero, List.getElem?_cons_succ, List.set_cons_zero, List.set_cons_succ, if_true, if_false, Nat.zero_add, Nat.reduceAdd, Nat.reduceEqDiff, decide_true, decide_false, eq_self, RetQ_ret, resAll, res1, packR, Option.some.injEq]
      · rw [hbad hlt (by omega)]
      · simp -implicitDefEqProofs only [h0, Int.toNat_natCast, hg, wp_cond, execK_at, seqK_normal, opsK_at, ops_nil, ops_cons, op_plain, op_guardn, slotAt_zero, slotAt_succ, step_pick, step_load, step_binOp, opt_some, gB_false, ev_tmp, ev_const, putT_some, pv_eq, lk, tov, valA, ldA, ldC, binA, num2, binV, Option.getD_some, Option.getD_none, Option.map_some, Option.bind_some, List.getElem?_cons_zero, List.getElem?_cons_succ, List.set_cons_zero, List.set_cons_succ, List.length_cons, List.length_nil, List.take_succ_cons, List.take_nil, if_true, if_false, Nat.zero_add, Nat.reduceAdd, Nat.reduceEqDiff, Nat.le_refl, Nat.reduceBEq, Bool.false_eq_true, eq_self]
        refine gB_dec ?_ ?_ <;> intro hc4 <;> simp -implicitDefEqProofs only [hc4, wp_skip, wp_reg0, wp_seq, wp_ret, wpK_at, seqK_normal, seqK_ret, blockK_normal, blockK_ret, loopK_ret, opsK_at, ops_nil, ops_cons, op_plain, step_move, step_assign, step_binOp, opt_some, ev_tmp, ev_const, putT_some, lk, tov, stepA, valA, binA, num2, binV, Option.getD_none, Option.map_some, Option.bind_some, List.getElem?_cons_zero, List.getElem?_cons_succ, List.set_cons_zero, List.set_cons_succ, if_true, Nat.zero_add, Nat.reduceAdd, Nat.reduceBEq, decide_true, decide_false, eq_self, RetQ_ret, resAll, res1, packR, Option.some.injEq]
        · rw [hbad hlt (by omega)]
        · have hw := wrapped (x := (i : Int) + 1) (by omega) (by omega)
          simp -implicitDefEqProofs only [hw]
          refine loopK_of (m' := m - 1) (by omega) ?_
          simp -implicitDefEqProofs only [opt_some, ghs, gh1, junkAll, Option.bind_some, List.set_cons_zero, List.set_cons_succ]
          refine ⟨i + 1, by omega, by omega, ?_, by simp only [Int.natCast_add, Int.natCast_one]⟩
          rw [List.take_succ_eq_append_getElem hlt]
          intro x hx
          rcases List.mem_append.1 hx with hx | hx
          · exact hall x hx
          · simp at hx; omega
    · rw [hend (by omega)]
  · rw [hend (by simp only [List.length_map] at hc; omega)]

theorem eq_fr (x y : Fr) : cellsEq [some .i64, some .i64, none] [num x.n, num x.d, tru x.bad] [num y.n, num y.d, tru y.bad] = some (decide (x = y)) := by
  obtain ⟨n, d, b⟩ := x
  obtain ⟨n', d', b'⟩ := y
  simp only [cellsEq, Fr.mk.injEq]
  cases b <;> cases b' <;> simp <;> rfl

end Go.Proofs.Ytnfomjnmigkpmaa.A
