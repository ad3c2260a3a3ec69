import Derived.Test.YtadfcbpakfaaaaaT36

set_option linter.unusedVariables false
set_option linter.unusedSimpArgs false
set_option maxRecDepth 100000
namespace Go.Proofs.Ytadfcbpakfaaaaa.A
open Go Go.RowKit Go.Shelf

/-! ### Cases -/
abbrev caseV (e1 e2 e3 e4 e5 : Bool) (N : Int) (x root f g h : List Int) (r z : Int) : PV :=
  .agg [num N, .sl e1 (x.map num), .sl e2 (root.map num), .sl e3 (f.map num), .sl e4 (g.map num), .sl e5 (h.map num), num r, num z]
def in5 (l : List Int) : Bool := decide (∀ x ∈ l.take 10, -5 ≤ x ∧ x ≤ 5)
def sided (N : Int) (x h : List Int) (r z : Int) : Bool := decide (1 ≤ N ∧ N ≤ 3 ∧ (x.length : Int) = N ∧ (h.length : Int) = N ∧ 1 ≤ r ∧ r ≤ 5 ∧ -5 ≤ z ∧ z ≤ 5)
def few9 (N : Int) (x root f g h : List Int) (r z : Int) : Bool :=
  sided N x h r z && ([x, h, root, f, g].all in5 && decide ((root.length : Int) = N * N ∧ (f.length : Int) = N * N ∧ (g.length : Int) = N * N))
theorem few9_bad {N : Int} {x root f g h : List Int} {r z : Int} (hn : ¬ (1 ≤ N ∧ N ≤ 3 ∧ (x.length : Int) = N ∧ (h.length : Int) = N ∧ 1 ≤ r ∧ r ≤ 5 ∧ -5 ≤ z ∧ z ≤ 5)) : few9 N x root f g h r z = false := by
  rw [few9, sided, decide_eq_false hn]
  rfl

set_option maxHeartbeats 4000000 in
theorem ok9 (e1 e2 e3 e4 e5 : Bool) (N : Int) (x root f g h : List Int) (r z : Int) : Ok Try.prog 9 [caseV e1 e2 e3 e4 e5 N x root f g h r z] (tru (few9 N x root f g h r z)) := by
  refine ok_fn mixed Try.func9 (code := ?_) (h := h9) ?_ k9 ?_
  rotate_left
  · exact rfl
  unfold h9 initS
  simp -implicitDefEqProofs (maxSteps := 10000000) only [wp_reg, wp_seq, seqK_normal, opsK_at, ops_nil, ops_cons, op_plain, op_guardn, slotAt_zero, slotAt_succ, step_move, step_assign, step_load, step_fieldAddr, step_binOp, step_box, opt_some, ev_tmp, ev_const, putT_some, st_tm, lk, upd, tov, stepA, valA, cellsOf, ldA, ldT, fieldAddrA, binA, num2, binV, tovs, St.newBox, St.mapTV, TV.killPtr, PV.cells, PV.ok, PV.cell, Option.getD_some, Option.getD_none, Option.map_some, Option.bind_some, List.getElem?_cons_zero, List.getElem?_cons_succ, List.set_cons_zero, List.set_cons_succ, List.map_cons, List.map_nil, List.all_cons, List.all_nil, List.length_cons, List.length_nil, List.take_succ_cons, List.take_zero, List.drop_zero, List.cons_append, List.nil_append, List.toList_toArray, List.replicate_succ, List.replicate_zero, if_true, if_false, Bool.and_true, reduceCtorEq, and_self, Nat.zero_add, Nat.reduceAdd, Nat.reduceSub, Nat.reduceEqDiff, Nat.reduceLeDiff, Nat.reduceBEq, Bool.false_eq_true, eq_self, Option.isNone_none, one_int, Try.ntmps9, Try.results9]
  have lx : (x.map num).length = x.length := by simp
  have lh : (h.map num).length = h.length := by simp
  have lr : (root.map num).length = root.length := by simp
  have lf : (f.map num).length = f.length := by simp
  have lg : (g.map num).length = g.length := by simp
  by_cases a1 : N < 1
  · rw [few9_bad (by omega)]
    simp -implicitDefEqProofs (maxSteps := 10000000) only [a1, wp_reg0, wp_seq, wp_cond, wp_ret, wpK_at, junkK_at, seqK_normal, seqK_ret, opsK_at, ops_nil, ops_cons, op_plain, op_guardn, slotAt_zero, slotAt_succ, step_move, step_assign, step_pick, opt_some, gB_true, ev_tmp, ev_const, putT_some, pv_eq, lk, tov, stepA, valA, Option.getD_some, Option.getD_none, Option.map_some, Option.bind_some, List.getElem?_cons_zero, List.getElem?_cons_succ, List.set_cons_zero, List.set_cons_succ, if_true, if_false, reduceCtorEq, Nat.zero_add, Nat.reduceAdd, Nat.reduceEqDiff, decide_true, eq_self, RetQ_ret, resAll, res1, packR]
  by_cases a2 : N > 3
  · rw [few9_bad (by omega)]
    simp -implicitDefEqProofs (maxSteps := 10000000) only [a1, a2, wp_reg0, wp_seq, wp_cond, wp_ret, wpK_at, execK_at, junkK_at, seqK_normal, seqK_ret, opsK_at, ops_nil, ops_cons, op_plain, op_guardn, slotAt_zero, slotAt_succ, step_move, step_assign, step_pick, step_load, step_fieldAddr, step_binOp, opt_some, gB_true, gB_false, ev_tmp, ev_const, putT_some, pv_eq, lk, tov, stepA, valA, ldA, ldT, fieldAddrA, binA, num2, binV, tovs, Option.getD_some, Option.getD_none, Option.map_some, Option.bind_some, List.getElem?_cons_zero, List.getElem?_cons_succ, List.set_cons_zero, List.set_cons_succ, List.length_cons, List.length_nil, List.take_succ_cons, List.take_zero, List.drop_zero, if_true, if_false, reduceCtorEq, Nat.zero_add, Nat.reduceAdd, Nat.reduceEqDiff, Nat.reduceLeDiff, Nat.reduceBEq, Bool.false_eq_true, decide_true, decide_false, eq_self, RetQ_ret, resAll, res1, packR]
  by_cases a3 : (x.length : Int) = N
  · have a3' : ((x.length : Int) != N) = false := by simp [a3]
    by_cases a4 : (h.length : Int) = N
    · have a4' : ((h.length : Int) != N) = false := by simp [a4]
      by_cases a5 : r < 1
      · rw [few9_bad (by omega)]
        simp -implicitDefEqProofs (maxSteps := 10000000) only [a1, a2, lx, lh, a3', a4', a5, wp_reg0, wp_seq, wp_cond, wp_ret, wpK_at, execK_at, junkK_at, seqK_normal, seqK_ret, opsK_at, ops_nil, ops_cons, op_plain, op_guardn, slotAt_zero, slotAt_succ, step_builtin, step_move, step_assign, step_pick, step_load, step_fieldAddr, step_binOp, opt_some, gB_true, gB_false, ev_tmp, ev_const, putT_some, pv_eq, lk, tov, stepA, valA, ldA, ldT, fieldAddrA, lenA, binA, num2, binV, tovs, Option.getD_some, Option.getD_none, Option.map_some, Option.bind_some, List.getElem?_cons_zero, List.getElem?_cons_succ, List.set_cons_zero, List.set_cons_succ, List.length_cons, List.length_nil, List.take_succ_cons, List.take_zero, List.drop_succ_cons, List.drop_zero, if_true, if_false, reduceCtorEq, Nat.zero_add, Nat.reduceAdd, Nat.reduceEqDiff, Nat.reduceLeDiff, Nat.reduceBEq, Bool.false_eq_true, decide_true, decide_false, eq_self, RetQ_ret, resAll, res1, packR]
      by_cases a6 : r > 5
      · rw [few9_bad (by omega)]
        simp -implicitDefEqProofs (maxSteps := 10000000) only [a1, a2, lx, lh, a3', a4', a5, a6, wp_reg0, wp_seq, wp_cond, wp_ret, wpK_at, execK_at, junkK_at, seqK_normal, seqK_ret, opsK_at, ops_nil, ops_cons, op_plain, op_guardn, slotAt_zero, slotAt_succ, step_builtin, step_move, step_assign, step_pick, step_load, step_fieldAddr, step_binOp, opt_some, gB_true, gB_false, ev_tmp, ev_const, putT_some, pv_eq, lk, tov, stepA, valA, ldA, ldT, fieldAddrA, lenA, binA, num2, binV, tovs, Option.getD_some, Option.getD_none, Option.map_some, Option.bind_some, List.getElem?_cons_zero, List.getElem?_cons_succ, List.set_cons_zero, List.set_cons_succ, List.length_cons, List.length_nil, List.take_succ_cons, List.take_zero, List.drop_succ_cons, List.drop_zero, if_true, if_false, reduceCtorEq, Nat.zero_add, Nat.reduceAdd, Nat.reduceEqDiff, Nat.reduceLeDiff, Nat.reduceBEq, Bool.false_eq_true, decide_true, decide_false, eq_self, RetQ_ret, resAll, res1, packR]
      by_cases a7 : z < -5
      · rw [few9_bad (by omega)]
        simp -implicitDefEqProofs (maxSteps := 10000000) only [a1, a2, lx, lh, a3', a4', a5, a6, a7, wp_reg0, wp_seq, wp_cond, wp_ret, wpK_at, execK_at, junkK_at, seqK_normal, seqK_ret, opsK_at, ops_nil, ops_cons, op_plain, op_guardn, slotAt_zero, slotAt_succ, step_builtin, step_move, step_assign, step_pick, step_load, step_fieldAddr, step_binOp, opt_some, gB_true, gB_false, ev_tmp, ev_const, putT_some, pv_eq, lk, tov, stepA, valA, ldA, ldT, fieldAddrA, lenA, binA, num2, binV, tovs, Option.getD_some, Option.getD_none, Option.map_some, Option.bind_some, List.getElem?_cons_zero, List.getElem?_cons_succ, List.set_cons_zero, List.set_cons_succ, List.length_cons, List.length_nil, List.take_succ_cons, List.take_zero, List.take_nil, List.drop_succ_cons, List.drop_zero, if_true, if_false, reduceCtorEq, Nat.zero_add, Nat.reduceAdd, Nat.reduceEqDiff, Nat.reduceLeDiff, Nat.le_refl, Nat.reduceBEq, Bool.false_eq_true, decide_true, decide_false, eq_self, RetQ_ret, resAll, res1, packR]
      by_cases a8 : z > 5
      · rw [few9_bad (by omega)]
        simp -implicitDefEqProofs (maxSteps := 10000000) only [a1, a2, lx, lh, a3', a4', a5, a6, a7, a8, wp_reg0, wp_seq, wp_cond, wp_ret, wpK_at, execK_at, seqK_normal, seqK_ret, opsK_at, ops_nil, ops_cons, op_plain, op_guardn, slotAt_zero, slotAt_succ, step_builtin, step_move, step_assign, step_pick, step_load, step_fieldAddr, step_binOp, opt_some, gB_true, gB_false, ev_tmp, ev_const, putT_some, pv_eq, lk, tov, stepA, valA, ldA, ldT, fieldAddrA, lenA, binA, num2, binV, tovs, Option.getD_some, Option.getD_none, Option.map_some, Option.bind_some, List.getElem?_cons_zero, List.getElem?_cons_succ, List.set_cons_zero, List.set_cons_succ, List.length_cons, List.length_nil, List.take_succ_cons, List.take_zero, List.take_nil, List.drop_succ_cons, List.drop_zero, if_true, if_false, reduceCtorEq, Nat.zero_add, Nat.reduceAdd, Nat.reduceEqDiff, Nat.reduceLeDiff, Nat.le_refl, Nat.reduceBEq, Bool.false_eq_true, decide_true, decide_false, eq_self, RetQ_ret, resAll, res1, packR]
      have hs : sided N x h r z = true := by rw [sided, decide_eq_true_eq]; omega
      simp -implicitDefEqProofs (maxSteps := 10000000) only [a1, a2, lx, lh, a3', a4', a5, a6, a7, a8, wp_skip, wp_reg, wp_seq, wp_cond, wp_block, wpK_at, execK_at, seqK_normal, opsK_at, ops_nil, ops_cons, op_plain, op_guardn, slotAt_zero, slotAt_succ, step_builtin, step_move, step_pick, step_load, step_fieldAddr, step_binOp, step_build, opt_some, gB_false, ev_tmp, ev_const, putT_some, pv_eq, lk, tov, stepA, valA, ldA, ldT, fieldAddrA, lenA, binA, num2, binV, pvs, tovs, PV.cells, PV.ok, PV.cell, fillA, setR, Option.getD_some, Option.getD_none, Option.map_some, Option.bind_some, List.getElem?_cons_zero, List.getElem?_cons_succ, List.set_cons_zero, List.set_cons_succ, List.map_cons, List.map_nil, List.all_cons, List.all_nil, List.length_cons, List.length_nil, List.take_succ_cons, List.take_zero, List.take_nil, List.drop_succ_cons, List.drop_zero, List.zip_cons_cons, List.zip_nil_left, if_true, if_false, Bool.and_true, reduceCtorEq, and_self, Nat.zero_add, Nat.reduceAdd, Nat.reduceEqDiff, Nat.reduceLeDiff, Nat.le_refl, Nat.reduceBEq, Bool.false_eq_true, decide_false, eq_self]
      have hN : N = 1 ∨ N = 2 ∨ N = 3 := by omega
      have hNN : 1 ≤ N * N ∧ N * N ≤ 9 := by rcases hN with rfl | rfl | rfl <;> decide
      have wN := wrapped (x := N * N) (by omega) (by omega)
      generalize hrows : [(e1, x), (e5, h), (e2, root), (e3, f), (e4, g)] = rows
      have hall : [x, h, root, f, g].all in5 = (rows.map (·.2)).all in5 := by subst hrows; rfl
      have hlen : rows.length = 5 := by subst hrows; rfl
      refine wp_loop (fun m s => ∃ i : Nat, i + m = 5 ∧ ((rows.map (·.2)).take i).all in5 = true ∧ s = ⟨[jk, .ptr 1 0, jk, jk, jk, jk, jk, jk, jk, jk, jk, jk, jk, jk, jk, jk, jk, jk, jk, jk, jk, jk, jk, jk, jk, jk, jk, jk, jk, jk, jk, jk, jk, jk, jk, jk, jk, jk, jk, jk, jk, jk, jk, jk, jk, jk, jk, jk, jk, jk, jk, jk, jk, jk, jk, jk, jk, jk, jk, jk, .v (.agg (rows.map fun p => .sl p.1 (p.2.map num))), nt i, jk, jk, jk, jk, jk, jk, jk, jk, jk, jk, jk, jk, jk, jk, jk, jk, jk, jk, jk, jk, jk, jk, jk, jk, jk, jk, jk, jk, jk, jk, jk, jk, jk, jk, jk, jk, jk, jk, jk, jk, jk, jk, jk, jk, jk, jk, jk, jk, jk, jk, jk, jk, jk, jk, jk, jk],
        [(1, [nt N, .v (.sl e1 (x.map num)), .v (.sl e2 (root.map num)), .v (.sl e3 (f.map num)), .v (.sl e4 (g.map num)), .v (.sl e5 (h.map num)), nt r, nt z])], [], [], [], 0⟩) 5 ?_ ?_
      · simp -implicitDefEqProofs (maxSteps := 10000000) only [opt_some, ghs, gh1, junkAll, Option.bind_some, List.set_cons_zero, List.set_cons_succ, Nat.reduceEqDiff]
        exact ⟨0, rfl, rfl, by subst hrows; rfl⟩
      rintro m s ⟨i, him, hpre, rfl⟩
      simp -implicitDefEqProofs (maxSteps := 10000000) only [wp_reg0, wp_seq, wp_cond, seqK_normal, opsK_at, ops_nil, ops_cons, op_plain, step_binOp, opt_some, ev_tmp, ev_const, putT_some, lk, valA, binA, num2, binV, Option.getD_none, Option.map_some, List.getElem?_cons_zero, List.getElem?_cons_succ, List.set_cons_zero, List.set_cons_succ, if_true, Nat.zero_add, Nat.reduceBEq, eq_self]
      refine gB_dec ?_ ?_ <;> intro hc <;> simp -implicitDefEqProofs (maxSteps := 10000000) only [hc, wp_skip, wp_reg, wp_seq, wp_block, wp_exit, wpK_at, seqK_normal, seqK_exit, blockK_exit, loopK_exit, opsK_at, ops_cons, op_plain, op_guard, slotAt_zero, slotAt_succ, step_builtin, step_move, step_load, step_fieldAddr, step_index, step_binOp, opt_some, ev_tmp, putT_some, pv_eq, lk, tov, stepA, valA, ldA, ldT, fieldAddrA, fieldA, lenA, binA, num2, binV, tovs, Option.getD_some, Option.getD_none, Option.map_some, Option.bind_some, List.getElem?_cons_zero, List.getElem?_cons_succ, List.set_cons_zero, List.set_cons_succ, List.length_cons, List.length_nil, List.take_succ_cons, List.take_zero, List.drop_succ_cons, List.drop_zero, if_true, if_false, reduceCtorEq, Nat.zero_add, Nat.reduceAdd, Nat.reduceEqDiff, Nat.reduceLeDiff, Nat.reduceBEq, Bool.false_eq_true, decide_true, decide_false, eq_self]
      · have hi5 : i < rows.length := by omega
        have h0 : (0 : Int) ≤ (i : Int) := by omega
        have hget : (rows.map fun p => PV.sl p.1 (p.2.map num))[i]? = some (.sl rows[i].1 (rows[i].2.map num)) := by simp [hi5]
        have hbad : in5 rows[i].2 = false → few9 N x root f g h r z = false := fun hb => by
          have : (rows.map (·.2)).all in5 = false := by
            rw [List.all_eq_false]
            exact ⟨rows[i].2, List.mem_map.2 ⟨rows[i], List.getElem_mem hi5, rfl⟩, by simp [hb]⟩
          rw [few9, hall, this, Bool.false_and, Bool.and_false]
        have hstep : in5 rows[i].2 = true → ((rows.map (·.2)).take (i + 1)).all in5 = true := fun hb => by
          rw [List.take_succ_eq_append_getElem (by simpa using hi5), List.all_append, hpre]
          simp [hb]
        generalize rows[i].1 = e at *
        generalize rows[i].2 = l at *
        have hc' : (i : Int) < ((5 : Nat) : Int) := by omega
        simp -implicitDefEqProofs (maxSteps := 10000000) only [h0, hc', Int.toNat_natCast, Nat.mul_one, hget, wp_reg0, wp_seq, wp_block, seqK_normal, opsK_at, ops_nil, ops_cons, op_plain, step_assign, opt_some, ev_tmp, ev_const, putT_some, lk, stepA, valA, Option.getD_none, Option.map_some, List.getElem?_cons_zero, List.getElem?_cons_succ, List.set_cons_zero, List.set_cons_succ, if_true, if_false, reduceCtorEq, and_self, Nat.zero_add, Nat.reduceAdd]
        refine wp_loop (fun m s => ∃ k : Nat, k + m = 10 ∧ (∀ y ∈ l.take k, -5 ≤ y ∧ y ≤ 5) ∧ s = ⟨[jk, .ptr 1 0, jk, jk, .v (.sl e (l.map num)), nt k, jk, jk, jk, jk, jk, jk, jk, jk, jk, jk, jk, jk, jk, jk, jk, jk, jk, jk, jk, jk, jk, jk, jk, jk, jk, jk, jk, jk, jk, jk, jk, jk, jk, jk, jk, jk, jk, jk, jk, jk, jk, jk, jk, jk, jk, jk, jk, jk, jk, jk, jk, jk, jk, jk, .v (.agg (rows.map fun p => .sl p.1 (p.2.map num))), nt i, jk, jk, jk, jk, jk, jk, jk, jk, jk, jk, jk, jk, jk, jk, jk, jk, jk, jk, jk, jk, jk, jk, jk, jk, jk, jk, jk, jk, jk, jk, jk, jk, jk, jk, jk, jk, jk, jk, jk, jk, jk, jk, jk, jk, jk, jk, jk, jk, jk, jk, jk, jk, jk, jk, jk, jk],
          [(1, [nt N, .v (.sl e1 (x.map num)), .v (.sl e2 (root.map num)), .v (.sl e3 (f.map num)), .v (.sl e4 (g.map num)), .v (.sl e5 (h.map num)), nt r, nt z])], [], [], [], 0⟩) 10 ?_ ?_
        · simp -implicitDefEqProofs (maxSteps := 10000000) only [opt_some, ghs, gh1, junkAll, Option.bind_some, List.set_cons_zero, List.set_cons_succ, Nat.reduceEqDiff]
          exact ⟨0, rfl, by simp, rfl⟩
        rintro m' s ⟨k, hkm, hk, rfl⟩
        simp -implicitDefEqProofs (maxSteps := 10000000) only [wp_reg0, wp_seq, opsK_at, ops_cons, op_plain, op_guard, slotAt_zero, slotAt_succ, step_builtin, step_move, step_binOp, opt_some, ev_tmp, putT_some, pv_eq, lk, tov, stepA, valA, lenA, binA, num2, binV, Option.getD_none, Option.map_some, Option.bind_some, List.getElem?_cons_zero, List.getElem?_cons_succ, List.set_cons_zero, List.set_cons_succ, if_true, Nat.zero_add, Nat.reduceAdd, Nat.reduceBEq, eq_self]
        have el : (l.map num).length = l.length := by simp
        have hout : ¬ ((k : Int) < (l.length : Int) ∧ (k : Int) ≤ 9) → in5 l = true := fun hn => by
          rw [in5, decide_eq_true_eq]
          by_cases h1 : (k : Int) < (l.length : Int)
          · have : k = 10 := by omega
            subst this
            exact hk
          · rw [List.take_of_length_le (by omega)] at hk
            exact fun y hy => hk y (List.mem_of_mem_take hy)
        have hw := wrapped (x := (i : Int) + 1) (by omega) (by omega)
        have hw2 := wrapped (x := (k : Int) + 1) (by omega) (by omega)
        refine gB_dec ?_ ?_ <;> intro hc2 <;> simp -implicitDefEqProofs (maxSteps := 10000000) only [hc2, wp_reg0, wp_reg, wp_seq, wp_cond, wp_exit, wpK_at, execK_at, junkK_at, seqK_normal, seqK_exit, blockK_normal, blockK_exit, loopK_exit, opsK_at, ops_nil, ops_cons, op_plain, op_guard, slotAt_zero, slotAt_succ, step_builtin, step_move, step_pick, step_load, step_fieldAddr, step_binOp, opt_some, gB_true, gB_false, ev_tmp, ev_const, putT_some, pv_eq, lk, tov, stepA, valA, ldA, ldT, fieldAddrA, lenA, binA, num2, binV, tovs, Option.getD_some, Option.getD_none, Option.map_some, Option.bind_some, List.getElem?_cons_zero, List.getElem?_cons_succ, List.set_cons_zero, List.set_cons_succ, List.length_cons, List.length_nil, List.take_succ_cons, List.take_zero, List.drop_succ_cons, List.drop_zero, if_true, if_false, reduceCtorEq, Nat.zero_add, Nat.reduceAdd, Nat.reduceEqDiff, Nat.reduceLeDiff, Nat.reduceBEq, Bool.false_eq_true, decide_true, decide_false, eq_self]
        · have hlt : k < l.length := by simpa using hc2
          refine gB_dec ?_ ?_ <;> intro hc3 <;> simp -implicitDefEqProofs (maxSteps := 10000000) only [hc3, wp_skip, wp_reg0, wp_reg, wp_seq, wp_block, wp_exit, wpK_at, seqK_normal, seqK_exit, blockK_normal, blockK_exit, loopK_exit, opsK_at, ops_nil, ops_cons, op_plain, op_guard, slotAt_zero, slotAt_succ, step_builtin, step_move, step_load, step_fieldAddr, step_indexAddr, step_binOp, opt_some, ev_tmp, ev_const, putT_some, pv_eq, lk, tov, stepA, valA, ldA, ldT, fieldAddrA, idxAddrA, idxA, lenA, binA, num2, binV, tovs, PV.cells, Option.getD_some, Option.getD_none, Option.map_some, Option.bind_some, List.getElem?_cons_zero, List.getElem?_cons_succ, List.set_cons_zero, List.set_cons_succ, List.length_cons, List.length_nil, List.take_succ_cons, List.take_zero, List.drop_succ_cons, List.drop_zero, if_true, if_false, reduceCtorEq, Nat.zero_add, Nat.reduceAdd, Nat.reduceEqDiff, Nat.reduceLeDiff, Nat.reduceBEq, Bool.false_eq_true, decide_true, decide_false, eq_self]
          · have hk0 : (0 : Int) ≤ (k : Int) := by omega
            have hg : (l.map num)[k]? = some (num l[k]) := by simp [hlt]
            have hno : ¬ (-5 ≤ l[k] ∧ l[k] ≤ 5) → in5 l = false := fun hn => by
              rw [in5, decide_eq_false_iff_not]
              exact fun ha => hn (ha _ (List.mem_take_iff_getElem.2 ⟨k, by omega, rfl⟩))
            simp -implicitDefEqProofs (maxSteps := 10000000) only [hk0, Int.toNat_natCast, hg, opsK_at, ops_cons, op_plain, op_guardn, slotAt_zero, slotAt_succ, step_move, step_load, step_binOp, opt_some, ev_tmp, ev_const, putT_some, lk, valA, ldA, ldC, binA, num2, binV, Option.getD_some, Option.getD_none, Option.map_some, Option.bind_some, List.getElem?_cons_zero, List.getElem?_cons_succ, List.set_cons_zero, List.set_cons_succ, List.length_cons, List.length_nil, List.take_succ_cons, List.take_nil, if_true, if_false, Nat.zero_add, Nat.reduceAdd, Nat.reduceEqDiff, Nat.le_refl, Nat.reduceBEq, Bool.false_eq_true, eq_self]
            refine gB_dec ?_ ?_ <;> intro hc4 <;> simp -implicitDefEqProofs (maxSteps := 10000000) only [hc4, wp_reg0, wp_seq, wp_cond, wp_ret, wpK_at, execK_at, junkK_at, seqK_normal, seqK_ret, blockK_ret, loopK_ret, opsK_at, ops_nil, ops_cons, op_plain, op_guardn, slotAt_zero, slotAt_succ, step_move, step_assign, step_pick, step_indexAddr, opt_some, gB_true, gB_false, ev_tmp, ev_const, putT_some, pv_eq, lk, tov, stepA, valA, idxAddrA, idxA, PV.cells, Option.getD_some, Option.getD_none, Option.map_some, Option.bind_some, List.getElem?_cons_zero, List.getElem?_cons_succ, List.set_cons_zero, List.set_cons_succ, if_true, if_false, Nat.zero_add, Nat.reduceAdd, Nat.reduceEqDiff, decide_true, decide_false, eq_self, RetQ_ret, resAll, res1, packR, Option.some.injEq]
            · rw [hbad (hno (by omega))]
            · simp -implicitDefEqProofs (maxSteps := 10000000) only [hk0, Int.toNat_natCast, hg, wp_cond, execK_at, seqK_normal, opsK_at, ops_nil, ops_cons, op_plain, op_guardn, slotAt_zero, slotAt_succ, step_pick, step_load, step_binOp, opt_some, gB_false, ev_tmp, ev_const, putT_some, pv_eq, lk, tov, valA, ldA, ldC, binA, num2, binV, Option.getD_some, Option.getD_none, Option.map_some, Option.bind_some, List.getElem?_cons_zero, List.getElem?_cons_succ, List.set_cons_zero, List.set_cons_succ, List.length_cons, List.length_nil, List.take_succ_cons, List.take_nil, if_true, if_false, Nat.zero_add, Nat.reduceAdd, Nat.reduceEqDiff, Nat.le_refl, Nat.reduceBEq, Bool.false_eq_true, eq_self]
              refine gB_dec ?_ ?_ <;> intro hc5 <;> simp -implicitDefEqProofs (maxSteps := 10000000) only [hc5, wp_skip, wp_reg0, wp_seq, wp_ret, wpK_at, seqK_normal, seqK_ret, blockK_normal, blockK_ret, loopK_ret, opsK_at, ops_nil, ops_cons, op_plain, step_move, step_assign, step_binOp, opt_some, ev_tmp, ev_const, putT_some, lk, tov, stepA, valA, binA, num2, binV, Option.getD_none, Option.map_some, Option.bind_some, List.getElem?_cons_zero, List.getElem?_cons_succ, List.set_cons_zero, List.set_cons_succ, if_true, Nat.zero_add, Nat.reduceAdd, Nat.reduceBEq, decide_true, decide_false, eq_self, RetQ_ret, resAll, res1, packR, Option.some.injEq]
              · rw [hbad (hno (by omega))]
              · simp -implicitDefEqProofs (maxSteps := 10000000) only [hw2]
                refine loopK_of (m' := m' - 1) (by omega) ?_
                simp -implicitDefEqProofs (maxSteps := 10000000) only [opt_some, ghs, gh1, junkAll, Option.bind_some, List.set_cons_zero, List.set_cons_succ]
                refine ⟨k + 1, by omega, ?_, by simp only [Int.natCast_add, Int.natCast_one]⟩
                rw [List.take_succ_eq_append_getElem hlt]
                intro y hy
                rcases List.mem_append.1 hy with hy | hy
                · exact hk y hy
                · simp at hy; omega
          · simp -implicitDefEqProofs (maxSteps := 10000000) only [hw]
            refine loopK_of (m' := m - 1) (by omega) ?_
            simp -implicitDefEqProofs (maxSteps := 10000000) only [opt_some, ghs, gh1, junkAll, Option.bind_some, List.set_cons_zero, List.set_cons_succ]
            exact ⟨i + 1, by omega, hstep (hout (by omega)), by simp only [Int.natCast_add, Int.natCast_one]⟩
        · simp -implicitDefEqProofs (maxSteps := 10000000) only [hw]
          refine loopK_of (m' := m - 1) (by omega) ?_
          simp -implicitDefEqProofs (maxSteps := 10000000) only [opt_some, ghs, gh1, junkAll, Option.bind_some, List.set_cons_zero, List.set_cons_succ]
          exact ⟨i + 1, by omega, hstep (hout (by rw [el] at hc2; omega)), by simp only [Int.natCast_add, Int.natCast_one]⟩
      · have hi5 : i = 5 := by omega
        have hin : (rows.map (·.2)).all in5 = true := by
          rw [← hpre, hi5, List.take_of_length_le (by simp [hlen])]
        have hfew : few9 N x root f g h r z = decide ((root.length : Int) = N * N ∧ (f.length : Int) = N * N ∧ (g.length : Int) = N * N) := by
          rw [few9, hs, hall, hin, Bool.true_and, Bool.true_and]
        rw [hfew]
        by_cases b1 : (root.length : Int) = N * N
        · have b1' : ((root.length : Int) == N * N) = true := by simp [b1]
          by_cases b2 : (f.length : Int) = N * N
          · have b2' : ((f.length : Int) == N * N) = true := by simp [b2]
            by_cases b3 : (g.length : Int) = N * N
            · have b3' : ((g.length : Int) == N * N) = true := by simp [b3]
              rw [decide_eq_true ⟨b1, b2, b3⟩]
              simp -implicitDefEqProofs (maxSteps := 10000000) only [lr, lf, lg, wN, b1', b2', b3', wp_ret, execK_at, seqK_normal, opsK_at, ops_nil, ops_cons, op_plain, op_guard, slotAt_zero, slotAt_succ, step_builtin, step_move, step_assign, step_pick, step_load, step_fieldAddr, step_binOp, opt_some, gB_true, ev_tmp, ev_const, putT_some, pv_eq, lk, tov, stepA, valA, ldA, ldT, fieldAddrA, lenA, binA, num2, binV, tovs, Option.getD_some, Option.getD_none, Option.map_some, Option.bind_some, List.getElem?_cons_zero, List.getElem?_cons_succ, List.set_cons_zero, List.set_cons_succ, List.length_cons, List.length_nil, List.take_succ_cons, List.take_zero, List.drop_succ_cons, List.drop_zero, if_true, if_false, reduceCtorEq, Nat.zero_add, Nat.reduceAdd, Nat.reduceEqDiff, Nat.reduceLeDiff, Nat.reduceBEq, Bool.false_eq_true, eq_self, RetQ_ret, resAll, res1, packR]
            · have b3' : ((g.length : Int) == N * N) = false := by simp [b3]
              rw [decide_eq_false fun h => b3 h.2.2]
              simp -implicitDefEqProofs (maxSteps := 10000000) only [lr, lf, lg, wN, b1', b2', b3', wp_ret, execK_at, seqK_normal, opsK_at, ops_nil, ops_cons, op_plain, op_guard, slotAt_zero, slotAt_succ, step_builtin, step_move, step_assign, step_pick, step_load, step_fieldAddr, step_binOp, opt_some, gB_true, ev_tmp, ev_const, putT_some, pv_eq, lk, tov, stepA, valA, ldA, ldT, fieldAddrA, lenA, binA, num2, binV, tovs, Option.getD_some, Option.getD_none, Option.map_some, Option.bind_some, List.getElem?_cons_zero, List.getElem?_cons_succ, List.set_cons_zero, List.set_cons_succ, List.length_cons, List.length_nil, List.take_succ_cons, List.take_zero, List.drop_succ_cons, List.drop_zero, if_true, if_false, reduceCtorEq, Nat.zero_add, Nat.reduceAdd, Nat.reduceEqDiff, Nat.reduceLeDiff, Nat.reduceBEq, Bool.false_eq_true, eq_self, RetQ_ret, resAll, res1, packR]
          · have b2' : ((f.length : Int) == N * N) = false := by simp [b2]
            rw [decide_eq_false fun h => b2 h.2.1]
            simp -implicitDefEqProofs (maxSteps := 10000000) only [lr, lf, wN, b1', b2', wp_ret, execK_at, junkK_at, seqK_normal, opsK_at, ops_nil, ops_cons, op_plain, op_guard, slotAt_zero, slotAt_succ, step_builtin, step_move, step_assign, step_pick, step_load, step_fieldAddr, step_binOp, opt_some, gB_true, gB_false, ev_tmp, ev_const, putT_some, pv_eq, lk, tov, stepA, valA, ldA, ldT, fieldAddrA, lenA, binA, num2, binV, tovs, Option.getD_some, Option.getD_none, Option.map_some, Option.bind_some, List.getElem?_cons_zero, List.getElem?_cons_succ, List.set_cons_zero, List.set_cons_succ, List.length_cons, List.length_nil, List.take_succ_cons, List.take_zero, List.drop_succ_cons, List.drop_zero, if_true, if_false, reduceCtorEq, Nat.zero_add, Nat.reduceAdd, Nat.reduceEqDiff, Nat.reduceLeDiff, Nat.reduceBEq, Bool.false_eq_true, eq_self, RetQ_ret, resAll, res1, packR]
        · have b1' : ((root.length : Int) == N * N) = false := by simp [b1]
          rw [decide_eq_false fun h => b1 h.1]
          simp -implicitDefEqProofs (maxSteps := 10000000) only [lr, wN, b1', wp_ret, junkK_at, seqK_normal, opsK_at, ops_nil, ops_cons, op_plain, op_guard, slotAt_zero, slotAt_succ, step_move, step_assign, step_pick, opt_some, gB_false, ev_tmp, ev_const, putT_some, pv_eq, lk, tov, stepA, valA, Option.getD_some, Option.getD_none, Option.map_some, Option.bind_some, List.getElem?_cons_zero, List.getElem?_cons_succ, List.set_cons_zero, List.set_cons_succ, if_true, if_false, reduceCtorEq, Nat.zero_add, Nat.reduceAdd, Nat.reduceEqDiff, Bool.false_eq_true, eq_self, RetQ_ret, resAll, res1, packR]
    · have a4' : ((h.length : Int) != N) = true := by simp [a4]
      rw [few9_bad (by omega)]
      simp -implicitDefEqProofs (maxSteps := 10000000) only [a1, a2, lx, lh, a3', a4', wp_reg0, wp_seq, wp_cond, wp_ret, wpK_at, execK_at, junkK_at, seqK_normal, seqK_ret, opsK_at, ops_nil, ops_cons, op_plain, op_guardn, slotAt_zero, slotAt_succ, step_builtin, step_move, step_assign, step_pick, step_load, step_fieldAddr, step_binOp, opt_some, gB_true, gB_false, ev_tmp, ev_const, putT_some, pv_eq, lk, tov, stepA, valA, ldA, ldT, fieldAddrA, lenA, binA, num2, binV, tovs, Option.getD_some, Option.getD_none, Option.map_some, Option.bind_some, List.getElem?_cons_zero, List.getElem?_cons_succ, List.set_cons_zero, List.set_cons_succ, List.length_cons, List.length_nil, List.take_succ_cons, List.take_zero, List.drop_succ_cons, List.drop_zero, if_true, if_false, reduceCtorEq, Nat.zero_add, Nat.reduceAdd, Nat.reduceEqDiff, Nat.reduceLeDiff, Nat.reduceBEq, Bool.false_eq_true, decide_false, eq_self, RetQ_ret, resAll, res1, packR]
  · have a3' : ((x.length : Int) != N) = true := by simp [a3]
    rw [few9_bad (by omega)]
    simp -implicitDefEqProofs (maxSteps := 10000000) only [a1, a2, lx, a3', wp_reg0, wp_seq, wp_cond, wp_ret, wpK_at, execK_at, junkK_at, seqK_normal, seqK_ret, opsK_at, ops_nil, ops_cons, op_plain, op_guardn, slotAt_zero, slotAt_succ, step_builtin, step_move, step_assign, step_pick, step_load, step_fieldAddr, step_binOp, opt_some, gB_true, gB_false, ev_tmp, ev_const, putT_some, pv_eq, lk, tov, stepA, valA, ldA, ldT, fieldAddrA, lenA, binA, num2, binV, tovs, Option.getD_some, Option.getD_none, Option.map_some, Option.bind_some, List.getElem?_cons_zero, List.getElem?_cons_succ, List.set_cons_zero, List.set_cons_succ, List.length_cons, List.length_nil, List.take_succ_cons, List.take_zero, List.drop_succ_cons, List.drop_zero, if_true, if_false, reduceCtorEq, Nat.zero_add, Nat.reduceAdd, Nat.reduceEqDiff, Nat.reduceLeDiff, Nat.reduceBEq, Bool.false_eq_true, decide_false, eq_self, RetQ_ret, resAll, res1, packR]
end Go.Proofs.Ytadfcbpakfaaaaa.A
