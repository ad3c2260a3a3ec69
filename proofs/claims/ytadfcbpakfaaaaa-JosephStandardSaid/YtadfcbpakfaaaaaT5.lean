import Derived.Test.YtadfcbpakfaaaaaT4
set_option linter.unusedVariables false
set_option linter.unusedSimpArgs false
set_option maxRecDepth 100000
namespace Go.Proofs.Ytadfcbpakfaaaaa.A
open Go Go.RowKit Go.Shelf

def rowsF (r c : Int) (l : List Fr) : List (List PV) := if right r c l.length = true then (List.range r.toNat).map fun (i : Nat) => [num (i : Int), .sl false (frs (rowF r c l (i : Int)))] else []

theorem it76 (ex : Bool) (r c : Int) (l : List Fr) : IterOk Try.prog (.fn (.func 76) [.vp [num r, num c, .sl ex (frs l)]]) (rowsF r c l) := by
  refine iter_fn mixed Try.func76 (code := ?_) (h := h76) ?_ k76 ?_ ?_
  rotate_left
  · exact rfl
  · exact rfl
  intro yl
  unfold h76 initS
  simp -implicitDefEqProofs only [wp_reg0, wp_seq, wp_block, seqK_normal, opsK_at, ops_nil, ops_cons, op_plain, step_assign, opt_some, ev_const, putT_some, lk, stepA, valA, Option.getD_none, Option.map_some, List.set_cons_zero, List.set_cons_succ, List.map_cons, List.map_nil, List.length_cons, List.length_nil, List.cons_append, List.nil_append, List.replicate_succ, List.replicate_zero, Nat.zero_add, Nat.reduceAdd, Nat.reduceSub, Try.ntmps76]
  refine wp_loop (fun m s => ∃ i : Nat, i + m = (rowsF r c l).length ∧ s = ⟨[.v (.fn (.yield yl) []), .v (.vp [num r, num c, .sl ex (frs l)]), jk, nt i, jk, jk, jk, jk, jk, jk, jk, jk, jk, jk, jk, jk, jk, jk, jk, jk, jk], [], [], [], [], i⟩) (rowsF r c l).length ?_ ?_
  · simp -implicitDefEqProofs only [opt_some, ghs, gh1, junkAll, Option.bind_some, List.set_cons_zero, List.set_cons_succ]
    exact ⟨0, by simp, rfl⟩
  rintro m s ⟨i, hi, rfl⟩
  simp -implicitDefEqProofs only [wp_reg, wp_seq, opsK_at, ops_cons, op_plain, step_call, step_load, opt_some, ev_tmp, putT_some, lk, ldA, ldC, Option.getD_some, Option.getD_none, Option.map_some, Option.bind_some, List.getElem?_cons_zero, List.getElem?_cons_succ, List.set_cons_zero, List.set_cons_succ, List.length_cons, List.length_nil, List.take_succ_cons, List.take_nil, if_true, if_false, reduceCtorEq, Nat.zero_add, Nat.reduceAdd, Nat.reduceEqDiff, Nat.le_refl, eq_self]
  refine call_fn rfl rfl rfl (ok54 ex r c (frs l)) ?_
  have e : (frs l).length = l.length := by simp
  rw [e]
  cases hr : right r c l.length with
  | false =>
    simp -implicitDefEqProofs only [wp_cond, wp_exit, wpK_at, junkK_at, seqK_normal, seqK_exit, blockK_exit, loopK_exit, opsK_at, ops_nil, ops_cons, op_plain, op_guard, slotAt_zero, slotAt_succ, step_move, step_pick, opt_some, gB_false, ev_tmp, ev_const, putT_some, pv_eq, lk, tov, valA, Option.getD_some, Option.getD_none, Option.map_some, Option.bind_some, List.getElem?_cons_zero, List.getElem?_cons_succ, List.set_cons_zero, List.set_cons_succ, if_true, if_false, reduceCtorEq, Nat.zero_add, Nat.reduceAdd, Nat.reduceEqDiff, Bool.false_eq_true, eq_self]
    have hl : (rowsF r c l).length = 0 := by simp [rowsF, hr]
    omega
  | true =>
    obtain ⟨r1, r2, c1, c2, hn⟩ := right_spec hr
    have hl : (rowsF r c l).length = r.toNat := by simp [rowsF, hr]
    simp -implicitDefEqProofs only [wp_cond, execK_at, seqK_normal, opsK_at, ops_nil, ops_cons, op_plain, op_guard, slotAt_zero, slotAt_succ, step_move, step_pick, step_load, step_fieldAddr, step_binOp, opt_some, gB_true, ev_tmp, ev_const, putT_some, pv_eq, lk, tov, valA, ldA, ldC, fieldAddrA, binA, num2, binV, Option.getD_some, Option.getD_none, Option.map_some, Option.bind_some, List.getElem?_cons_zero, List.getElem?_cons_succ, List.set_cons_zero, List.set_cons_succ, List.length_cons, List.length_nil, List.take_succ_cons, List.take_zero, List.drop_zero, if_true, if_false, reduceCtorEq, Nat.zero_add, Nat.reduceAdd, Nat.reduceEqDiff, Nat.reduceLeDiff, Nat.reduceBEq, Bool.false_eq_true, eq_self]
    refine gB_dec ?_ ?_ <;> intro hc <;> simp -implicitDefEqProofs only [hc, wp_skip, wp_reg, wp_seq, wp_block, wp_exit, wpK_at, seqK_normal, seqK_exit, blockK_exit, loopK_exit, opsK_at, ops_cons, op_plain, step_call, step_move, step_load, opt_some, ev_tmp, putT_some, lk, ldA, ldC, Option.getD_some, Option.getD_none, Option.map_some, Option.bind_some, List.getElem?_cons_zero, List.getElem?_cons_succ, List.set_cons_zero, List.set_cons_succ, List.length_cons, List.length_nil, List.take_succ_cons, List.take_nil, if_true, if_false, reduceCtorEq, Nat.zero_add, Nat.reduceAdd, Nat.reduceEqDiff, Nat.le_refl, decide_true, decide_false, eq_self]
    · refine call_fn rfl rfl rfl (ok31 ex r c i l) ?_
      simp -implicitDefEqProofs only [opsK_at, ops_cons, op_plain, step_call, putT_some, lk, Option.getD_none, List.set_cons_zero, List.set_cons_succ, if_false, Nat.reduceAdd, Nat.reduceEqDiff]
      have hx : (rowsF r c l)[i]? = some [num (i : Int), .sl false (frs (rowF r c l i))] := by
        have : i < r.toNat := by omega
        simp [rowsF, hr, this]
      have hw := wrapped (x := (i : Int) + 1) (by omega) (by omega)
      refine call_yield rfl rfl rfl rfl hx ?_ ?_
      · simp -implicitDefEqProofs only [hw, wp_skip, wp_reg0, wp_cond, wpK_at, seqK_normal, blockK_normal, opsK_at, ops_nil, ops_cons, op_plain, step_move, step_assign, step_binOp, step_unOp, opt_some, gB_false, ev_tmp, ev_const, putT_some, pv_eq, st_tm, lk, tov, stepA, valA, unA, bl, binA, num2, binV, Option.getD_none, Option.map_some, Option.bind_some, List.getElem?_cons_zero, List.getElem?_cons_succ, List.set_cons_zero, List.set_cons_succ, if_true, if_false, Bool.not_true, Nat.zero_add, Nat.reduceAdd, Nat.reduceEqDiff, Nat.reduceBEq, eq_self]
        refine loopK_of (m' := m - 1) (by omega) ?_
        simp -implicitDefEqProofs only [opt_some, ghs, gh1, junkAll, Option.bind_some, List.set_cons_zero, List.set_cons_succ]
        exact ⟨i + 1, by omega, by simp only [Int.natCast_add, Int.natCast_one]⟩
      · simp -implicitDefEqProofs only [wp_cond, wp_ret, wpK_at, seqK_normal, seqK_ret, blockK_ret, loopK_ret, opsK_at, ops_nil, ops_cons, op_plain, step_unOp, opt_some, gB_true, ev_tmp, putT_some, pv_eq, st_tm, lk, tov, unA, bl, Option.getD_none, Option.map_some, Option.bind_some, List.getElem?_cons_zero, List.getElem?_cons_succ, List.set_cons_zero, List.set_cons_succ, if_false, Bool.not_false, Nat.reduceAdd, Nat.reduceEqDiff, eq_self]
        exact .inr trivial
    · omega

theorem ok55 (ex : Bool) (r c : Int) (l : List Fr) : Ok Try.prog 55 [matV ex r c (frs l)] (.fn (.func 76) [.vp [num r, num c, .sl ex (frs l)]]) := by
  refine ok_fn mixed Try.func55 (code := ?_) (h := h55) ?_ k55 ?_
  rotate_left
  · exact rfl
  unfold h55 initS
  simp -implicitDefEqProofs only [wp_reg0, wp_reg, wp_seq, wp_ret, wp_gh, wpK_at, seqK_normal, opsK_at, ops_nil, ops_cons, op_plain, step_assign, step_func, step_box, opt_some, ev_tmp, ev_const, putT_some, st_tm, lk, rm, upd, tov, stepA, valA, cellsOf, tovs, capsA, capA, St.freeze, St.newBox, St.mapTV, TV.killPtr, PV.cells, PV.ok, PV.cell, ghs, gh1, Option.getD_some, Option.getD_none, Option.map_some, Option.bind_some, List.getElem?_cons_zero, List.getElem?_cons_succ, List.set_cons_zero, List.set_cons_succ, List.map_cons, List.map_nil, List.all_cons, List.all_nil, List.length_cons, List.length_nil, List.drop_zero, List.cons_append, List.nil_append, List.isEmpty_nil, List.toList_toArray, List.replicate_succ, List.replicate_zero, if_true, if_false, Bool.and_true, reduceCtorEq, and_self, Nat.zero_add, Nat.reduceAdd, Nat.reduceSub, Nat.reduceLeDiff, Nat.reduceLT, eq_self, Option.isNone_none, one_int, RetQ_ret, resAll, res1, packR, Try.ntmps55, Try.results55]

/-! ### Pairs -/
def pairsF (a b : List Fr) : List (List PV) := (List.zip a b).map fun p => [frV p.1, frV p.2]

theorem it80 (ea eb : Bool) (a b : List Fr) (ha : a.length ≤ 5864062014805) (hb : b.length ≤ 5864062014805) : IterOk Try.prog (.fn (.func 80) [.vp [.sl ea (frs a)], .vp [.sl eb (frs b)]]) (pairsF a b) := by
  refine iter_fn mixed Try.func80 (code := ?_) (h := h80) ?_ k80 ?_ ?_
  rotate_left
  · exact rfl
  · exact rfl
  intro yl
  unfold h80 initS
  simp -implicitDefEqProofs only [wp_reg, wp_seq, wp_block, seqK_normal, opsK_at, ops_nil, ops_cons, op_plain, step_builtin, step_move, step_load, opt_some, ev_tmp, ev_const, putT_some, pv_eq, lk, tov, stepA, valA, ldA, ldC, lenA, pvs, Option.getD_some, Option.getD_none, Option.map_some, Option.bind_some, List.getElem?_cons_zero, List.getElem?_cons_succ, List.set_cons_zero, List.set_cons_succ, List.map_cons, List.map_nil, List.foldl_cons, List.foldl_nil, List.length_cons, List.length_nil, List.take_succ_cons, List.take_nil, List.cons_append, List.nil_append, List.replicate_succ, List.replicate_zero, if_true, if_false, reduceCtorEq, Nat.zero_add, Nat.reduceAdd, Nat.reduceSub, Nat.reduceEqDiff, Nat.le_refl, Bool.false_eq_true, eq_self, extremeA, ints, Try.ntmps80]
  have hl : (pairsF a b).length = min a.length b.length := by simp [pairsF]
  have hx0 : ∀ (i : Nat) (ha : i < a.length) (hb : i < b.length), (pairsF a b)[i]? = some [frV a[i], frV b[i]] := fun i h1 h2 => by
    rw [pairsF, List.getElem?_map, List.getElem?_eq_getElem (by simp; omega), Option.map_some, List.getElem_zip]
  have hmin : (if ((frs b).length : Int) < ((frs a).length : Int) then ((frs b).length : Int) else ((frs a).length : Int)) = ((min a.length b.length : Nat) : Int) := by
    simp only [List.length_map]
    split <;> omega
  simp only [hmin]
  refine wp_loop (fun m s => ∃ i : Nat, i + m = (pairsF a b).length ∧ s = ⟨[.v (.fn (.yield yl) []), .v (.vp [.sl ea (frs a)]), .v (.vp [.sl eb (frs b)]), jk, jk, jk, jk, jk, jk, nt ((min a.length b.length : Nat) : Int), nt i, jk, jk, jk, jk, jk, jk, jk, jk, jk, jk, jk, jk, jk, jk], [], [], [], [], i⟩) (pairsF a b).length ?_ ?_
  · simp -implicitDefEqProofs only [opt_some, ghs, gh1, junkAll, Option.bind_some, List.set_cons_zero, List.set_cons_succ]
    exact ⟨0, by simp, rfl⟩
  rintro m s ⟨i, hi, rfl⟩
  simp -implicitDefEqProofs only [wp_reg0, wp_seq, wp_cond, seqK_normal, opsK_at, ops_nil, ops_cons, op_plain, step_binOp, opt_some, ev_tmp, putT_some, lk, valA, binA, num2, binV, Option.getD_none, Option.map_some, List.getElem?_cons_zero, List.getElem?_cons_succ, List.set_cons_zero, List.set_cons_succ, if_true, Nat.zero_add, Nat.reduceBEq, eq_self]
  refine gB_dec ?_ ?_ <;> intro hc <;> simp -implicitDefEqProofs only [hc, wp_skip, wp_reg0, wp_drawy, wp_seq, wp_block, wp_exit, wpK_at, seqK_normal, seqK_exit, blockK_exit, loopK_exit, opsK_at, ops_nil, ops_cons, op_plain, step_move, step_assign, step_load, step_indexAddr, opt_some, ev_tmp, putT_some, pv_eq, lk, tov, stepA, valA, ldA, ldC, idxAddrA, idxA, PV.cells, Option.getD_some, Option.getD_none, Option.map_some, Option.bind_some, List.getElem?_cons_zero, List.getElem?_cons_succ, List.set_cons_zero, List.set_cons_succ, List.length_cons, List.length_nil, List.take_succ_cons, List.take_nil, if_true, if_false, reduceCtorEq, Nat.zero_add, Nat.reduceAdd, Nat.reduceEqDiff, Nat.le_refl, Bool.false_eq_true, decide_true, decide_false, eq_self]
  · have h1 : i < a.length := by omega
    have h2 : i < b.length := by omega
    have h0 : (0 : Int) ≤ (i : Int) := by omega
    have g1 : (frs a)[i]? = some (frV a[i]) := by simp [h1]
    have g2 : (frs b)[i]? = some (frV b[i]) := by simp [h2]
    simp -implicitDefEqProofs only [h0, Int.toNat_natCast, g1, g2, opsK_at, ops_cons, op_plain, step_call, step_move, step_load, step_indexAddr, opt_some, ev_tmp, putT_some, pv_eq, lk, tov, valA, ldA, ldC, idxAddrA, idxA, PV.cells, Option.getD_some, Option.getD_none, Option.map_some, Option.bind_some, List.getElem?_cons_zero, List.getElem?_cons_succ, List.set_cons_zero, List.set_cons_succ, List.length_cons, List.length_nil, List.take_succ_cons, List.take_nil, if_true, if_false, Nat.zero_add, Nat.reduceAdd, Nat.reduceEqDiff, Nat.le_refl, Bool.false_eq_true, eq_self]
    have hw := wrapped (x := (i : Int) + 1) (by omega) (by omega)
    refine call_yield rfl rfl rfl rfl (hx0 i h1 h2) ?_ ?_
    · simp -implicitDefEqProofs only [hw, wp_skip, wp_reg0, wp_cond, wpK_at, seqK_normal, blockK_normal, opsK_at, ops_nil, ops_cons, op_plain, step_move, step_binOp, step_unOp, opt_some, gB_false, ev_tmp, ev_const, putT_some, pv_eq, st_tm, lk, tov, valA, unA, bl, binA, num2, binV, Option.getD_none, Option.map_some, Option.bind_some, List.getElem?_cons_zero, List.getElem?_cons_succ, List.set_cons_zero, List.set_cons_succ, if_true, if_false, Bool.not_true, Nat.zero_add, Nat.reduceAdd, Nat.reduceEqDiff, Nat.reduceBEq, eq_self]
      refine loopK_of (m' := m - 1) (by omega) ?_
      simp -implicitDefEqProofs only [opt_some, ghs, gh1, junkAll, Option.bind_some, List.set_cons_zero, List.set_cons_succ]
      exact ⟨i + 1, by omega, by simp only [Int.natCast_add, Int.natCast_one]⟩
    · simp -implicitDefEqProofs only [wp_cond, wp_ret, wpK_at, seqK_normal, seqK_ret, blockK_ret, loopK_ret, opsK_at, ops_nil, ops_cons, op_plain, step_unOp, opt_some, gB_true, ev_tmp, putT_some, pv_eq, st_tm, lk, tov, unA, bl, Option.getD_none, Option.map_some, Option.bind_some, List.getElem?_cons_zero, List.getElem?_cons_succ, List.set_cons_zero, List.set_cons_succ, if_false, Bool.not_false, Nat.reduceAdd, Nat.reduceEqDiff, eq_self]
      exact .inr trivial
  · omega

theorem ok78 (ea eb : Bool) (a b : List Fr) : Ok Try.prog 78 [.sl ea (frs a), .sl eb (frs b)] (.fn (.func 80) [.vp [.sl ea (frs a)], .vp [.sl eb (frs b)]]) := by
  refine ok_fn mixed Try.func78 (code := ?_) (h := h78) ?_ k78 ?_
  rotate_left
  · exact rfl
  unfold h78 initS
  simp -implicitDefEqProofs only [wp_reg0, wp_reg, wp_seq, wp_ret, wp_gh, wpK_at, seqK_normal, opsK_at, ops_nil, ops_cons, op_plain, step_assign, step_func, step_box, opt_some, ev_tmp, ev_const, putT_some, st_tm, lk, rm, upd, tov, stepA, valA, cellsOf, tovs, capsA, capA, St.freeze, St.newBox, St.mapTV, TV.killPtr, PV.cells, PV.ok, PV.cell, ghs, gh1, Option.getD_some, Option.getD_none, Option.map_some, Option.bind_some, List.getElem?_cons_zero, List.getElem?_cons_succ, List.set_cons_zero, List.set_cons_succ, List.map_cons, List.map_nil, List.all_cons, List.all_nil, List.length_cons, List.length_nil, List.drop_zero, List.cons_append, List.nil_append, List.isEmpty_nil, List.toList_toArray, List.replicate_succ, List.replicate_zero, if_true, if_false, Bool.and_true, reduceCtorEq, and_self, Nat.zero_add, Nat.reduceAdd, Nat.reduceSub, Nat.reduceEqDiff, Nat.reduceLeDiff, Nat.reduceLT, eq_self, Option.isNone_none, RetQ_ret, resAll, res1, packR, Try.ntmps78, Try.results78]
end Go.Proofs.Ytadfcbpakfaaaaa.A
