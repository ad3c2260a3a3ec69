import Derived.Test.YtnfomjnmigkpmaaT33

set_option linter.unusedVariables false
set_option linter.unusedSimpArgs false
set_option maxRecDepth 100000
namespace Go.Proofs.Ytnfomjnmigkpmaa.A
open Go Go.RowKit Go.Shelf

theorem ok6 : Ok Try.prog 6 [] (tru true) := by
  refine ok_fn mixed Try.func6 (code := ?_) (h := h6) ?_ k6 ?_
  rotate_left
  · exact rfl
  unfold h6 initS
  simp -implicitDefEqProofs (maxSteps := 10000000) only [wp_reg0, wp_reg, wp_seq, seqK_normal, opsK_at, ops_nil, ops_cons, op_plain, step_call, step_assign, step_buildSlice, opt_some, ev_const, putT_some, pv_eq, lk, tov, stepA, valA, pvs, PV.cells, PV.ok, PV.cell, Option.getD_some, Option.getD_none, Option.map_some, Option.bind_some, List.set_cons_zero, List.set_cons_succ, List.map_cons, List.map_nil, List.all_cons, List.all_nil, List.length_cons, List.length_nil, List.nil_append, List.toList_toArray, List.replicate_succ, List.replicate_zero, if_true, if_false, Bool.and_true, reduceCtorEq, and_self, Nat.zero_add, Nat.reduceAdd, Nat.reduceSub, Nat.reduceEqDiff, Nat.reduceBEq, eq_self, range1, one_int, Try.ntmps6, Try.results6]
  have h1 := ok16 1 1 true [1] (by simp)
  rw [if_pos (by decide)] at h1
  refine call_fn rfl rfl rfl (h1) ?_
  have h2 := ok9 true [0] (by simp)
  have h3 := ok9 true [1] (by simp)
  have u1 : upX 1 ([0].map (newF · 1)) (sqF 1 ([1].map (newF · 1))) ([1].map (newF · 1)) (newF 1 1) (newF 2 1) = [newF 1 1] := by decide +kernel
  have u2 : atF 1 1 (upP 1 (sqF 1 ([1].map (newF · 1))) ([1].map (newF · 1)) (newF 1 1)) 0 0 = newF 1 2 := by decide +kernel
  have u3 : spreadF 1 (sqF 1 ([1].map (newF · 1))) ([1].map (newF · 1)) (newF 1 1) = newF 2 1 := by decide +kernel
  generalize hR : [1].map (newF · 1) = R at *
  have lR : R.length = 1 := by subst hR; rfl
  simp -implicitDefEqProofs (maxSteps := 10000000) only [wp_seq, seqK_normal, opsK_at, ops_nil, ops_cons, op_plain, step_call, step_move, step_assign, step_extract, step_alloc, step_store, step_buildSlice, opt_some, ev_tmp, ev_const, putT_some, putT_none, pv_eq, st_tm, lk, upd, tov, stepA, valA, storeA, cellsOf, pvs, newToks, St.newBox, St.newTok, St.mapTV, TV.killPtr, TV.killTok, zeroT, PV.cells, PV.ok, PV.cell, Option.getD_some, Option.getD_none, Option.map_some, Option.bind_some, List.getElem?_cons_zero, List.getElem?_cons_succ, List.set_cons_zero, List.set_cons_succ, List.map_cons, List.map_nil, List.foldl_cons, List.foldl_nil, List.all_cons, List.all_nil, List.length_cons, List.length_nil, List.take_zero, List.drop_succ_cons, List.drop_nil, List.nil_append, List.append_nil, if_true, if_false, Bool.and_true, reduceCtorEq, true_and, and_self, Nat.zero_add, Nat.reduceAdd, Nat.reduceEqDiff, Nat.reduceLT, Nat.le_refl, Nat.reduceBEq, Nat.reduceBNe, wp_regd, opsC_cons, opsCK_at, dsL_nil, dsL_cons, dsC, allocX, paOk, freeAll, St.freeB, TV.freeB, eq_self, Option.isNone_none, range1, one_int]
  refine call_fn rfl rfl rfl (h2) ?_
  generalize hX : [0].map (newF · 1) = X at *
  have lX : X.length = 1 := by subst hX; rfl
  simp -implicitDefEqProofs (maxSteps := 10000000) only [op_plain, step_call, step_load, opt_some, ev_tmp, putT_some, lk, tov, ldA, ldT, tovs, Option.getD_some, Option.getD_none, Option.map_some, Option.bind_some, List.getElem?_cons_zero, List.getElem?_cons_succ, List.set_cons_zero, List.set_cons_succ, List.map_cons, List.map_nil, List.all_cons, List.all_nil, List.length_cons, List.length_nil, List.take_succ_cons, List.take_nil, List.drop_zero, if_true, if_false, Bool.and_true, reduceCtorEq, true_and, Nat.zero_add, Nat.reduceAdd, Nat.reduceEqDiff, Nat.le_refl, Nat.reduceBNe, opsC_cons, opsCK_at, dsL_nil, dsL_cons, dsC, allocX, paOk, freeAll, St.freeB, TV.freeB, eq_self, Option.isNone_none]
  have h4 := ok8 false false X R 1 (by omega) (by omega) (by omega)
  rw [if_pos (by omega)] at h4
  refine call_fn rfl rfl rfl (h4) ?_
  simp -implicitDefEqProofs (maxSteps := 10000000) only [wp_seq, seqK_normal, op_plain, step_call, step_move, step_assign, step_load, step_extract, step_alloc, step_store, step_buildSlice, opt_some, ev_tmp, ev_const, putT_some, putT_none, pv_eq, st_tm, lk, upd, tov, stepA, valA, storeA, cellsOf, ldA, ldT, pvs, tovs, newToks, St.newBox, St.newTok, St.mapTV, TV.killPtr, TV.killTok, zeroT, PV.cells, PV.ok, PV.cell, Option.getD_some, Option.getD_none, Option.map_some, Option.bind_some, List.getElem?_cons_zero, List.getElem?_cons_succ, List.set_cons_zero, List.set_cons_succ, List.map_cons, List.map_nil, List.foldl_cons, List.foldl_nil, List.all_cons, List.all_nil, List.length_cons, List.length_nil, List.take_succ_cons, List.take_zero, List.take_nil, List.drop_succ_cons, List.drop_zero, List.drop_nil, List.nil_append, List.append_nil, if_true, if_false, Bool.and_true, reduceCtorEq, true_and, and_self, Nat.zero_add, Nat.reduceAdd, Nat.reduceEqDiff, Nat.reduceLT, Nat.le_refl, Nat.reduceBEq, Nat.reduceBNe, wp_regd, opsC_nil, opsC_cons, opsCK_at, dsL_nil, dsL_cons, dsC, allocX, paOk, freeAll, St.freeB, TV.freeB, eq_self, Option.isNone_none, range1, one_int]
  refine call_fn rfl rfl rfl (h3) ?_
  simp -implicitDefEqProofs (maxSteps := 10000000) only [op_plain, step_call, putT_some, lk, Option.getD_some, Option.getD_none, List.set_cons_zero, List.set_cons_succ, List.map_cons, List.map_nil, List.all_cons, List.all_nil, if_true, if_false, Bool.and_true, reduceCtorEq, true_and, Nat.reduceAdd, Nat.reduceEqDiff, Nat.reduceBNe, opsC_cons, opsCK_at, dsL_nil, dsL_cons, dsC, allocX, paOk, freeAll, St.freeB, TV.freeB, eq_self, Option.isNone_none]
  refine call_fn rfl rfl rfl (ok13 1 1) ?_
  simp -implicitDefEqProofs (maxSteps := 10000000) only [op_plain, step_call, putT_some, lk, Option.getD_some, Option.getD_none, List.set_cons_zero, List.set_cons_succ, List.map_cons, List.map_nil, List.all_cons, List.all_nil, if_true, if_false, Bool.and_true, reduceCtorEq, true_and, Nat.reduceAdd, Nat.reduceEqDiff, Nat.reduceBNe, opsC_cons, opsCK_at, dsL_nil, dsL_cons, dsC, allocX, paOk, freeAll, St.freeB, TV.freeB, eq_self, Option.isNone_none]
  refine call_fn rfl rfl rfl (ok13 2 1) ?_
  simp -implicitDefEqProofs (maxSteps := 10000000) only [op_plain, step_call, putT_some, lk, Option.getD_some, Option.getD_none, List.set_cons_zero, List.set_cons_succ, List.map_cons, List.map_nil, List.all_cons, List.all_nil, if_true, if_false, Bool.and_true, reduceCtorEq, true_and, Nat.reduceAdd, Nat.reduceEqDiff, Nat.reduceBNe, opsC_cons, opsCK_at, dsL_nil, dsL_cons, dsC, allocX, paOk, freeAll, St.freeB, TV.freeB, eq_self, Option.isNone_none]
  have h5 := ok12 false false false 1 X (sqF 1 R) R (newF 1 1) (newF 2 1) (by omega) lX (sqF_len 1 R) lR
  rw [u1, u3] at h5
  refine call_fn rfl rfl rfl (h5) ?_
  simp -implicitDefEqProofs (maxSteps := 10000000) only [frs, wp_draw, wp_seq, execK_at, seqK_normal, opsK_at, ops_cons, op_plain, op_guard, slotAt_zero, slotAt_succ, step_call, step_move, step_assign, step_pick, step_load, step_fieldAddr, step_indexAddr, step_extract, step_alloc, step_store, opt_some, gB_true, ev_tmp, ev_const, putT_some, putT_none, pv_eq, st_tm, lk, upd, tov, stepA, valA, storeA, cellsOf, ldA, ldC, ldT, fieldAddrA, idxAddrA, idxA, tovs, newToks, St.newBox, St.newTok, St.mapTV, TV.killPtr, TV.killTok, zeroT, PV.cells, PV.ok, PV.cell, Option.getD_some, Option.getD_none, Option.map_some, Option.bind_some, List.getElem?_cons_zero, List.getElem?_cons_succ, List.set_cons_zero, List.set_cons_succ, List.map_cons, List.map_nil, List.foldl_cons, List.foldl_nil, List.all_cons, List.all_nil, List.length_cons, List.length_nil, List.take_succ_cons, List.take_zero, List.take_nil, List.drop_succ_cons, List.drop_zero, List.drop_nil, List.nil_append, List.append_nil, if_true, if_false, Bool.not_false, Bool.and_true, reduceCtorEq, true_and, and_self, Nat.zero_add, Nat.reduceAdd, Nat.reduceEqDiff, Nat.reduceLeDiff, Nat.reduceLT, Nat.le_refl, Nat.reduceBNe, Bool.false_eq_true, Int.reduceToNat, Int.reduceLE, opsC_nil, opsC_cons, opsCK_at, dsL_nil, dsL_cons, dsC, allocX, paOk, freeAll, St.freeB, TV.freeB, eq_self, List.contains_nil, Option.isNone_none, one_int, one_bool]
  refine call_fn rfl rfl rfl (ok13 1 1) ?_
  simp -implicitDefEqProofs (maxSteps := 10000000) only [eq_fr, execK_at, opsK_at, ops_cons, op_plain, op_guard, slotAt_zero, slotAt_succ, step_call, step_move, step_pick, step_load, step_fieldAddr, step_binOp, opt_some, gB_true, ev_tmp, ev_const, putT_some, pv_eq, lk, tov, valA, ldA, ldT, fieldAddrA, bl, binA, num2, eqA, tovs, Option.getD_some, Option.getD_none, Option.map_some, Option.bind_some, List.getElem?_cons_zero, List.getElem?_cons_succ, List.set_cons_zero, List.set_cons_succ, List.length_cons, List.length_nil, List.take_succ_cons, List.take_nil, List.drop_succ_cons, List.drop_zero, if_true, if_false, Nat.zero_add, Nat.reduceAdd, Nat.reduceEqDiff, Nat.le_refl, Nat.reduceBEq, decide_true, eq_self]
  refine call_fn rfl rfl rfl (ok18 false 1 1 0 0 (upP 1 (sqF 1 R) R (newF 1 1))) ?_
  rw [u2]
  simp -implicitDefEqProofs (maxSteps := 10000000) only [execK_at, opsK_at, ops_cons, op_guard, slotAt_zero, slotAt_succ, step_call, gB_true, putT_some, lk, Option.getD_none, Option.bind_some, List.getElem?_cons_zero, List.getElem?_cons_succ, List.set_cons_zero, List.set_cons_succ, if_false, Nat.zero_add, Nat.reduceAdd, Nat.reduceEqDiff]
  refine call_fn rfl rfl rfl (ok13 1 2) ?_
  simp -implicitDefEqProofs (maxSteps := 10000000) only [eq_fr, execK_at, opsK_at, ops_cons, op_plain, op_guard, slotAt_zero, slotAt_succ, step_call, step_move, step_pick, step_load, step_fieldAddr, step_binOp, opt_some, gB_true, ev_tmp, ev_const, putT_some, pv_eq, lk, tov, valA, ldA, ldT, fieldAddrA, bl, binA, num2, eqA, tovs, Option.getD_some, Option.getD_none, Option.map_some, Option.bind_some, List.getElem?_cons_zero, List.getElem?_cons_succ, List.set_cons_zero, List.set_cons_succ, List.length_cons, List.length_nil, List.take_succ_cons, List.take_nil, List.drop_succ_cons, List.drop_zero, if_true, if_false, Nat.zero_add, Nat.reduceAdd, Nat.reduceEqDiff, Nat.le_refl, Nat.reduceBEq, decide_true, eq_self]
  refine call_fn rfl rfl rfl (ok13 2 1) ?_
  simp -implicitDefEqProofs (maxSteps := 10000000) only [eq_fr, execK_at, opsK_at, ops_cons, op_plain, op_guard, slotAt_zero, slotAt_succ, step_call, step_move, step_pick, step_load, step_binOp, opt_some, gB_true, ev_tmp, ev_const, putT_some, pv_eq, lk, tov, valA, ldA, ldT, bl, binA, num2, eqA, tovs, Option.getD_some, Option.getD_none, Option.map_some, Option.bind_some, List.getElem?_cons_zero, List.getElem?_cons_succ, List.set_cons_zero, List.set_cons_succ, List.length_cons, List.length_nil, List.take_succ_cons, List.take_nil, List.drop_zero, if_true, if_false, Nat.zero_add, Nat.reduceAdd, Nat.reduceEqDiff, Nat.le_refl, Nat.reduceBEq, decide_true, eq_self]
  have h6 := ok10 false false X (sqF 1 R) 1 1
  have hs : stRight X.length 1 1 (sqF 1 R).length = true := by rw [show (sqF 1 R).length = 1 from sqF_len 1 R, lX]; decide +kernel
  rw [hs] at h6
  refine call_fn rfl rfl rfl (h6) ?_
  simp -implicitDefEqProofs (maxSteps := 10000000) only [wp_ret, seqK_normal, opsK_at, ops_nil, ops_cons, op_plain, step_assign, step_pick, opt_some, ev_tmp, ev_const, putT_some, pv_eq, lk, tov, stepA, valA, Option.getD_none, Option.map_some, Option.bind_some, List.getElem?_cons_zero, List.getElem?_cons_succ, List.set_cons_zero, List.set_cons_succ, if_true, if_false, Nat.reduceAdd, Nat.reduceEqDiff, eq_self, RetQ_ret, resAll, res1, packR]
end Go.Proofs.Ytnfomjnmigkpmaa.A
