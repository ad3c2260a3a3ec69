import Derived.Test.YtadfcbpakfaaaaaT12
set_option linter.unusedVariables false
set_option linter.unusedSimpArgs false
set_option maxRecDepth 100000
namespace Go.Proofs.Ytadfcbpakfaaaaa.A
open Go Go.RowKit Go.Shelf

theorem methSub : Meth Try.prog 35 "Sub" 16 := by
  intro v xs w
  rfl

theorem ok74 (a b : Fr) : Ok Try.prog 74 [frV a, frV b] (frV (addF a b)) := by
  refine ok_fn mixed Try.func74 (code := ?_) (h := h74) ?_ k74 ?_
  rotate_left
  · exact rfl
  unfold h74 initS
  simp -implicitDefEqProofs only [wp_reg, wp_seq, seqK_normal, opsK_at, ops_nil, ops_cons, op_plain, step_invoke, step_load, step_iface, step_alloc, step_box, opt_some, ev_tmp, putT_some, pv_eq, st_tm, lk, upd, tov, stepA, valA, cellsOf, ldA, ldT, tovs, newToks, St.newBox, St.mapTV, TV.killPtr, zeroT, PV.cells, PV.ok, PV.cell, Option.getD_some, Option.getD_none, Option.map_some, Option.bind_some, List.getElem?_cons_zero, List.getElem?_cons_succ, List.set_cons_zero, List.set_cons_succ, List.map_cons, List.map_nil, List.foldl_nil, List.all_cons, List.all_nil, List.length_cons, List.length_nil, List.take_succ_cons, List.take_nil, List.drop_zero, List.cons_append, List.nil_append, List.toList_toArray, List.replicate_succ, List.replicate_zero, if_true, if_false, Bool.and_true, reduceCtorEq, and_self, Nat.zero_add, Nat.reduceAdd, Nat.reduceSub, Nat.reduceEqDiff, Nat.reduceLT, Nat.le_refl, eq_self, Option.isNone_none, one_int, one_bool, Try.ntmps74, Try.results74]
  refine call_meth rfl rfl methAdd (ok18 a b) ?_
  simp -implicitDefEqProofs only [wp_ret, seqK_normal, opsK_at, ops_nil, ops_cons, op_plain, step_store, opt_some, ev_tmp, putT_some, putT_none, lk, upd, tov, stepA, storeA, cellsOf, ldA, ldT, tovs, PV.cells, PV.ok, PV.cell, Option.getD_some, Option.map_some, Option.bind_some, List.getElem?_cons_zero, List.getElem?_cons_succ, List.set_cons_zero, List.set_cons_succ, List.map_cons, List.map_nil, List.all_cons, List.all_nil, List.length_cons, List.length_nil, List.take_succ_cons, List.take_zero, List.take_nil, List.drop_succ_cons, List.drop_zero, List.drop_nil, List.nil_append, List.append_nil, if_true, if_false, Bool.and_true, reduceCtorEq, and_self, Nat.zero_add, Nat.reduceAdd, Nat.reduceEqDiff, Nat.reduceLT, Nat.le_refl, eq_self, one_int, one_bool, RetQ_ret, resAll, res1, packR]
theorem ok79 (a b : Fr) : Ok Try.prog 79 [frV a, frV b] (frV (subF a b)) := by
  refine ok_fn mixed Try.func79 (code := ?_) (h := h79) ?_ k79 ?_
  rotate_left
  · exact rfl
  unfold h79 initS
  simp -implicitDefEqProofs only [wp_reg, wp_seq, seqK_normal, opsK_at, ops_nil, ops_cons, op_plain, step_invoke, step_load, step_iface, step_alloc, step_box, opt_some, ev_tmp, putT_some, pv_eq, st_tm, lk, upd, tov, stepA, valA, cellsOf, ldA, ldT, tovs, newToks, St.newBox, St.mapTV, TV.killPtr, zeroT, PV.cells, PV.ok, PV.cell, Option.getD_some, Option.getD_none, Option.map_some, Option.bind_some, List.getElem?_cons_zero, List.getElem?_cons_succ, List.set_cons_zero, List.set_cons_succ, List.map_cons, List.map_nil, List.foldl_nil, List.all_cons, List.all_nil, List.length_cons, List.length_nil, List.take_succ_cons, List.take_nil, List.drop_zero, List.cons_append, List.nil_append, List.toList_toArray, List.replicate_succ, List.replicate_zero, if_true, if_false, Bool.and_true, reduceCtorEq, and_self, Nat.zero_add, Nat.reduceAdd, Nat.reduceSub, Nat.reduceEqDiff, Nat.reduceLT, Nat.le_refl, eq_self, Option.isNone_none, one_int, one_bool, Try.ntmps79, Try.results79]
  refine call_meth rfl rfl methSub (ok16 a b) ?_
  simp -implicitDefEqProofs only [wp_ret, seqK_normal, opsK_at, ops_nil, ops_cons, op_plain, step_store, opt_some, ev_tmp, putT_some, putT_none, lk, upd, tov, stepA, storeA, cellsOf, ldA, ldT, tovs, PV.cells, PV.ok, PV.cell, Option.getD_some, Option.map_some, Option.bind_some, List.getElem?_cons_zero, List.getElem?_cons_succ, List.set_cons_zero, List.set_cons_succ, List.map_cons, List.map_nil, List.all_cons, List.all_nil, List.length_cons, List.length_nil, List.take_succ_cons, List.take_zero, List.take_nil, List.drop_succ_cons, List.drop_zero, List.drop_nil, List.nil_append, List.append_nil, if_true, if_false, Bool.and_true, reduceCtorEq, and_self, Nat.zero_add, Nat.reduceAdd, Nat.reduceEqDiff, Nat.reduceLT, Nat.le_refl, eq_self, one_int, one_bool, RetQ_ret, resAll, res1, packR]
theorem ok51 (ea eb : Bool) (a b : List Fr) (ha : a.length ≤ 5864062014805) (hb : b.length ≤ 5864062014805) : Ok Try.prog 51 [.sl ea (frs a), .sl eb (frs b)] (.sl false (frs (List.zipWith addF a b))) := by
  refine ok_fn mixed Try.func51 (code := ?_) (h := h51) ?_ k51 ?_
  rotate_left
  · exact rfl
  unfold h51 initS
  simp -implicitDefEqProofs only [wp_reg0, wp_reg, wp_seq, seqK_normal, opsK_at, ops_nil, ops_cons, op_plain, step_call, step_move, step_assign, opt_some, ev_tmp, putT_some, st_tm, lk, upd, stepA, St.newTok, St.mapTV, TV.killTok, Option.getD_some, Option.getD_none, Option.map_some, List.getElem?_cons_zero, List.getElem?_cons_succ, List.set_cons_zero, List.set_cons_succ, List.map_cons, List.map_nil, List.length_cons, List.length_nil, List.cons_append, List.nil_append, List.toList_toArray, List.replicate_succ, List.replicate_zero, if_true, Nat.zero_add, Nat.reduceAdd, Nat.reduceSub, eq_self, Try.ntmps51, Try.results51]
  refine call_fn rfl rfl rfl (ok58 74 addF ok74 ea eb a b ha hb) ?_
  simp -implicitDefEqProofs only [wp_ret, seqK_normal, opsK_at, ops_nil, ops_cons, op_plain, step_assign, opt_some, ev_tmp, putT_some, lk, tov, stepA, valA, Option.getD_none, Option.map_some, Option.bind_some, List.getElem?_cons_zero, List.getElem?_cons_succ, List.set_cons_zero, List.set_cons_succ, Nat.reduceAdd, eq_self, RetQ_ret, resAll, res1, packR]
theorem ok72 (ea eb : Bool) (a b : List Fr) (ha : a.length ≤ 5864062014805) (hb : b.length ≤ 5864062014805) : Ok Try.prog 72 [.sl ea (frs a), .sl eb (frs b)] (.sl false (frs (List.zipWith subF a b))) := by
  refine ok_fn mixed Try.func72 (code := ?_) (h := h72) ?_ k72 ?_
  rotate_left
  · exact rfl
  unfold h72 initS
  simp -implicitDefEqProofs only [wp_reg0, wp_reg, wp_seq, seqK_normal, opsK_at, ops_nil, ops_cons, op_plain, step_call, step_move, step_assign, opt_some, ev_tmp, putT_some, st_tm, lk, upd, stepA, St.newTok, St.mapTV, TV.killTok, Option.getD_some, Option.getD_none, Option.map_some, List.getElem?_cons_zero, List.getElem?_cons_succ, List.set_cons_zero, List.set_cons_succ, List.map_cons, List.map_nil, List.length_cons, List.length_nil, List.cons_append, List.nil_append, List.toList_toArray, List.replicate_succ, List.replicate_zero, if_true, Nat.zero_add, Nat.reduceAdd, Nat.reduceSub, eq_self, Try.ntmps72, Try.results72]
  refine call_fn rfl rfl rfl (ok58 79 subF ok79 ea eb a b ha hb) ?_
  simp -implicitDefEqProofs only [wp_ret, seqK_normal, opsK_at, ops_nil, ops_cons, op_plain, step_assign, opt_some, ev_tmp, putT_some, lk, tov, stepA, valA, Option.getD_none, Option.map_some, Option.bind_some, List.getElem?_cons_zero, List.getElem?_cons_succ, List.set_cons_zero, List.set_cons_succ, Nat.reduceAdd, eq_self, RetQ_ret, resAll, res1, packR]

theorem right_le {r c : Int} {n : Nat} (h : right r c n = true) : n ≤ 256 := by
  obtain ⟨r1, r2, c1, c2, hn⟩ := right_spec h
  have : r * c ≤ 16 * 16 := Int.mul_le_mul r2 c2 (by omega) (by omega)
  omega

/-- Number by number. -/
theorem ok71 (k : Nat) (F : Fr → Fr → Fr) (hF : ∀ (ea eb : Bool) (a b : List Fr), a.length ≤ 5864062014805 → b.length ≤ 5864062014805 → Ok Try.prog k [.sl ea (frs a), .sl eb (frs b)] (.sl false (frs (List.zipWith F a b)))) (ea eb : Bool) (r c r2 c2 : Int) (a b : List Fr) :
    Ok Try.prog 71 [matV ea r c (frs a), matV eb r2 c2 (frs b), .fn (.func k) []] (if right r c a.length = true ∧ right r2 c2 b.length = true ∧ r = r2 ∧ c = c2 then .tup [matV false r c (frs (List.zipWith F a b)), tru true] else .tup [matNil, tru false]) := by
  refine ok_fn mixed Try.func71 (code := ?_) (h := h71) ?_ k71 ?_
  rotate_left
  · exact rfl
  unfold h71 initS
  simp -implicitDefEqProofs only [wp_reg, wp_seq, seqK_normal, opsK_at, ops_nil, ops_cons, op_plain, step_call, step_assign, step_load, step_alloc, step_box, opt_some, ev_tmp, ev_const, putT_some, st_tm, lk, upd, tov, stepA, valA, cellsOf, ldA, ldT, tovs, newToks, St.newBox, St.newTok, St.mapTV, TV.killPtr, TV.killTok, zeroT, PV.cells, PV.ok, PV.cell, Option.getD_some, Option.getD_none, Option.map_some, Option.bind_some, List.getElem?_cons_zero, List.getElem?_cons_succ, List.set_cons_zero, List.set_cons_succ, List.map_cons, List.map_nil, List.foldl_cons, List.foldl_nil, List.all_cons, List.all_nil, List.length_cons, List.length_nil, List.take_succ_cons, List.take_nil, List.drop_zero, List.cons_append, List.nil_append, List.toList_toArray, List.replicate_succ, List.replicate_zero, if_true, if_false, Bool.and_true, reduceCtorEq, and_self, Nat.zero_add, Nat.reduceAdd, Nat.reduceSub, Nat.reduceEqDiff, Nat.reduceLT, Nat.le_refl, eq_self, Option.isNone_none, one_int, Try.ntmps71, Try.results71]
  refine call_fn rfl rfl rfl (ok54 ea r c (frs a)) ?_
  have e : (frs a).length = a.length := by simp
  have e' : (frs b).length = b.length := by simp
  rw [e]
  cases hr : right r c a.length with
  | false => simp -implicitDefEqProofs only [wp_reg, wp_seq, wp_cond, wp_ret, wpK_at, junkK_at, seqK_normal, seqK_ret, opsK_at, ops_nil, ops_cons, op_plain, op_guardn, slotAt_zero, slotAt_succ, step_move, step_assign, step_pick, step_unOp, step_build, step_store, opt_some, gB_true, ev_tmp, ev_const, putT_some, putT_none, pv_eq, lk, upd, tov, stepA, valA, storeA, cellsOf, ldA, ldT, unA, bl, pvs, tovs, PV.cells, PV.ok, PV.cell, fillA, Option.getD_some, Option.getD_none, Option.map_some, Option.bind_some, List.getElem?_cons_zero, List.getElem?_cons_succ, List.set_cons_zero, List.set_cons_succ, List.map_cons, List.map_nil, List.all_cons, List.all_nil, List.length_cons, List.length_nil, List.take_succ_cons, List.take_zero, List.take_nil, List.drop_succ_cons, List.drop_zero, List.drop_nil, List.nil_append, List.append_nil, List.zip_nil_left, if_true, if_false, Bool.not_false, Bool.and_true, reduceCtorEq, false_and, and_self, Nat.zero_add, Nat.reduceAdd, Nat.reduceEqDiff, Nat.reduceLT, Nat.le_refl, Bool.false_eq_true, eq_self, one_int, one_slice, RetQ_ret, resAll, res1, packR]
  | true =>
    simp -implicitDefEqProofs only [execK_at, opsK_at, ops_cons, op_plain, op_guardn, slotAt_zero, slotAt_succ, step_call, step_move, step_load, step_unOp, opt_some, gB_false, ev_tmp, putT_some, pv_eq, lk, tov, ldA, ldT, unA, bl, tovs, Option.getD_some, Option.getD_none, Option.map_some, Option.bind_some, List.getElem?_cons_zero, List.getElem?_cons_succ, List.set_cons_zero, List.set_cons_succ, List.length_cons, List.length_nil, List.take_succ_cons, List.take_nil, List.drop_zero, if_true, if_false, Bool.not_true, reduceCtorEq, true_and, Nat.zero_add, Nat.reduceAdd, Nat.reduceEqDiff, Nat.le_refl, eq_self]
    refine call_fn rfl rfl rfl (ok54 eb r2 c2 (frs b)) ?_
    rw [e']
    cases hr2 : right r2 c2 b.length with
    | false => simp -implicitDefEqProofs only [wp_reg, wp_seq, wp_cond, wp_ret, wpK_at, execK_at, junkK_at, seqK_normal, seqK_ret, opsK_at, ops_nil, ops_cons, op_plain, op_guardn, slotAt_zero, slotAt_succ, step_move, step_assign, step_pick, step_unOp, step_build, step_store, opt_some, gB_true, gB_false, ev_tmp, ev_const, putT_some, putT_none, pv_eq, lk, upd, tov, stepA, valA, storeA, cellsOf, ldA, ldT, unA, bl, pvs, tovs, PV.cells, PV.ok, PV.cell, fillA, Option.getD_some, Option.getD_none, Option.map_some, Option.bind_some, List.getElem?_cons_zero, List.getElem?_cons_succ, List.set_cons_zero, List.set_cons_succ, List.map_cons, List.map_nil, List.all_cons, List.all_nil, List.length_cons, List.length_nil, List.take_succ_cons, List.take_zero, List.take_nil, List.drop_succ_cons, List.drop_zero, List.drop_nil, List.nil_append, List.append_nil, List.zip_nil_left, if_true, if_false, Bool.not_false, Bool.and_true, reduceCtorEq, false_and, and_self, Nat.zero_add, Nat.reduceAdd, Nat.reduceEqDiff, Nat.reduceLT, Nat.le_refl, Bool.false_eq_true, eq_self, one_int, one_slice, RetQ_ret, resAll, res1, packR]
    | true =>
      have l1 := right_le hr
      have l2 := right_le hr2
      simp -implicitDefEqProofs only [execK_at, opsK_at, ops_cons, op_plain, op_guardn, slotAt_zero, slotAt_succ, step_move, step_pick, step_load, step_fieldAddr, step_binOp, step_unOp, opt_some, gB_false, ev_tmp, ev_const, putT_some, pv_eq, lk, tov, valA, ldA, ldT, fieldAddrA, unA, bl, binA, num2, binV, tovs, Option.getD_some, Option.getD_none, Option.map_some, Option.bind_some, List.getElem?_cons_zero, List.getElem?_cons_succ, List.set_cons_zero, List.set_cons_succ, List.length_cons, List.length_nil, List.take_succ_cons, List.take_zero, List.drop_zero, if_true, if_false, Bool.not_true, reduceCtorEq, true_and, Nat.zero_add, Nat.reduceAdd, Nat.reduceEqDiff, Nat.reduceLeDiff, Nat.reduceBEq, Bool.false_eq_true, eq_self]
      by_cases h1 : r = r2
      · subst h1
        simp -implicitDefEqProofs only [bne_self_eq_false, wp_cond, execK_at, seqK_normal, opsK_at, ops_nil, ops_cons, op_plain, op_guardn, slotAt_zero, slotAt_succ, step_pick, step_load, step_fieldAddr, step_binOp, opt_some, gB_false, ev_tmp, ev_const, putT_some, pv_eq, lk, tov, valA, ldA, ldT, fieldAddrA, binA, num2, binV, tovs, Option.getD_some, Option.getD_none, Option.map_some, Option.bind_some, List.getElem?_cons_zero, List.getElem?_cons_succ, List.set_cons_zero, List.set_cons_succ, List.length_cons, List.length_nil, List.take_succ_cons, List.take_zero, List.drop_succ_cons, List.drop_zero, if_true, if_false, reduceCtorEq, true_and, Nat.zero_add, Nat.reduceAdd, Nat.reduceEqDiff, Nat.reduceLeDiff, Nat.reduceBEq, Bool.false_eq_true, eq_self]
        by_cases h2 : c = c2
        · subst h2
          simp -implicitDefEqProofs only [bne_self_eq_false, wp_skip, wp_draw, wp_seq, wpK_at, seqK_normal, opsK_at, ops_cons, op_plain, step_call, step_move, step_load, step_fieldAddr, opt_some, gB_false, ev_tmp, putT_some, lk, tov, ldA, ldT, fieldAddrA, tovs, Option.getD_some, Option.getD_none, Option.map_some, Option.bind_some, List.getElem?_cons_zero, List.getElem?_cons_succ, List.set_cons_zero, List.set_cons_succ, List.length_cons, List.length_nil, List.take_succ_cons, List.take_zero, List.take_nil, List.drop_succ_cons, List.drop_zero, if_true, if_false, reduceCtorEq, Nat.zero_add, Nat.reduceAdd, Nat.reduceEqDiff, Nat.reduceLeDiff, Nat.le_refl, Bool.false_eq_true, eq_self]
          refine call_fn rfl rfl rfl (hF ea eb a b (by omega) (by omega)) ?_
          simp -implicitDefEqProofs only [wp_ret, seqK_normal, opsK_at, ops_nil, ops_cons, op_plain, step_assign, step_build, step_store, opt_some, ev_tmp, ev_const, putT_some, putT_none, pv_eq, lk, upd, tov, stepA, valA, storeA, cellsOf, ldA, ldT, pvs, tovs, PV.cells, PV.ok, PV.cell, fillA, setR, Option.getD_some, Option.getD_none, Option.map_some, Option.bind_some, List.getElem?_cons_zero, List.getElem?_cons_succ, List.set_cons_zero, List.set_cons_succ, List.map_cons, List.map_nil, List.all_cons, List.all_nil, List.length_cons, List.length_nil, List.take_succ_cons, List.take_zero, List.take_nil, List.drop_succ_cons, List.drop_zero, List.drop_nil, List.nil_append, List.append_nil, List.zip_cons_cons, List.zip_nil_left, if_true, if_false, Bool.and_true, reduceCtorEq, and_self, Nat.zero_add, Nat.reduceAdd, Nat.reduceEqDiff, Nat.reduceLeDiff, Nat.reduceLT, Nat.le_refl, eq_self, one_int, RetQ_ret, resAll, res1, packR]
        · have hne : (c != c2) = true := by simp [h2]
          simp -implicitDefEqProofs only [hne, h2, wp_reg, wp_seq, wp_ret, wpK_at, seqK_normal, seqK_ret, opsK_at, ops_nil, ops_cons, op_plain, step_assign, step_build, step_store, opt_some, gB_true, ev_tmp, ev_const, putT_some, putT_none, lk, upd, tov, stepA, valA, storeA, cellsOf, ldA, ldT, pvs, tovs, PV.cells, PV.ok, PV.cell, fillA, Option.getD_some, Option.getD_none, Option.map_some, Option.bind_some, List.getElem?_cons_zero, List.getElem?_cons_succ, List.set_cons_zero, List.set_cons_succ, List.map_cons, List.map_nil, List.all_cons, List.all_nil, List.length_cons, List.length_nil, List.take_succ_cons, List.take_zero, List.take_nil, List.drop_succ_cons, List.drop_zero, List.drop_nil, List.nil_append, List.append_nil, List.zip_nil_left, if_true, if_false, Bool.and_true, reduceCtorEq, and_self, Nat.zero_add, Nat.reduceAdd, Nat.reduceEqDiff, Nat.reduceLT, Nat.le_refl, eq_self, one_int, one_slice, RetQ_ret, resAll, res1, packR]
      · have hne : (r != r2) = true := by simp [h1]
        simp -implicitDefEqProofs only [hne, h1, wp_reg, wp_seq, wp_cond, wp_ret, wpK_at, junkK_at, seqK_normal, seqK_ret, opsK_at, ops_nil, ops_cons, op_plain, op_guardn, slotAt_zero, slotAt_succ, step_assign, step_pick, step_build, step_store, opt_some, gB_true, ev_tmp, ev_const, putT_some, putT_none, pv_eq, lk, upd, tov, stepA, valA, storeA, cellsOf, ldA, ldT, pvs, tovs, PV.cells, PV.ok, PV.cell, fillA, Option.getD_some, Option.getD_none, Option.map_some, Option.bind_some, List.getElem?_cons_zero, List.getElem?_cons_succ, List.set_cons_zero, List.set_cons_succ, List.map_cons, List.map_nil, List.all_cons, List.all_nil, List.length_cons, List.length_nil, List.take_succ_cons, List.take_zero, List.take_nil, List.drop_succ_cons, List.drop_zero, List.drop_nil, List.nil_append, List.append_nil, List.zip_nil_left, if_true, if_false, Bool.and_true, reduceCtorEq, false_and, and_self, Nat.zero_add, Nat.reduceAdd, Nat.reduceEqDiff, Nat.reduceLT, Nat.le_refl, eq_self, one_int, one_slice, RetQ_ret, resAll, res1, packR]

theorem ok73 (ea eb : Bool) (r c r2 c2 : Int) (a b : List Fr) : Ok Try.prog 73 [matV ea r c (frs a), matV eb r2 c2 (frs b)]
    (if right r c a.length = true ∧ right r2 c2 b.length = true ∧ r = r2 ∧ c = c2 then .tup [matV false r c (frs (List.zipWith addF a b)), tru true] else .tup [matNil, tru false]) := by
  refine ok_fn mixed Try.func73 (code := ?_) (h := h73) ?_ k73 ?_
  rotate_left
  · exact rfl
  unfold h73 initS
  simp -implicitDefEqProofs only [wp_reg, wp_seq, seqK_normal, opsK_at, ops_nil, ops_cons, op_plain, step_call, step_assign, step_load, step_alloc, step_box, opt_some, ev_tmp, ev_const, putT_some, st_tm, lk, upd, tov, stepA, valA, cellsOf, ldA, ldT, tovs, newToks, St.newBox, St.newTok, St.mapTV, TV.killPtr, TV.killTok, zeroT, PV.cells, PV.ok, PV.cell, Option.getD_some, Option.getD_none, Option.map_some, Option.bind_some, List.getElem?_cons_zero, List.getElem?_cons_succ, List.set_cons_zero, List.set_cons_succ, List.map_cons, List.map_nil, List.foldl_cons, List.foldl_nil, List.all_cons, List.all_nil, List.length_cons, List.length_nil, List.take_succ_cons, List.take_nil, List.drop_zero, List.cons_append, List.nil_append, List.toList_toArray, List.replicate_succ, List.replicate_zero, if_true, if_false, Bool.and_true, reduceCtorEq, and_self, Nat.zero_add, Nat.reduceAdd, Nat.reduceSub, Nat.reduceEqDiff, Nat.reduceLT, Nat.le_refl, eq_self, Option.isNone_none, one_int, Try.ntmps73, Try.results73]
  refine call_fn rfl rfl rfl (ok71 51 addF ok51 ea eb r c r2 c2 a b) ?_
  split <;> simp -implicitDefEqProofs only [wp_ret, seqK_normal, opsK_at, ops_nil, ops_cons, op_plain, step_assign, step_extract, step_store, opt_some, ev_tmp, putT_some, putT_none, pv_eq, lk, upd, tov, stepA, valA, storeA, cellsOf, ldA, ldT, tovs, PV.cells, PV.ok, PV.cell, Option.getD_some, Option.getD_none, Option.map_some, Option.bind_some, List.getElem?_cons_zero, List.getElem?_cons_succ, List.set_cons_zero, List.set_cons_succ, List.map_cons, List.map_nil, List.all_cons, List.all_nil, List.length_cons, List.length_nil, List.take_succ_cons, List.take_zero, List.take_nil, List.drop_succ_cons, List.drop_zero, List.drop_nil, List.nil_append, List.append_nil, if_true, if_false, Bool.and_true, reduceCtorEq, and_self, Nat.zero_add, Nat.reduceAdd, Nat.reduceEqDiff, Nat.reduceLT, Nat.le_refl, eq_self, one_int, one_slice, RetQ_ret, resAll, res1, packR]
theorem ok48 (ea eb : Bool) (r c r2 c2 : Int) (a b : List Fr) : Ok Try.prog 48 [matV ea r c (frs a), matV eb r2 c2 (frs b)]
    (if right r c a.length = true ∧ right r2 c2 b.length = true ∧ r = r2 ∧ c = c2 then .tup [matV false r c (frs (List.zipWith subF a b)), tru true] else .tup [matNil, tru false]) := by
  refine ok_fn mixed Try.func48 (code := ?_) (h := h48) ?_ k48 ?_
  rotate_left
  · exact rfl
  unfold h48 initS
  simp -implicitDefEqProofs only [wp_reg, wp_seq, seqK_normal, opsK_at, ops_nil, ops_cons, op_plain, step_call, step_assign, step_load, step_alloc, step_box, opt_some, ev_tmp, ev_const, putT_some, st_tm, lk, upd, tov, stepA, valA, cellsOf, ldA, ldT, tovs, newToks, St.newBox, St.newTok, St.mapTV, TV.killPtr, TV.killTok, zeroT, PV.cells, PV.ok, PV.cell, Option.getD_some, Option.getD_none, Option.map_some, Option.bind_some, List.getElem?_cons_zero, List.getElem?_cons_succ, List.set_cons_zero, List.set_cons_succ, List.map_cons, List.map_nil, List.foldl_cons, List.foldl_nil, List.all_cons, List.all_nil, List.length_cons, List.length_nil, List.take_succ_cons, List.take_nil, List.drop_zero, List.cons_append, List.nil_append, List.toList_toArray, List.replicate_succ, List.replicate_zero, if_true, if_false, Bool.and_true, reduceCtorEq, and_self, Nat.zero_add, Nat.reduceAdd, Nat.reduceSub, Nat.reduceEqDiff, Nat.reduceLT, Nat.le_refl, eq_self, Option.isNone_none, one_int, Try.ntmps48, Try.results48]
  refine call_fn rfl rfl rfl (ok71 72 subF ok72 ea eb r c r2 c2 a b) ?_
  split <;> simp -implicitDefEqProofs only [wp_ret, seqK_normal, opsK_at, ops_nil, ops_cons, op_plain, step_assign, step_extract, step_store, opt_some, ev_tmp, putT_some, putT_none, pv_eq, lk, upd, tov, stepA, valA, storeA, cellsOf, ldA, ldT, tovs, PV.cells, PV.ok, PV.cell, Option.getD_some, Option.getD_none, Option.map_some, Option.bind_some, List.getElem?_cons_zero, List.getElem?_cons_succ, List.set_cons_zero, List.set_cons_succ, List.map_cons, List.map_nil, List.all_cons, List.all_nil, List.length_cons, List.length_nil, List.take_succ_cons, List.take_zero, List.take_nil, List.drop_succ_cons, List.drop_zero, List.drop_nil, List.nil_append, List.append_nil, if_true, if_false, Bool.and_true, reduceCtorEq, and_self, Nat.zero_add, Nat.reduceAdd, Nat.reduceEqDiff, Nat.reduceLT, Nat.le_refl, eq_self, one_int, one_slice, RetQ_ret, resAll, res1, packR]

/-! ### Beside -/
def besP (r c c2 : Int) (a b : List Fr) (n : Nat) : List Fr := (List.range n).flatMap fun (i : Nat) => rowF r c a (i : Int) ++ rowF r c2 b (i : Int)
def besF (r c c2 : Int) (a b : List Fr) : List Fr := besP r c c2 a b r.toNat
theorem besP_succ (r c c2 : Int) (a b : List Fr) (n : Nat) : besP r c c2 a b (n + 1) = besP r c c2 a b n ++ rowF r c a (n : Int) ++ rowF r c2 b (n : Int) := by
  simp [besP, List.range_succ]
theorem rowF_len {r c : Int} {l : List Fr} (h : right r c l.length = true) {i : Nat} (hi : i < r.toNat) : (rowF r c l i).length = c.toNat := by
  rw [rowF_eq ⟨0, 0, false⟩ h hi]
  simp
theorem besP_length {r c c2 : Int} {a b : List Fr} (h : right r c a.length = true) (h2 : right r c2 b.length = true) : ∀ n, n ≤ r.toNat → (besP r c c2 a b n).length = n * (c.toNat + c2.toNat)
  | 0, _ => by simp [besP]
  | n + 1, hn => by
    rw [besP_succ, List.length_append, List.length_append, besP_length h h2 n (by omega), rowF_len h (by omega), rowF_len h2 (by omega), Nat.add_mul]
    omega
theorem right_bes {r c c2 : Int} {a b : List Fr} (h : right r c a.length = true) (h2 : right r c2 b.length = true) : right r (c + c2) (besF r c c2 a b).length = decide (c + c2 ≤ 16) := by
  obtain ⟨r1, r2, c1, c3, hn⟩ := right_spec h
  obtain ⟨_, _, d1, d2, hn2⟩ := right_spec h2
  have hl := besP_length h h2 r.toNat (Nat.le_refl _)
  have e1 : ((r.toNat * (c.toNat + c2.toNat) : Nat) : Int) = r * (c + c2) := by
    rw [Int.natCast_mul, Int.natCast_add, Int.toNat_of_nonneg (by omega), Int.toNat_of_nonneg (by omega), Int.toNat_of_nonneg (by omega)]
  have e2 : (((besF r c c2 a b).length : Int) == r * (c + c2)) = true := by
    rw [besF, hl, e1]
    simp
  have e3 : decide (1 ≤ r ∧ r ≤ 16) = true := by simp; omega
  simp only [right, e2, e3, Bool.true_and, Bool.and_true]
  congr 1
  simp only [eq_iff_iff]
  omega

/-! ### Mirrored -/
def mirF (r : Int) (l : List Fr) : List Fr := gridP (fun i k => atF r r l (max i k : Nat) (min i k : Nat)) r.toNat r.toNat 0
theorem ok30 (ex : Bool) (r c : Int) (l : List Fr) : Ok Try.prog 30 [matV ex r c (frs l)] (if right r c l.length = true ∧ r = c then .tup [matV false r c (frs (mirF r l)), tru true] else .tup [matNil, tru false]) := by
  refine ok_fn mixed Try.func30 (code := ?_) (h := h30) ?_ k30 ?_
  rotate_left
  · exact rfl
  unfold h30 initS
  simp -implicitDefEqProofs only [wp_reg, wp_seq, seqK_normal, opsK_at, ops_nil, ops_cons, op_plain, step_call, step_assign, step_load, step_alloc, step_box, opt_some, ev_tmp, ev_const, putT_some, st_tm, lk, upd, tov, stepA, valA, cellsOf, ldA, ldT, tovs, newToks, St.newBox, St.newTok, St.mapTV, TV.killPtr, TV.killTok, zeroT, PV.cells, PV.ok, PV.cell, Option.getD_some, Option.getD_none, Option.map_some, Option.bind_some, List.getElem?_cons_zero, List.getElem?_cons_succ, List.set_cons_zero, List.set_cons_succ, List.map_cons, List.map_nil, List.foldl_cons, List.foldl_nil, List.all_cons, List.all_nil, List.length_cons, List.length_nil, List.take_succ_cons, List.take_nil, List.drop_zero, List.cons_append, List.nil_append, List.toList_toArray, List.replicate_succ, List.replicate_zero, if_true, if_false, Bool.and_true, reduceCtorEq, and_self, Nat.zero_add, Nat.reduceAdd, Nat.reduceSub, Nat.reduceEqDiff, Nat.reduceLT, Nat.le_refl, eq_self, Option.isNone_none, one_int, Try.ntmps30, Try.results30]
  refine call_fn rfl rfl rfl (ok54 ex r c (frs l)) ?_
  have e : (frs l).length = l.length := by simp
  rw [e]
  cases hr : right r c l.length with
  | false => simp -implicitDefEqProofs only [wp_reg, wp_seq, wp_cond, wp_ret, wpK_at, junkK_at, seqK_normal, seqK_ret, opsK_at, ops_nil, ops_cons, op_plain, op_guardn, slotAt_zero, slotAt_succ, step_move, step_assign, step_pick, step_unOp, step_build, step_store, opt_some, gB_true, ev_tmp, ev_const, putT_some, putT_none, pv_eq, lk, upd, tov, stepA, valA, storeA, cellsOf, ldA, ldT, unA, bl, pvs, tovs, PV.cells, PV.ok, PV.cell, fillA, Option.getD_some, Option.getD_none, Option.map_some, Option.bind_some, List.getElem?_cons_zero, List.getElem?_cons_succ, List.set_cons_zero, List.set_cons_succ, List.map_cons, List.map_nil, List.all_cons, List.all_nil, List.length_cons, List.length_nil, List.take_succ_cons, List.take_zero, List.take_nil, List.drop_succ_cons, List.drop_zero, List.drop_nil, List.nil_append, List.append_nil, List.zip_nil_left, if_true, if_false, Bool.not_false, Bool.and_true, reduceCtorEq, false_and, and_self, Nat.zero_add, Nat.reduceAdd, Nat.reduceEqDiff, Nat.reduceLT, Nat.le_refl, Bool.false_eq_true, eq_self, one_int, one_slice, RetQ_ret, resAll, res1, packR]
  | true =>
    obtain ⟨r1, r2, c1, c2, hn⟩ := right_spec hr
    simp -implicitDefEqProofs only [wp_cond, execK_at, seqK_normal, opsK_at, ops_nil, ops_cons, op_plain, op_guardn, slotAt_zero, slotAt_succ, step_move, step_pick, step_load, step_fieldAddr, step_binOp, step_unOp, opt_some, gB_false, ev_tmp, ev_const, putT_some, pv_eq, lk, tov, valA, ldA, ldT, fieldAddrA, unA, bl, binA, num2, binV, tovs, Option.getD_some, Option.getD_none, Option.map_some, Option.bind_some, List.getElem?_cons_zero, List.getElem?_cons_succ, List.set_cons_zero, List.set_cons_succ, List.length_cons, List.length_nil, List.take_succ_cons, List.take_zero, List.drop_succ_cons, List.drop_zero, if_true, if_false, Bool.not_true, reduceCtorEq, true_and, Nat.zero_add, Nat.reduceAdd, Nat.reduceEqDiff, Nat.reduceLeDiff, Nat.reduceBEq, Bool.false_eq_true, eq_self]
    by_cases h1 : r = c
    · subst h1
      simp -implicitDefEqProofs only [bne_self_eq_false, wp_skip, wp_reg, wp_seq, wp_block, wpK_at, seqK_normal, opsK_at, ops_nil, ops_cons, op_plain, step_move, step_load, step_fieldAddr, step_build, step_alloc, step_store, opt_some, gB_false, ev_tmp, ev_const, putT_some, putT_none, pv_eq, st_tm, lk, upd, tov, stepA, valA, storeA, cellsOf, ldA, ldT, fieldAddrA, pvs, tovs, newToks, St.newBox, St.newTok, St.mapTV, TV.killPtr, TV.killTok, zeroT, PV.cells, PV.ok, PV.cell, fillA, setR, Option.getD_some, Option.getD_none, Option.map_some, Option.bind_some, List.getElem?_cons_zero, List.getElem?_cons_succ, List.set_cons_zero, List.set_cons_succ, List.map_cons, List.map_nil, List.foldl_cons, List.foldl_nil, List.all_cons, List.all_nil, List.length_cons, List.length_nil, List.take_succ_cons, List.take_zero, List.drop_succ_cons, List.drop_zero, List.drop_nil, List.nil_append, List.append_nil, List.zip_cons_cons, List.zip_nil_left, if_true, if_false, Bool.and_true, reduceCtorEq, and_self, Nat.zero_add, Nat.reduceAdd, Nat.reduceEqDiff, Nat.reduceLeDiff, Nat.reduceLT, Nat.le_refl, Bool.false_eq_true, eq_self, Option.isNone_none, one_int, one_slice]
      have hlen := gridP_length (fun i k => atF r r l (max i k : Nat) (min i k : Nat)) r.toNat
      refine wp_loop (fun m s => ∃ i : Nat, i + m = r.toNat ∧ s = ⟨[jk, .ptr 1 0, .ptr 2 0, jk, .ptr 4 0, jk, jk, jk, jk, jk, jk, jk, jk, jk, jk, jk, jk, jk, jk, jk, jk, jk, jk, jk, nt r, nt i, jk, jk, jk, jk, jk, jk, jk, jk, jk, jk, jk, jk, jk, jk, jk, jk, jk, jk, jk, jk, jk, jk, jk], [(1, [nt r, nt r, .v (.sl ex (frs l))]), (2, [nt 0, nt 0, .acc 3002 []]), (4, [nt r, nt r, .acc 15004 (frs (gridP (fun i k => atF r r l (max i k : Nat) (min i k : Nat)) r.toNat i 0))])], [],
        [(3002, 0), (3004, 0), (15004, (gridP (fun i k => atF r r l (max i k : Nat) (min i k : Nat)) r.toNat i 0).length)], [], 0⟩) r.toNat ?_ ?_
      · simp -implicitDefEqProofs only [opt_some, st_tm, lk, upd, St.newTok, St.mapTV, TV.killTok, ghs, gh1, junkAll, Option.bind_some, List.getElem?_cons_zero, List.getElem?_cons_succ, List.set_cons_zero, List.set_cons_succ, List.map_cons, List.map_nil, if_true, if_false, Nat.reduceEqDiff, Nat.reduceLT, eq_self]
        exact ⟨0, by simp, rfl⟩
      rintro m s ⟨i, hi, rfl⟩
      simp -implicitDefEqProofs only [wp_reg0, wp_seq, wp_cond, seqK_normal, opsK_at, ops_nil, ops_cons, op_plain, step_binOp, opt_some, ev_tmp, putT_some, lk, valA, binA, num2, binV, Option.getD_none, Option.map_some, List.getElem?_cons_zero, List.getElem?_cons_succ, List.set_cons_zero, List.set_cons_succ, if_true, Nat.zero_add, Nat.reduceBEq, eq_self]
      refine gB_dec ?_ ?_ <;> intro hc <;> simp -implicitDefEqProofs only [hc, wp_skip, wp_reg0, wp_reg, wp_seq, wp_block, wp_exit, wp_ret, wpK_at, seqK_normal, seqK_exit, blockK_exit, loopK_exit, opsK_at, ops_nil, ops_cons, op_plain, step_move, step_assign, step_load, step_fieldAddr, step_store, opt_some, ev_tmp, ev_const, putT_some, putT_none, lk, upd, tov, stepA, valA, storeA, cellsOf, ldA, ldT, fieldAddrA, tovs, PV.cells, PV.ok, PV.cell, Option.getD_some, Option.getD_none, Option.map_some, Option.bind_some, List.getElem?_cons_zero, List.getElem?_cons_succ, List.set_cons_zero, List.set_cons_succ, List.map_cons, List.map_nil, List.all_cons, List.all_nil, List.length_cons, List.length_nil, List.take_succ_cons, List.take_zero, List.take_nil, List.drop_succ_cons, List.drop_zero, List.drop_nil, List.nil_append, List.append_nil, if_true, if_false, Bool.and_true, reduceCtorEq, and_self, Nat.zero_add, Nat.reduceAdd, Nat.reduceEqDiff, Nat.reduceLeDiff, Nat.reduceLT, Nat.le_refl, Bool.false_eq_true, decide_true, decide_false, eq_self, one_int, RetQ_ret, resAll, res1, packR, Option.some.injEq]
      · refine wp_loop (fun m s => ∃ k : Nat, k + m = r.toNat ∧ s = ⟨[jk, .ptr 1 0, .ptr 2 0, jk, .ptr 4 0, nt i, jk, jk, jk, jk, jk, jk, jk, jk, jk, jk, jk, jk, jk, jk, jk, jk, jk, jk, nt r, nt i, jk, jk, jk, nt r, nt k, jk, jk, jk, jk, jk, jk, jk, jk, jk, jk, jk, jk, jk, jk, jk, jk, jk, jk], [(1, [nt r, nt r, .v (.sl ex (frs l))]), (2, [nt 0, nt 0, .acc 3002 []]), (4, [nt r, nt r, .acc 15004 (frs (gridP (fun i k => atF r r l (max i k : Nat) (min i k : Nat)) r.toNat i k))])], [],
          [(3002, 0), (3004, 0), (15004, (gridP (fun i k => atF r r l (max i k : Nat) (min i k : Nat)) r.toNat i k).length)], [], 0⟩) r.toNat ?_ ?_
        · simp -implicitDefEqProofs only [opt_some, st_tm, lk, St.newTok, St.mapTV, TV.killTok, ghs, gh1, junkAll, Option.bind_some, List.getElem?_cons_zero, List.getElem?_cons_succ, List.set_cons_zero, List.set_cons_succ, List.map_cons, List.map_nil, if_true, if_false, Nat.reduceEqDiff, eq_self]
          exact ⟨0, by simp, rfl⟩
        rintro m' s ⟨k, hk, rfl⟩
        simp -implicitDefEqProofs only [wp_reg0, wp_seq, wp_cond, seqK_normal, opsK_at, ops_nil, ops_cons, op_plain, step_binOp, opt_some, ev_tmp, putT_some, lk, valA, binA, num2, binV, Option.getD_none, Option.map_some, List.getElem?_cons_zero, List.getElem?_cons_succ, List.set_cons_zero, List.set_cons_succ, if_true, Nat.zero_add, Nat.reduceBEq, eq_self]
        refine gB_dec ?_ ?_ <;> intro hc2 <;> simp -implicitDefEqProofs only [hc2, wp_skip, wp_reg0, wp_reg, wp_draw, wp_seq, wp_block, wp_exit, wp_ret, wpK_at, seqK_normal, seqK_exit, blockK_normal, blockK_exit, loopK_exit, opsK_at, ops_nil, ops_cons, op_plain, step_call, step_builtin, step_move, step_assign, step_load, step_fieldAddr, step_binOp, step_store, opt_some, ev_tmp, ev_const, putT_some, putT_none, pv_eq, lk, upd, tov, stepA, valA, storeA, cellsOf, ldA, ldT, fieldAddrA, binA, num2, binV, pvs, tovs, PV.cells, PV.ok, PV.cell, Option.getD_some, Option.getD_none, Option.map_some, Option.bind_some, List.getElem?_cons_zero, List.getElem?_cons_succ, List.set_cons_zero, List.set_cons_succ, List.map_cons, List.map_nil, List.foldl_cons, List.foldl_nil, List.all_cons, List.all_nil, List.length_cons, List.length_nil, List.take_succ_cons, List.take_zero, List.take_nil, List.drop_succ_cons, List.drop_zero, List.drop_nil, List.nil_append, List.append_nil, if_true, if_false, Bool.and_true, reduceCtorEq, and_self, Nat.zero_add, Nat.reduceAdd, Nat.reduceEqDiff, Nat.reduceLT, Nat.le_refl, Nat.reduceBEq, Bool.false_eq_true, decide_true, decide_false, eq_self, extremeA, ints, one_int, RetQ_ret, resAll, res1, packR, Option.some.injEq]
        · have hb : i * r.toNat + k ≤ 256 := by
            have : (i + 1) * r.toNat ≤ 16 * 16 := Nat.mul_le_mul (by omega) (by omega)
            rw [Nat.add_mul] at this
            omega
          have m1 : (if (i : Int) < (k : Int) then (k : Int) else (i : Int)) = ((max i k : Nat) : Int) := by split <;> omega
          have m2 : (if (k : Int) < (i : Int) then (k : Int) else (i : Int)) = ((min i k : Nat) : Int) := by split <;> omega
          simp only [m1, m2]
          refine call_fn rfl rfl rfl (ok21 ex r r (max i k : Nat) (min i k : Nat) l) ?_
          have hl1 := hlen i k
          have hfit : fits 3 24 (frs (gridP (fun i k => atF r r l (max i k : Nat) (min i k : Nat)) r.toNat i k)) [frV (atF r r l (max i k : Nat) (min i k : Nat))] = true := fits_frs (l := [atF r r l (max i k : Nat) (min i k : Nat)]) (by simp only [List.length_cons, List.length_nil]; omega)
          have hl : (frs (gridP (fun i k => atF r r l (max i k : Nat) (min i k : Nat)) r.toNat i k)).length = (gridP (fun i k => atF r r l (max i k : Nat) (min i k : Nat)) r.toNat i k).length := by simp
          have hw := wrapped (x := (k : Int) + 1) (by omega) (by omega)
          simp -implicitDefEqProofs only [hfit, hl, hw, wp_reg0, seqK_normal, blockK_normal, opsK_at, ops_nil, ops_cons, op_plain, step_builtin, step_move, step_fieldAddr, step_binOp, step_store, step_buildSlice, opt_some, ev_tmp, ev_const, putT_some, putT_none, pv_eq, lk, upd, tov, stepA, valA, storeA, cellsOf, fieldAddrA, binA, num2, binV, pvs, rowOf, tkOf, PV.cells, PV.ok, PV.cell, appA, Option.getD_some, Option.getD_none, Option.map_some, Option.bind_some, List.getElem?_cons_zero, List.getElem?_cons_succ, List.set_cons_zero, List.set_cons_succ, List.map_cons, List.map_nil, List.all_cons, List.all_nil, List.length_cons, List.length_nil, List.take_succ_cons, List.take_zero, List.drop_succ_cons, List.drop_nil, List.cons_append, List.nil_append, List.append_nil, if_true, if_false, Bool.and_true, reduceCtorEq, and_self, Nat.zero_add, Nat.reduceAdd, Nat.reduceEqDiff, Nat.reduceLT, Nat.le_refl, Nat.reduceBEq, eq_self, range1, one_int, one_bool]
          refine loopK_of (m' := m' - 1) (by omega) ?_
          simp -implicitDefEqProofs only [opt_some, st_tm, lk, St.newTok, St.mapTV, TV.killTok, ghs, gh1, junkAll, Option.bind_some, List.getElem?_cons_zero, List.getElem?_cons_succ, List.set_cons_zero, List.set_cons_succ, List.map_cons, List.map_nil, if_true, if_false, Nat.reduceEqDiff, eq_self]
          refine ⟨k + 1, by omega, ?_⟩
          rw [gridP_succ]
          simp only [frs, List.map_append, List.map_cons, List.map_nil, List.length_append, List.length_cons, List.length_nil, Int.natCast_add, Int.natCast_one]
        · have hkr : k = r.toNat := by omega
          have hw := wrapped (x := (i : Int) + 1) (by omega) (by omega)
          simp -implicitDefEqProofs only [hw]
          refine loopK_of (m' := m - 1) (by omega) ?_
          simp -implicitDefEqProofs only [opt_some, st_tm, lk, St.newTok, St.mapTV, TV.killTok, ghs, gh1, junkAll, Option.bind_some, List.getElem?_cons_zero, List.getElem?_cons_succ, List.set_cons_zero, List.set_cons_succ, List.map_cons, List.map_nil, if_true, if_false, Nat.reduceEqDiff, eq_self]
          refine ⟨i + 1, by omega, ?_⟩
          rw [hkr, gridP_next]
          simp only [Int.natCast_add, Int.natCast_one]
      · have : i = r.toNat := by omega
        subst this
        simp only [mirF]
    · have hne : (r != c) = true := by simp [h1]
      simp -implicitDefEqProofs only [hne, h1, wp_reg, wp_seq, wp_ret, wpK_at, seqK_normal, seqK_ret, opsK_at, ops_nil, ops_cons, op_plain, step_assign, step_build, step_store, opt_some, gB_true, ev_tmp, ev_const, putT_some, putT_none, lk, upd, tov, stepA, valA, storeA, cellsOf, ldA, ldT, pvs, tovs, PV.cells, PV.ok, PV.cell, fillA, Option.getD_some, Option.getD_none, Option.map_some, Option.bind_some, List.getElem?_cons_zero, List.getElem?_cons_succ, List.set_cons_zero, List.set_cons_succ, List.map_cons, List.map_nil, List.all_cons, List.all_nil, List.length_cons, List.length_nil, List.take_succ_cons, List.take_zero, List.take_nil, List.drop_succ_cons, List.drop_zero, List.drop_nil, List.nil_append, List.append_nil, List.zip_nil_left, if_true, if_false, Bool.and_true, reduceCtorEq, and_self, Nat.zero_add, Nat.reduceAdd, Nat.reduceEqDiff, Nat.reduceLT, Nat.le_refl, eq_self, one_int, one_slice, RetQ_ret, resAll, res1, packR]

/-! ### Alike -/
theorem ok27 (ea eb : Bool) (r c : Int) (l : List Fr) (h : l.length ≤ 5864062014805) : Ok Try.prog 27 [matV ea r c (frs l), matV eb r c (frs l)] (tru true) := by
  refine ok_fn mixed Try.func27 (code := ?_) (h := h27) ?_ k27 ?_
  rotate_left
  · exact rfl
  unfold h27 initS
  simp -implicitDefEqProofs only [wp_reg, wp_seq, seqK_normal, opsK_at, ops_nil, ops_cons, op_plain, op_guardn, slotAt_zero, slotAt_succ, step_move, step_assign, step_load, step_fieldAddr, step_binOp, step_box, opt_some, ev_tmp, ev_const, putT_some, st_tm, lk, upd, tov, stepA, valA, cellsOf, ldA, ldT, fieldAddrA, binA, num2, binV, tovs, St.newBox, St.mapTV, TV.killPtr, PV.cells, PV.ok, PV.cell, Option.getD_some, Option.getD_none, Option.map_some, Option.bind_some, List.getElem?_cons_zero, List.getElem?_cons_succ, List.set_cons_zero, List.set_cons_succ, List.map_cons, List.map_nil, List.all_cons, List.all_nil, List.length_cons, List.length_nil, List.take_succ_cons, List.take_zero, List.drop_zero, List.cons_append, List.nil_append, List.toList_toArray, List.replicate_succ, List.replicate_zero, if_true, if_false, Bool.and_true, reduceCtorEq, and_self, Nat.zero_add, Nat.reduceAdd, Nat.reduceSub, Nat.reduceEqDiff, Nat.reduceLeDiff, Nat.reduceLT, Nat.reduceBEq, Bool.false_eq_true, eq_self, Option.isNone_none, one_int, Try.ntmps27, Try.results27]
  simp -implicitDefEqProofs only [bne_self_eq_false, wp_skip, wp_reg, wp_seq, wp_cond, wp_block, wpK_at, execK_at, seqK_normal, opsK_at, ops_nil, ops_cons, op_plain, op_guardn, slotAt_zero, slotAt_succ, step_builtin, step_move, step_pick, step_load, step_fieldAddr, step_binOp, opt_some, gB_false, ev_tmp, ev_const, putT_some, pv_eq, lk, tov, stepA, valA, ldA, ldT, fieldAddrA, lenA, binA, num2, binV, tovs, Option.getD_some, Option.getD_none, Option.map_some, Option.bind_some, List.getElem?_cons_zero, List.getElem?_cons_succ, List.set_cons_zero, List.set_cons_succ, List.length_cons, List.length_nil, List.take_succ_cons, List.take_zero, List.take_nil, List.drop_succ_cons, List.drop_zero, if_true, if_false, reduceCtorEq, Nat.zero_add, Nat.reduceAdd, Nat.reduceEqDiff, Nat.reduceLeDiff, Nat.le_refl, Nat.reduceBEq, Bool.false_eq_true, eq_self]
  refine wp_loop (fun m s => ∃ i : Nat, i + m = l.length ∧ s = ⟨[jk, jk, .ptr 2 0, .ptr 3 0, jk, jk, jk, jk, jk, jk, jk, jk, jk, jk, jk, jk, jk, jk, jk, jk, jk, jk, jk, jk, jk, jk, jk, jk, jk, nt (frs l).length, nt i, jk, jk, jk, jk, jk, jk, jk, jk, jk, jk, jk, jk, jk, jk], [(2, [nt r, nt c, .v (.sl ea (frs l))]), (3, [nt r, nt c, .v (.sl eb (frs l))])], [], [], [], 0⟩) l.length ?_ ?_
  · simp -implicitDefEqProofs only [opt_some, ghs, gh1, junkAll, Option.bind_some, List.set_cons_zero, List.set_cons_succ]
    exact ⟨0, by simp, rfl⟩
  rintro m s ⟨i, hi, rfl⟩
  simp -implicitDefEqProofs only [wp_reg0, wp_seq, wp_cond, seqK_normal, opsK_at, ops_nil, ops_cons, op_plain, step_binOp, opt_some, ev_tmp, putT_some, lk, valA, binA, num2, binV, Option.getD_none, Option.map_some, List.getElem?_cons_zero, List.getElem?_cons_succ, List.set_cons_zero, List.set_cons_succ, if_true, Nat.zero_add, Nat.reduceBEq, eq_self]
  refine gB_dec ?_ ?_ <;> intro hc <;> simp -implicitDefEqProofs only [hc, wp_skip, wp_reg0, wp_draw, wp_seq, wp_block, wp_exit, wp_ret, wpK_at, seqK_normal, seqK_exit, blockK_exit, loopK_exit, opsK_at, ops_nil, ops_cons, op_plain, step_move, step_assign, step_load, step_fieldAddr, step_indexAddr, opt_some, ev_tmp, ev_const, putT_some, pv_eq, lk, tov, stepA, valA, ldA, ldT, fieldAddrA, idxAddrA, idxA, tovs, PV.cells, Option.getD_some, Option.getD_none, Option.map_some, Option.bind_some, List.getElem?_cons_zero, List.getElem?_cons_succ, List.set_cons_zero, List.set_cons_succ, List.length_cons, List.length_nil, List.take_succ_cons, List.take_nil, List.drop_succ_cons, List.drop_zero, if_true, if_false, reduceCtorEq, Nat.zero_add, Nat.reduceAdd, Nat.reduceEqDiff, Nat.le_refl, Bool.false_eq_true, decide_true, decide_false, eq_self, RetQ_ret, resAll, res1, packR]
  · have hlt : i < l.length := by simpa using hc
    have h0 : (0 : Int) ≤ (i : Int) := by omega
    have hg : (frs l)[i]? = some (frV l[i]) := by simp [hlt]
    have hw := wrapped (x := (i : Int) + 1) (by omega) (by omega)
    simp -implicitDefEqProofs only [h0, Int.toNat_natCast, hg, eq_fr, hw, wp_skip, wp_reg0, wp_cond, wpK_at, seqK_normal, blockK_normal, opsK_at, ops_nil, ops_cons, op_plain, step_move, step_load, step_fieldAddr, step_indexAddr, step_binOp, opt_some, gB_false, ev_tmp, ev_const, putT_some, pv_eq, lk, tov, valA, ldA, ldC, ldT, fieldAddrA, idxAddrA, idxA, bl, binA, num2, binV, eqA, tovs, PV.cells, Option.getD_some, Option.getD_none, Option.map_some, Option.bind_some, List.getElem?_cons_zero, List.getElem?_cons_succ, List.set_cons_zero, List.set_cons_succ, List.length_cons, List.length_nil, List.take_succ_cons, List.take_nil, List.drop_succ_cons, List.drop_zero, if_true, if_false, Bool.not_true, reduceCtorEq, Nat.zero_add, Nat.reduceAdd, Nat.reduceEqDiff, Nat.le_refl, Nat.reduceBEq, Bool.false_eq_true, decide_true, eq_self]
    refine loopK_of (m' := m - 1) (by omega) ?_
    simp -implicitDefEqProofs only [opt_some, ghs, gh1, junkAll, Option.bind_some, List.set_cons_zero, List.set_cons_succ]
    exact ⟨i + 1, by omega, by simp only [Int.natCast_add, Int.natCast_one]⟩
end Go.Proofs.Ytadfcbpakfaaaaa.A
