import Derived.Test.YtfikikfbdgpdcaaT10
set_option linter.unusedVariables false
set_option linter.unusedSimpArgs false
set_option maxRecDepth 100000
namespace Go.Proofs.Ytfikikfbdgpdcaa.A
open Go Go.RowKit Go.Shelf

theorem fewB_spec {a : List Int} (h : fewB a = true) : a.length ≤ 256 ∧ small a :=
  (of_decide_eq_true h : a.length ≤ 256 ∧ ∀ x ∈ a, -100 ≤ x ∧ x ≤ 100)
theorem Cs.keep {I : Imm} {x : PV} {xs ys : List PV} {vs : List Value} (h : Cs I (x :: xs) vs) (k : ∀ us, Cs I xs us → Cs I ys us) : Cs I (x :: ys) vs := by
  cases h with | cons h1 h2 => exact .cons h1 (k _ h2)
theorem Cs.mat_nil {I : Imm} {xs ys : List PV} {vs : List Value} (h : Cs I (matNil :: xs) vs) (k : ∀ us, Cs I xs us → Cs I ys us) : Cs I (matV false 0 0 (frs []) :: ys) vs := by
  have key : ∀ us, Cs I [num 0, num 0, .s (.slice none 0 0)] us → Cs I [num 0, num 0, .sl false []] us := fun us h => Cs.keep h fun us h => Cs.keep h fun us h => Cs.nil_of h fun us h => h
  cases h with | cons h1 h2 => cases h1 with | agg hl => exact .cons (.agg (key _ hl)) (k _ h2)

theorem ok14_nil : Ok Try.prog 14 [matNil, num 0, num 0, .s (.slice none 0 0)] (tru true) :=
  (ok14 false false 0 0 [] [] (by simp) rfl).args fun I vs h => Cs.mat_nil h fun us h => Cs.keep h fun us h => Cs.keep h fun us h => Cs.nil_of h fun us h => h
theorem ok13_nil1 {eb : Bool} {m2 c : Int} {b : List Fr} : Ok Try.prog 13 [matNil, matV eb m2 c (frs b)] (.tup [matNil, tru false]) := by
  have := (ok13 false eb 0 0 m2 c [] b).args fun I vs h => Cs.mat_nil h fun us h => h
  rw [if_neg (by simp [right])] at this
  exact this
theorem ok13_nil2 {ea : Bool} {r m : Int} {a : List Fr} : Ok Try.prog 13 [matV ea r m (frs a), matNil] (.tup [matNil, tru false]) := by
  have := (ok13 ea false r m 0 0 a []).args fun I vs h => Cs.keep h fun us h => Cs.mat_nil h fun us h => h
  rw [if_neg (by simp [right])] at this
  exact this
theorem ok13_nil : Ok Try.prog 13 [matNil, matNil] (.tup [matNil, tru false]) :=
  (ok13_nil1 (eb := false) (m2 := 0) (c := 0) (b := [])).args fun I vs h => Cs.keep h fun us h => Cs.mat_nil h fun us h => h

theorem ok3 (ea eb : Bool) (a b : List Int) (r m c : Int) : Ok Try.prog 3 [.sl ea (a.map num), .sl eb (b.map num), num r, num m, num c] (tru true) := by
  refine ok_fn mixed Try.func3 (code := ?_) (h := h3) ?_ k3 ?_
  rotate_left
  · exact rfl
  unfold h3 initS
  simp -implicitDefEqProofs only [wp_reg0, wp_seq, seqK_normal, opsK_at, ops_nil, ops_cons, op_plain, step_call, step_move, step_assign, opt_some, ev_tmp, ev_const, putT_some, lk, stepA, valA, Option.getD_none, Option.map_some, List.getElem?_cons_zero, List.set_cons_zero, List.set_cons_succ, List.map_cons, List.map_nil, List.length_cons, List.length_nil, List.cons_append, List.nil_append, List.toList_toArray, List.replicate_succ, List.replicate_zero, Nat.zero_add, Nat.reduceAdd, Nat.reduceSub, Try.ntmps3, Try.results3]
  refine call_fn rfl rfl rfl (ok10 ea a) ?_
  cases ha : fewB a with
  | false =>
    simp -implicitDefEqProofs only [wp_reg0, wp_seq, wp_cond, wpK_at, junkK_at, seqK_normal, opsK_at, ops_nil, ops_cons, op_plain, op_guardn, slotAt_zero, slotAt_succ, step_call, step_move, step_pick, step_unOp, opt_some, gB_true, ev_tmp, ev_const, putT_some, pv_eq, lk, tov, valA, unA, bl, Option.getD_none, Option.map_some, Option.bind_some, List.getElem?_cons_zero, List.getElem?_cons_succ, List.set_cons_zero, List.set_cons_succ, if_true, Bool.not_false, Nat.zero_add, Nat.reduceAdd, eq_self]
    refine call_fn rfl rfl rfl (ok11) ?_
    simp -implicitDefEqProofs only [wp_ret, seqK_normal, seqK_ret, opsK_at, ops_nil, ops_cons, op_plain, step_assign, opt_some, ev_tmp, putT_some, lk, tov, stepA, valA, Option.getD_none, Option.map_some, Option.bind_some, List.getElem?_cons_zero, List.getElem?_cons_succ, List.set_cons_zero, List.set_cons_succ, Nat.reduceAdd, eq_self, RetQ_ret, resAll, res1, packR]
  | true =>
    simp -implicitDefEqProofs only [execK_at, opsK_at, ops_cons, op_plain, op_guardn, slotAt_zero, slotAt_succ, step_call, step_move, step_unOp, opt_some, gB_false, ev_tmp, putT_some, pv_eq, lk, tov, unA, bl, Option.getD_none, Option.map_some, Option.bind_some, List.getElem?_cons_zero, List.getElem?_cons_succ, List.set_cons_zero, List.set_cons_succ, Bool.not_true, Nat.zero_add, Nat.reduceAdd]
    refine call_fn rfl rfl rfl (ok10 eb b) ?_
    cases hb : fewB b with
    | false =>
      simp -implicitDefEqProofs only [wp_reg0, wp_seq, wp_cond, wpK_at, execK_at, seqK_normal, opsK_at, ops_nil, ops_cons, op_plain, op_guardn, slotAt_zero, slotAt_succ, step_call, step_pick, step_unOp, opt_some, gB_true, gB_false, ev_tmp, ev_const, putT_some, pv_eq, lk, tov, valA, unA, bl, Option.getD_none, Option.map_some, Option.bind_some, List.getElem?_cons_zero, List.getElem?_cons_succ, List.set_cons_zero, List.set_cons_succ, if_false, Bool.not_false, Nat.zero_add, Nat.reduceAdd, Bool.false_eq_true]
      refine call_fn rfl rfl rfl (ok11) ?_
      simp -implicitDefEqProofs only [wp_ret, seqK_normal, seqK_ret, opsK_at, ops_nil, ops_cons, op_plain, step_assign, opt_some, ev_tmp, putT_some, lk, tov, stepA, valA, Option.getD_none, Option.map_some, Option.bind_some, List.getElem?_cons_zero, List.getElem?_cons_succ, List.set_cons_zero, List.set_cons_succ, Nat.reduceAdd, eq_self, RetQ_ret, resAll, res1, packR]
    | true =>
      obtain ⟨la, sa⟩ := fewB_spec ha
      obtain ⟨lb, sb⟩ := fewB_spec hb
      simp -implicitDefEqProofs only [wp_skip, wp_reg, wp_seq, wp_cond, wpK_at, execK_at, seqK_normal, opsK_at, ops_nil, ops_cons, op_plain, op_guardn, slotAt_zero, slotAt_succ, step_call, step_move, step_pick, step_unOp, opt_some, gB_false, ev_tmp, ev_const, putT_some, pv_eq, lk, tov, valA, unA, bl, Option.getD_none, Option.map_some, Option.bind_some, List.getElem?_cons_zero, List.getElem?_cons_succ, List.set_cons_zero, List.set_cons_succ, if_false, Bool.not_true, reduceCtorEq, Nat.zero_add, Nat.reduceAdd, Nat.reduceEqDiff, Bool.false_eq_true]
      refine call_fn rfl rfl rfl (ok12 r m ea a (by omega)) ?_
      cases hx : right r m a.length with
      | false =>
        simp -implicitDefEqProofs only [wp_reg, wp_seq, seqK_normal, opsK_at, ops_nil, ops_cons, op_plain, step_call, step_move, step_assign, step_extract, step_alloc, step_store, opt_some, ev_tmp, putT_some, putT_none, pv_eq, st_tm, lk, upd, tov, stepA, valA, storeA, cellsOf, newToks, St.newBox, St.newTok, St.mapTV, TV.killPtr, TV.killTok, zeroT, PV.cells, PV.ok, PV.cell, Option.getD_some, Option.getD_none, Option.map_some, Option.bind_some, List.getElem?_cons_zero, List.getElem?_cons_succ, List.set_cons_zero, List.set_cons_succ, List.map_cons, List.map_nil, List.foldl_cons, List.foldl_nil, List.all_cons, List.all_nil, List.length_cons, List.length_nil, List.take_zero, List.drop_succ_cons, List.drop_nil, List.nil_append, List.append_nil, if_true, if_false, Bool.and_true, reduceCtorEq, and_self, Nat.zero_add, Nat.reduceAdd, Nat.reduceEqDiff, Nat.reduceLT, Nat.le_refl, Bool.false_eq_true, eq_self, Option.isNone_none, one_int, one_slice]
        refine call_fn rfl rfl rfl (ok12 m c eb b (by omega)) ?_
        cases hy : right m c b.length with
        | false =>
          simp -implicitDefEqProofs only [wp_reg, wp_seq, seqK_normal, opsK_at, ops_nil, ops_cons, op_plain, step_call, step_move, step_assign, step_load, step_extract, step_alloc, step_store, opt_some, ev_tmp, putT_some, putT_none, pv_eq, st_tm, lk, upd, tov, stepA, valA, storeA, cellsOf, ldA, ldT, tovs, newToks, St.newBox, St.newTok, St.mapTV, TV.killPtr, TV.killTok, zeroT, PV.cells, PV.ok, PV.cell, Option.getD_some, Option.getD_none, Option.map_some, Option.bind_some, List.getElem?_cons_zero, List.getElem?_cons_succ, List.set_cons_zero, List.set_cons_succ, List.map_cons, List.map_nil, List.foldl_cons, List.foldl_nil, List.all_cons, List.all_nil, List.length_cons, List.length_nil, List.take_succ_cons, List.take_zero, List.take_nil, List.drop_succ_cons, List.drop_zero, List.drop_nil, List.nil_append, List.append_nil, if_true, if_false, Bool.and_true, reduceCtorEq, and_self, Nat.zero_add, Nat.reduceAdd, Nat.reduceEqDiff, Nat.reduceLT, Nat.le_refl, Bool.false_eq_true, eq_self, Option.isNone_none, one_int, one_slice]
          refine call_fn rfl rfl rfl (ok13_nil) ?_
          simp -implicitDefEqProofs only [wp_reg0, wp_reg, wp_seq, wp_cond, wpK_at, execK_at, junkK_at, seqK_normal, opsK_at, ops_nil, ops_cons, op_plain, op_guard, op_guardn, slotAt_zero, slotAt_succ, step_call, step_move, step_assign, step_pick, step_load, step_unOp, step_extract, step_alloc, step_store, opt_some, gB_true, ev_tmp, ev_const, putT_some, putT_none, pv_eq, st_tm, lk, upd, tov, stepA, valA, storeA, cellsOf, ldA, ldT, unA, bl, tovs, newToks, St.newBox, St.newTok, St.mapTV, TV.killPtr, TV.killTok, zeroT, PV.cells, PV.ok, PV.cell, Option.getD_some, Option.getD_none, Option.map_some, Option.bind_some, List.getElem?_cons_zero, List.getElem?_cons_succ, List.set_cons_zero, List.set_cons_succ, List.map_cons, List.map_nil, List.foldl_cons, List.foldl_nil, List.all_cons, List.all_nil, List.length_cons, List.length_nil, List.take_succ_cons, List.take_zero, List.take_nil, List.drop_succ_cons, List.drop_zero, List.drop_nil, List.nil_append, List.append_nil, if_true, if_false, Bool.not_false, Bool.and_true, reduceCtorEq, and_self, Nat.zero_add, Nat.reduceAdd, Nat.reduceEqDiff, Nat.reduceLT, Nat.le_refl, eq_self, Option.isNone_none, one_int, one_slice]
          refine call_fn rfl rfl rfl (ok14_nil) ?_
          simp -implicitDefEqProofs only [execK_at, opsK_at, ops_cons, op_plain, op_guard, slotAt_zero, slotAt_succ, step_call, step_move, step_pick, opt_some, gB_true, ev_tmp, ev_const, putT_some, pv_eq, lk, tov, valA, Option.getD_none, Option.map_some, Option.bind_some, List.getElem?_cons_zero, List.getElem?_cons_succ, List.set_cons_zero, List.set_cons_succ, if_true, if_false, Nat.zero_add, Nat.reduceAdd, Nat.reduceEqDiff, eq_self]
          refine call_fn rfl rfl rfl (ok11) ?_
          simp -implicitDefEqProofs only [wp_ret, seqK_normal, seqK_ret, opsK_at, ops_nil, ops_cons, op_plain, step_assign, step_pick, opt_some, ev_tmp, ev_const, putT_some, pv_eq, lk, tov, stepA, valA, Option.getD_none, Option.map_some, Option.bind_some, List.getElem?_cons_zero, List.getElem?_cons_succ, List.set_cons_zero, List.set_cons_succ, if_true, if_false, Nat.reduceAdd, Nat.reduceEqDiff, eq_self, RetQ_ret, resAll, res1, packR]
        | true =>
          simp -implicitDefEqProofs only [wp_reg, wp_seq, seqK_normal, opsK_at, ops_nil, ops_cons, op_plain, step_call, step_move, step_assign, step_load, step_extract, step_alloc, step_store, opt_some, ev_tmp, putT_some, putT_none, pv_eq, st_tm, lk, upd, tov, stepA, valA, storeA, cellsOf, ldA, ldT, tovs, newToks, St.newBox, St.newTok, St.mapTV, TV.killPtr, TV.killTok, zeroT, PV.cells, PV.ok, PV.cell, Option.getD_some, Option.getD_none, Option.map_some, Option.bind_some, List.getElem?_cons_zero, List.getElem?_cons_succ, List.set_cons_zero, List.set_cons_succ, List.map_cons, List.map_nil, List.foldl_cons, List.foldl_nil, List.all_cons, List.all_nil, List.length_cons, List.length_nil, List.take_succ_cons, List.take_zero, List.take_nil, List.drop_succ_cons, List.drop_zero, List.drop_nil, List.nil_append, List.append_nil, if_true, if_false, Bool.and_true, reduceCtorEq, and_self, Nat.zero_add, Nat.reduceAdd, Nat.reduceEqDiff, Nat.reduceLT, Nat.le_refl, eq_self, Option.isNone_none, one_int]
          refine call_fn rfl rfl rfl (ok13_nil1 (b := b.map (newF · 1))) ?_
          simp -implicitDefEqProofs only [wp_reg0, wp_reg, wp_seq, wp_cond, wpK_at, execK_at, junkK_at, seqK_normal, opsK_at, ops_nil, ops_cons, op_plain, op_guard, op_guardn, slotAt_zero, slotAt_succ, step_call, step_move, step_assign, step_pick, step_load, step_unOp, step_extract, step_alloc, step_store, opt_some, gB_true, ev_tmp, ev_const, putT_some, putT_none, pv_eq, st_tm, lk, upd, tov, stepA, valA, storeA, cellsOf, ldA, ldT, unA, bl, tovs, newToks, St.newBox, St.newTok, St.mapTV, TV.killPtr, TV.killTok, zeroT, PV.cells, PV.ok, PV.cell, Option.getD_some, Option.getD_none, Option.map_some, Option.bind_some, List.getElem?_cons_zero, List.getElem?_cons_succ, List.set_cons_zero, List.set_cons_succ, List.map_cons, List.map_nil, List.foldl_cons, List.foldl_nil, List.all_cons, List.all_nil, List.length_cons, List.length_nil, List.take_succ_cons, List.take_zero, List.take_nil, List.drop_succ_cons, List.drop_zero, List.drop_nil, List.nil_append, List.append_nil, if_true, if_false, Bool.not_false, Bool.and_true, reduceCtorEq, and_self, Nat.zero_add, Nat.reduceAdd, Nat.reduceEqDiff, Nat.reduceLT, Nat.le_refl, eq_self, Option.isNone_none, one_int, one_slice]
          refine call_fn rfl rfl rfl (ok14_nil) ?_
          simp -implicitDefEqProofs only [execK_at, opsK_at, ops_cons, op_plain, op_guard, slotAt_zero, slotAt_succ, step_call, step_move, step_pick, opt_some, gB_true, ev_tmp, ev_const, putT_some, pv_eq, lk, tov, valA, Option.getD_none, Option.map_some, Option.bind_some, List.getElem?_cons_zero, List.getElem?_cons_succ, List.set_cons_zero, List.set_cons_succ, if_true, if_false, Nat.zero_add, Nat.reduceAdd, Nat.reduceEqDiff, eq_self]
          refine call_fn rfl rfl rfl (ok11) ?_
          simp -implicitDefEqProofs only [wp_ret, seqK_normal, seqK_ret, opsK_at, ops_nil, ops_cons, op_plain, step_assign, step_pick, opt_some, ev_tmp, ev_const, putT_some, pv_eq, lk, tov, stepA, valA, Option.getD_none, Option.map_some, Option.bind_some, List.getElem?_cons_zero, List.getElem?_cons_succ, List.set_cons_zero, List.set_cons_succ, if_true, if_false, Nat.reduceAdd, Nat.reduceEqDiff, eq_self, RetQ_ret, resAll, res1, packR]
      | true =>
        simp -implicitDefEqProofs only [wp_reg, wp_seq, seqK_normal, opsK_at, ops_nil, ops_cons, op_plain, step_call, step_move, step_assign, step_extract, step_alloc, step_store, opt_some, ev_tmp, putT_some, putT_none, pv_eq, st_tm, lk, upd, tov, stepA, valA, storeA, cellsOf, newToks, St.newBox, St.newTok, St.mapTV, TV.killPtr, TV.killTok, zeroT, PV.cells, PV.ok, PV.cell, Option.getD_some, Option.getD_none, Option.map_some, Option.bind_some, List.getElem?_cons_zero, List.getElem?_cons_succ, List.set_cons_zero, List.set_cons_succ, List.map_cons, List.map_nil, List.foldl_cons, List.foldl_nil, List.all_cons, List.all_nil, List.length_cons, List.length_nil, List.take_zero, List.drop_succ_cons, List.drop_nil, List.nil_append, List.append_nil, if_true, if_false, Bool.and_true, reduceCtorEq, and_self, Nat.zero_add, Nat.reduceAdd, Nat.reduceEqDiff, Nat.reduceLT, Nat.le_refl, eq_self, Option.isNone_none, one_int]
        refine call_fn rfl rfl rfl (ok12 m c eb b (by omega)) ?_
        cases hy : right m c b.length with
        | false =>
          simp -implicitDefEqProofs only [wp_reg, wp_seq, seqK_normal, opsK_at, ops_nil, ops_cons, op_plain, step_call, step_move, step_assign, step_load, step_extract, step_alloc, step_store, opt_some, ev_tmp, putT_some, putT_none, pv_eq, st_tm, lk, upd, tov, stepA, valA, storeA, cellsOf, ldA, ldT, tovs, newToks, St.newBox, St.newTok, St.mapTV, TV.killPtr, TV.killTok, zeroT, PV.cells, PV.ok, PV.cell, Option.getD_some, Option.getD_none, Option.map_some, Option.bind_some, List.getElem?_cons_zero, List.getElem?_cons_succ, List.set_cons_zero, List.set_cons_succ, List.map_cons, List.map_nil, List.foldl_cons, List.foldl_nil, List.all_cons, List.all_nil, List.length_cons, List.length_nil, List.take_succ_cons, List.take_zero, List.take_nil, List.drop_succ_cons, List.drop_zero, List.drop_nil, List.nil_append, List.append_nil, if_true, if_false, Bool.and_true, reduceCtorEq, and_self, Nat.zero_add, Nat.reduceAdd, Nat.reduceEqDiff, Nat.reduceLT, Nat.le_refl, Bool.false_eq_true, eq_self, Option.isNone_none, one_int, one_slice]
          refine call_fn rfl rfl rfl (ok13_nil2 (a := a.map (newF · 1))) ?_
          simp -implicitDefEqProofs only [wp_reg0, wp_reg, wp_seq, wp_cond, wpK_at, execK_at, seqK_normal, opsK_at, ops_nil, ops_cons, op_plain, op_guard, op_guardn, slotAt_zero, slotAt_succ, step_call, step_move, step_assign, step_pick, step_load, step_unOp, step_extract, step_alloc, step_store, opt_some, gB_true, gB_false, ev_tmp, ev_const, putT_some, putT_none, pv_eq, st_tm, lk, upd, tov, stepA, valA, storeA, cellsOf, ldA, ldT, unA, bl, tovs, newToks, St.newBox, St.newTok, St.mapTV, TV.killPtr, TV.killTok, zeroT, PV.cells, PV.ok, PV.cell, Option.getD_some, Option.getD_none, Option.map_some, Option.bind_some, List.getElem?_cons_zero, List.getElem?_cons_succ, List.set_cons_zero, List.set_cons_succ, List.map_cons, List.map_nil, List.foldl_cons, List.foldl_nil, List.all_cons, List.all_nil, List.length_cons, List.length_nil, List.take_succ_cons, List.take_zero, List.take_nil, List.drop_succ_cons, List.drop_zero, List.drop_nil, List.nil_append, List.append_nil, if_true, if_false, Bool.not_true, Bool.not_false, Bool.and_true, reduceCtorEq, and_self, Nat.zero_add, Nat.reduceAdd, Nat.reduceEqDiff, Nat.reduceLT, Nat.le_refl, Bool.false_eq_true, eq_self, Option.isNone_none, one_int, one_slice]
          refine call_fn rfl rfl rfl (ok14_nil) ?_
          simp -implicitDefEqProofs only [execK_at, opsK_at, ops_cons, op_plain, op_guard, slotAt_zero, slotAt_succ, step_call, step_move, step_pick, opt_some, gB_true, ev_tmp, ev_const, putT_some, pv_eq, lk, tov, valA, Option.getD_none, Option.map_some, Option.bind_some, List.getElem?_cons_zero, List.getElem?_cons_succ, List.set_cons_zero, List.set_cons_succ, if_true, if_false, Nat.zero_add, Nat.reduceAdd, Nat.reduceEqDiff, eq_self]
          refine call_fn rfl rfl rfl (ok11) ?_
          simp -implicitDefEqProofs only [wp_ret, seqK_normal, seqK_ret, opsK_at, ops_nil, ops_cons, op_plain, step_assign, step_pick, opt_some, ev_tmp, ev_const, putT_some, pv_eq, lk, tov, stepA, valA, Option.getD_none, Option.map_some, Option.bind_some, List.getElem?_cons_zero, List.getElem?_cons_succ, List.set_cons_zero, List.set_cons_succ, if_true, if_false, Nat.reduceAdd, Nat.reduceEqDiff, eq_self, RetQ_ret, resAll, res1, packR]
        | true =>
          simp -implicitDefEqProofs only [wp_reg, wp_seq, seqK_normal, opsK_at, ops_nil, ops_cons, op_plain, step_call, step_move, step_assign, step_load, step_extract, step_alloc, step_store, opt_some, ev_tmp, putT_some, putT_none, pv_eq, st_tm, lk, upd, tov, stepA, valA, storeA, cellsOf, ldA, ldT, tovs, newToks, St.newBox, St.newTok, St.mapTV, TV.killPtr, TV.killTok, zeroT, PV.cells, PV.ok, PV.cell, Option.getD_some, Option.getD_none, Option.map_some, Option.bind_some, List.getElem?_cons_zero, List.getElem?_cons_succ, List.set_cons_zero, List.set_cons_succ, List.map_cons, List.map_nil, List.foldl_cons, List.foldl_nil, List.all_cons, List.all_nil, List.length_cons, List.length_nil, List.take_succ_cons, List.take_zero, List.take_nil, List.drop_succ_cons, List.drop_zero, List.drop_nil, List.nil_append, List.append_nil, if_true, if_false, Bool.and_true, reduceCtorEq, and_self, Nat.zero_add, Nat.reduceAdd, Nat.reduceEqDiff, Nat.reduceLT, Nat.le_refl, eq_self, Option.isNone_none, one_int]
          have h13 := ok13 false false r m m c (a.map (newF · 1)) (b.map (newF · 1))
          rw [if_pos ⟨by simpa using hx, by simpa using hy, rfl⟩, prodF_whole hx hy sa sb] at h13
          refine call_fn rfl rfl rfl (h13) ?_
          simp -implicitDefEqProofs only [wp_skip, wp_reg0, wp_reg, wp_seq, wp_cond, wpK_at, execK_at, seqK_normal, opsK_at, ops_nil, ops_cons, op_plain, op_guardn, slotAt_zero, slotAt_succ, step_call, step_move, step_assign, step_pick, step_load, step_unOp, step_extract, step_alloc, step_store, opt_some, gB_false, ev_tmp, ev_const, putT_some, putT_none, pv_eq, st_tm, lk, upd, tov, stepA, valA, storeA, cellsOf, ldA, ldT, unA, bl, tovs, newToks, St.newBox, St.newTok, St.mapTV, TV.killPtr, TV.killTok, zeroT, PV.cells, PV.ok, PV.cell, Option.getD_some, Option.getD_none, Option.map_some, Option.bind_some, List.getElem?_cons_zero, List.getElem?_cons_succ, List.set_cons_zero, List.set_cons_succ, List.map_cons, List.map_nil, List.foldl_cons, List.foldl_nil, List.all_cons, List.all_nil, List.length_cons, List.length_nil, List.take_succ_cons, List.take_zero, List.take_nil, List.drop_succ_cons, List.drop_zero, List.drop_nil, List.nil_append, List.append_nil, if_true, if_false, Bool.not_true, Bool.and_true, reduceCtorEq, and_self, Nat.zero_add, Nat.reduceAdd, Nat.reduceEqDiff, Nat.reduceLT, Nat.le_refl, Bool.false_eq_true, eq_self, Option.isNone_none, one_int]
          have h13' := ok13 false false r m r m (a.map (newF · 1)) (a.map (newF · 1))
          have hx' : right r m (a.map (newF · 1)).length = true := by simpa using hx
          obtain ⟨r1, r2, m1, m2, hn⟩ := right_spec hx
          obtain ⟨_, _, c1, c2, hn2⟩ := right_spec hy
          obtain ⟨R, rfl⟩ := Int.eq_ofNat_of_zero_le (show 0 ≤ r by omega)
          obtain ⟨M, rfl⟩ := Int.eq_ofNat_of_zero_le (show 0 ≤ m by omega)
          obtain ⟨K, rfl⟩ := Int.eq_ofNat_of_zero_le (show 0 ≤ c by omega)
          have hla : a.length = R * M := by
            have : ((R * M : Nat) : Int) = a.length := by rw [Int.natCast_mul, hn]
            omega
          have hlb : b.length = M * K := by
            have : ((M * K : Nat) : Int) = b.length := by rw [Int.natCast_mul, hn2]
            omega
          have h15 := ok15 ea eb a b R M K (by omega) (by omega) (by omega) hla hlb sa sb
          have h14 := ok14 false false (R : Int) (K : Int) ((mulI a b R M K).map (newF · 1)) (mulI a b R M K) (by
            rw [mulI, gridP_length]
            have := side16 (n := R) (m := K) (by omega) (by omega)
            omega) rfl
          by_cases hrm : (M : Int) = (R : Int)
          · rw [if_pos ⟨hx', hx', hrm⟩] at h13'
            refine call_fn rfl rfl rfl (h13') ?_
            simp -implicitDefEqProofs only [wp_draw, wp_seq, execK_at, seqK_normal, opsK_at, ops_nil, ops_cons, op_plain, op_guard, slotAt_zero, slotAt_succ, step_call, step_move, step_assign, step_load, step_extract, step_alloc, step_store, opt_some, gB_true, ev_tmp, putT_some, putT_none, pv_eq, st_tm, lk, upd, tov, stepA, valA, storeA, cellsOf, ldA, ldT, tovs, newToks, St.newBox, St.newTok, St.mapTV, TV.killPtr, TV.killTok, zeroT, PV.cells, PV.ok, PV.cell, Option.getD_some, Option.getD_none, Option.map_some, Option.bind_some, List.getElem?_cons_zero, List.getElem?_cons_succ, List.set_cons_zero, List.set_cons_succ, List.map_cons, List.map_nil, List.foldl_cons, List.foldl_nil, List.all_cons, List.all_nil, List.length_cons, List.length_nil, List.take_succ_cons, List.take_zero, List.take_nil, List.drop_succ_cons, List.drop_zero, List.drop_nil, List.nil_append, List.append_nil, if_true, if_false, Bool.and_true, reduceCtorEq, and_self, Nat.zero_add, Nat.reduceAdd, Nat.reduceEqDiff, Nat.reduceLT, Nat.le_refl, eq_self, Option.isNone_none, one_int]
            refine call_fn rfl rfl rfl (h15) ?_
            simp -implicitDefEqProofs only [execK_at, opsK_at, ops_cons, op_guard, slotAt_zero, slotAt_succ, step_call, gB_true, putT_some, lk, Option.getD_none, Option.bind_some, List.getElem?_cons_zero, List.getElem?_cons_succ, List.set_cons_zero, List.set_cons_succ, if_false, Nat.zero_add, Nat.reduceAdd, Nat.reduceEqDiff]
            refine call_fn rfl rfl rfl (h14) ?_
            simp -implicitDefEqProofs only [execK_at, opsK_at, ops_cons, op_plain, op_guard, slotAt_zero, slotAt_succ, step_move, step_pick, step_binOp, opt_some, gB_true, ev_tmp, ev_const, putT_some, pv_eq, lk, tov, valA, bl, binA, num2, binV, eqA, Option.getD_some, Option.getD_none, Option.map_some, Option.bind_some, List.getElem?_cons_zero, List.getElem?_cons_succ, List.set_cons_zero, List.set_cons_succ, if_true, if_false, Nat.zero_add, Nat.reduceAdd, Nat.reduceEqDiff, Nat.reduceBEq, eq_self]
            have hq : (true == ((R : Int) == (M : Int))) = true := by simp [hrm]
            simp only [hq]
            simp -implicitDefEqProofs only [execK_at, step_call, gB_true]
            refine call_fn rfl rfl rfl (ok11) ?_
            simp -implicitDefEqProofs only [wp_ret, seqK_normal, opsK_at, ops_nil, ops_cons, op_plain, step_assign, step_pick, opt_some, ev_tmp, ev_const, putT_some, pv_eq, lk, tov, stepA, valA, Option.getD_none, Option.map_some, Option.bind_some, List.getElem?_cons_zero, List.getElem?_cons_succ, List.set_cons_zero, List.set_cons_succ, if_true, if_false, Nat.reduceAdd, Nat.reduceEqDiff, eq_self, RetQ_ret, resAll, res1, packR]
          · rw [if_neg (fun h => hrm h.2.2)] at h13'
            refine call_fn rfl rfl rfl (h13') ?_
            simp -implicitDefEqProofs only [wp_draw, wp_seq, execK_at, seqK_normal, opsK_at, ops_nil, ops_cons, op_plain, op_guard, slotAt_zero, slotAt_succ, step_call, step_move, step_assign, step_load, step_extract, step_alloc, step_store, opt_some, gB_true, ev_tmp, putT_some, putT_none, pv_eq, st_tm, lk, upd, tov, stepA, valA, storeA, cellsOf, ldA, ldT, tovs, newToks, St.newBox, St.newTok, St.mapTV, TV.killPtr, TV.killTok, zeroT, PV.cells, PV.ok, PV.cell, Option.getD_some, Option.getD_none, Option.map_some, Option.bind_some, List.getElem?_cons_zero, List.getElem?_cons_succ, List.set_cons_zero, List.set_cons_succ, List.map_cons, List.map_nil, List.foldl_cons, List.foldl_nil, List.all_cons, List.all_nil, List.length_cons, List.length_nil, List.take_succ_cons, List.take_zero, List.take_nil, List.drop_succ_cons, List.drop_zero, List.drop_nil, List.nil_append, List.append_nil, if_true, if_false, Bool.and_true, reduceCtorEq, and_self, Nat.zero_add, Nat.reduceAdd, Nat.reduceEqDiff, Nat.reduceLT, Nat.le_refl, eq_self, Option.isNone_none, one_int, one_slice]
            refine call_fn rfl rfl rfl (h15) ?_
            simp -implicitDefEqProofs only [execK_at, opsK_at, ops_cons, op_guard, slotAt_zero, slotAt_succ, step_call, gB_true, putT_some, lk, Option.getD_none, Option.bind_some, List.getElem?_cons_zero, List.getElem?_cons_succ, List.set_cons_zero, List.set_cons_succ, if_false, Nat.zero_add, Nat.reduceAdd, Nat.reduceEqDiff]
            refine call_fn rfl rfl rfl (h14) ?_
            simp -implicitDefEqProofs only [execK_at, opsK_at, ops_cons, op_plain, op_guard, slotAt_zero, slotAt_succ, step_move, step_pick, step_binOp, opt_some, gB_true, ev_tmp, ev_const, putT_some, pv_eq, lk, tov, valA, bl, binA, num2, binV, eqA, Option.getD_some, Option.getD_none, Option.map_some, Option.bind_some, List.getElem?_cons_zero, List.getElem?_cons_succ, List.set_cons_zero, List.set_cons_succ, if_true, if_false, Nat.zero_add, Nat.reduceAdd, Nat.reduceEqDiff, Nat.reduceBEq, eq_self]
            have hq : (false == ((R : Int) == (M : Int))) = true := by
              have : (R : Int) ≠ (M : Int) := fun h => hrm h.symm
              simp [this]
            simp only [hq]
            simp -implicitDefEqProofs only [execK_at, step_call, gB_true]
            refine call_fn rfl rfl rfl (ok11) ?_
            simp -implicitDefEqProofs only [wp_ret, seqK_normal, opsK_at, ops_nil, ops_cons, op_plain, step_assign, step_pick, opt_some, ev_tmp, ev_const, putT_some, pv_eq, lk, tov, stepA, valA, Option.getD_none, Option.map_some, Option.bind_some, List.getElem?_cons_zero, List.getElem?_cons_succ, List.set_cons_zero, List.set_cons_succ, if_true, if_false, Nat.reduceAdd, Nat.reduceEqDiff, eq_self, RetQ_ret, resAll, res1, packR]
end Go.Proofs.Ytfikikfbdgpdcaa.A
