import Derived.Test.YtnfomjnmigkpmaaT37
import Derived.Test.YtnfomjnmigkpmaaB7

set_option linter.unusedVariables false
set_option linter.unusedSimpArgs false
set_option maxRecDepth 100000
namespace Go.Proofs.Ytnfomjnmigkpmaa.A
open Go Go.RowKit Go.Shelf

/-- What Few tells. -/
theorem few9_spec {N : Int} {x root f g h : List Int} {r z : Int} (hf : few9 N x root f g h r z = true) :
    (1 ≤ N ∧ N ≤ 3 ∧ (x.length : Int) = N ∧ (h.length : Int) = N ∧ 1 ≤ r ∧ r ≤ 5 ∧ -5 ≤ z ∧ z ≤ 5) ∧ (bnd 5 x ∧ bnd 5 h ∧ bnd 5 root ∧ bnd 5 f ∧ bnd 5 g) ∧ (root.length : Int) = N * N ∧ (f.length : Int) = N * N ∧ (g.length : Int) = N * N := by
  simp only [few9, sided, Bool.and_eq_true, decide_eq_true_eq, List.all_cons, List.all_nil, Bool.and_true] at hf
  obtain ⟨h1, ⟨b1, b2, b3, b4, b5⟩, h3⟩ := hf
  have hN : N * N ≤ 9 := by
    have : N = 1 ∨ N = 2 ∨ N = 3 := by omega
    rcases this with h | h | h <;> rw [h] <;> decide
  have key : ∀ {l : List Int}, in5 l = true → (l.length : Int) ≤ 9 → bnd 5 l := fun hl hn y hy => by
    rw [in5, decide_eq_true_eq, List.take_of_length_le (by omega)] at hl
    have := hl y hy
    omega
  exact ⟨h1, ⟨key b1 (by omega), key b2 (by omega), key b3 (by omega), key b4 (by omega), key b5 (by omega)⟩, h3⟩

theorem ok15 (e1 e2 e3 e4 e5 : Bool) (n : Nat) (x root f g h : List Int) (r z : Int) (hn : 1 ≤ n ∧ n ≤ 3) (hx : x.length = n) (hr : root.length = n * n) :
    Ok Try.prog 15 [caseV e1 e2 e3 e4 e5 n x root f g h r z] (stV false false (frs (x.map (newF · 1))) n n (frs (sqF n (root.map (newF · 1))))) := by
  have s := side16 (n := n) (m := n) (by omega) (by omega)
  refine ok_fn mixed Try.func15 (code := ?_) (h := h15) ?_ k15 ?_
  rotate_left
  · exact rfl
  unfold h15 initS
  simp -implicitDefEqProofs (maxSteps := 10000000) only [wp_reg, wp_seq, seqK_normal, opsK_at, ops_nil, ops_cons, op_plain, step_call, step_load, step_fieldAddr, step_alloc, step_box, opt_some, ev_tmp, putT_some, st_tm, lk, upd, tov, stepA, cellsOf, ldA, ldT, fieldAddrA, tovs, newToks, St.newBox, St.newTok, St.mapTV, TV.killPtr, TV.killTok, zeroT, PV.cells, PV.ok, PV.cell, Option.getD_some, Option.getD_none, Option.map_some, Option.bind_some, List.getElem?_cons_zero, List.getElem?_cons_succ, List.set_cons_zero, List.set_cons_succ, List.map_cons, List.map_nil, List.foldl_cons, List.foldl_nil, List.all_cons, List.all_nil, List.length_cons, List.length_nil, List.take_succ_cons, List.take_zero, List.drop_succ_cons, List.drop_zero, List.cons_append, List.nil_append, List.toList_toArray, List.replicate_succ, List.replicate_zero, if_true, if_false, Bool.and_true, reduceCtorEq, and_self, Nat.zero_add, Nat.reduceAdd, Nat.reduceSub, Nat.reduceEqDiff, Nat.reduceLeDiff, Nat.reduceLT, Bool.false_eq_true, eq_self, Option.isNone_none, one_int, Try.ntmps15, Try.results15]
  have h12 := ok16 n n e2 root (by omega)
  rw [if_pos (right_nat (by omega) (by omega) hr)] at h12
  refine call_fn rfl rfl rfl (h12) ?_
  simp -implicitDefEqProofs (maxSteps := 10000000) only [wp_seq, seqK_normal, opsK_at, ops_nil, ops_cons, op_plain, step_call, step_move, step_assign, step_load, step_fieldAddr, step_extract, step_alloc, step_store, opt_some, ev_tmp, putT_some, putT_none, pv_eq, st_tm, lk, upd, tov, stepA, valA, storeA, cellsOf, ldA, ldT, fieldAddrA, tovs, newToks, St.newBox, St.newTok, St.mapTV, TV.killPtr, TV.killTok, zeroT, PV.cells, PV.ok, PV.cell, Option.getD_some, Option.getD_none, Option.map_some, Option.bind_some, List.getElem?_cons_zero, List.getElem?_cons_succ, List.set_cons_zero, List.set_cons_succ, List.map_cons, List.map_nil, List.foldl_cons, List.foldl_nil, List.all_cons, List.all_nil, List.length_cons, List.length_nil, List.take_succ_cons, List.take_zero, List.drop_succ_cons, List.drop_zero, List.drop_nil, List.nil_append, List.append_nil, if_true, if_false, Bool.not_false, Bool.and_true, reduceCtorEq, true_and, and_self, Nat.zero_add, Nat.reduceAdd, Nat.reduceEqDiff, Nat.reduceLeDiff, Nat.reduceLT, Nat.le_refl, Nat.reduceBEq, Nat.reduceBNe, Bool.false_eq_true, wp_regd, opsC_cons, opsCK_at, dsL_nil, dsL_cons, dsC, allocX, paOk, freeAll, St.freeB, TV.freeB, eq_self, List.contains_cons, List.contains_nil, Bool.or_false, Option.isNone_none, one_int]
  refine call_fn rfl rfl rfl (ok9 e1 x (by omega)) ?_
  simp -implicitDefEqProofs (maxSteps := 10000000) only [op_plain, step_call, step_load, opt_some, ev_tmp, putT_some, lk, tov, ldA, ldT, tovs, Option.getD_some, Option.getD_none, Option.map_some, Option.bind_some, List.getElem?_cons_zero, List.getElem?_cons_succ, List.set_cons_zero, List.set_cons_succ, List.map_cons, List.map_nil, List.all_cons, List.all_nil, List.length_cons, List.length_nil, List.take_succ_cons, List.take_nil, List.drop_zero, if_true, if_false, Bool.not_false, Bool.and_true, reduceCtorEq, true_and, Nat.zero_add, Nat.reduceAdd, Nat.reduceEqDiff, Nat.le_refl, Nat.reduceBEq, Nat.reduceBNe, opsC_cons, opsCK_at, dsL_nil, dsL_cons, dsC, allocX, paOk, freeAll, St.freeB, TV.freeB, eq_self, List.contains_cons, List.contains_nil, Bool.or_false, Option.isNone_none]
  have h7 := ok8 false false (x.map (newF · 1)) (root.map (newF · 1)) n (by omega) (by rw [List.length_map, hr]) (by rw [List.length_map]; omega)
  rw [if_pos (by rw [List.length_map]; omega)] at h7
  refine call_fn rfl rfl rfl (h7) ?_
  simp -implicitDefEqProofs (maxSteps := 10000000) only [wp_reg, wp_seq, wp_ret, seqK_normal, opsK_at, ops_nil, ops_cons, op_plain, step_move, step_assign, step_load, step_extract, step_alloc, step_store, opt_some, ev_tmp, putT_some, putT_none, pv_eq, st_tm, lk, upd, tov, stepA, valA, storeA, cellsOf, ldA, ldT, tovs, newToks, St.newBox, St.newTok, St.mapTV, TV.killPtr, TV.killTok, zeroT, PV.cells, PV.ok, PV.cell, Option.getD_some, Option.getD_none, Option.map_some, Option.bind_some, List.getElem?_cons_zero, List.getElem?_cons_succ, List.set_cons_zero, List.set_cons_succ, List.map_cons, List.map_nil, List.foldl_cons, List.foldl_nil, List.all_cons, List.all_nil, List.length_cons, List.length_nil, List.take_succ_cons, List.take_zero, List.take_nil, List.drop_succ_cons, List.drop_zero, List.drop_nil, List.nil_append, List.append_nil, if_true, if_false, Bool.not_false, Bool.and_true, reduceCtorEq, and_self, Nat.zero_add, Nat.reduceAdd, Nat.reduceEqDiff, Nat.reduceLT, Nat.le_refl, Nat.reduceBEq, Nat.reduceBNe, opsC_nil, opsC_cons, opsCK_at, dsL_nil, dsL_cons, dsC, allocX, paOk, freeAll, St.freeB, TV.freeB, eq_self, List.contains_cons, List.contains_nil, Bool.or_false, Option.isNone_none, one_int, RetQ_ret, resAll, res1, packR]

/-! ### The function JosephStill -/
set_option maxHeartbeats 4000000 in
theorem ok4 (e1 e2 e3 e4 e5 : Bool) (N : Int) (x root f g h : List Int) (r z : Int) : Ok Try.prog 4 [caseV e1 e2 e3 e4 e5 N x root f g h r z] (tru true) := by
  have h914 := ok14 e1 e2 e3 e4 e5 N x root f g h r z
  refine ok_fn mixed Try.func4 (code := ?_) (h := h4) ?_ k4 ?_
  rotate_left
  · exact rfl
  unfold h4 initS
  simp -implicitDefEqProofs (maxSteps := 10000000) only [wp_reg, wp_seq, seqK_normal, opsK_at, ops_nil, ops_cons, op_plain, step_call, step_assign, step_load, step_box, opt_some, ev_tmp, ev_const, putT_some, st_tm, lk, upd, tov, stepA, valA, cellsOf, ldA, ldT, tovs, St.newBox, St.mapTV, TV.killPtr, PV.cells, PV.ok, PV.cell, Option.getD_some, Option.getD_none, Option.map_some, Option.bind_some, List.getElem?_cons_zero, List.getElem?_cons_succ, List.set_cons_zero, List.set_cons_succ, List.map_cons, List.map_nil, List.all_cons, List.all_nil, List.length_cons, List.length_nil, List.take_succ_cons, List.take_nil, List.drop_zero, List.cons_append, List.nil_append, List.toList_toArray, List.replicate_succ, List.replicate_zero, if_true, if_false, Bool.and_true, reduceCtorEq, and_self, Nat.zero_add, Nat.reduceAdd, Nat.reduceSub, Nat.reduceEqDiff, Nat.le_refl, eq_self, Option.isNone_none, one_int, Try.ntmps4, Try.results4]
  refine call_fn rfl rfl rfl (h914) ?_
  cases hf : few9 N x root f g h r z with
  | false =>
    simp -implicitDefEqProofs (maxSteps := 10000000) only [wp_reg0, wp_seq, wp_cond, wpK_at, junkK_at, seqK_normal, opsK_at, ops_nil, ops_cons, op_plain, op_guardn, slotAt_zero, slotAt_succ, step_call, step_move, step_pick, step_unOp, opt_some, gB_true, ev_tmp, ev_const, putT_some, pv_eq, lk, tov, valA, unA, bl, Option.getD_some, Option.getD_none, Option.map_some, Option.bind_some, List.getElem?_cons_zero, List.getElem?_cons_succ, List.set_cons_zero, List.set_cons_succ, if_true, if_false, Bool.not_false, reduceCtorEq, Nat.zero_add, Nat.reduceAdd, Nat.reduceEqDiff, eq_self]
    refine call_fn rfl rfl rfl (ok6) ?_
    simp -implicitDefEqProofs (maxSteps := 10000000) only [wp_ret, seqK_normal, seqK_ret, opsK_at, ops_nil, ops_cons, op_plain, step_assign, opt_some, ev_tmp, putT_some, lk, tov, stepA, valA, Option.getD_none, Option.map_some, Option.bind_some, List.getElem?_cons_zero, List.getElem?_cons_succ, List.set_cons_zero, List.set_cons_succ, Nat.reduceAdd, eq_self, RetQ_ret, resAll, res1, packR]
  | true =>
    obtain ⟨⟨n1, n2, lx, lh, r1, r2, z1, z2⟩, ⟨bx, bh, br, bf, bg⟩, lr, lf, lg⟩ := few9_spec hf
    have a1 : ¬ N < 1 := by omega
    have a2 : ¬ N > 3 := by omega
    obtain ⟨n, rfl⟩ := Int.eq_ofNat_of_zero_le (show 0 ≤ N by omega)
    have hn : 1 ≤ n ∧ n ≤ 3 := by omega
    have hn' : 1 ≤ n ∧ n ≤ 16 := by omega
    have lx' : x.length = n := by omega
    have lr' : root.length = n * n := by
      have : ((n : Int) * (n : Int)) = ((n * n : Nat) : Int) := by simp
      omega
    simp -implicitDefEqProofs (maxSteps := 10000000) only [a1, a2, wp_skip, wp_reg, wp_seq, wp_cond, wpK_at, execK_at, seqK_normal, opsK_at, ops_nil, ops_cons, op_plain, op_guardn, slotAt_zero, slotAt_succ, step_call, step_move, step_pick, step_load, step_fieldAddr, step_binOp, step_unOp, opt_some, gB_false, ev_tmp, ev_const, putT_some, pv_eq, lk, tov, valA, ldA, ldT, fieldAddrA, unA, bl, binA, num2, binV, tovs, Option.getD_some, Option.getD_none, Option.map_some, Option.bind_some, List.getElem?_cons_zero, List.getElem?_cons_succ, List.set_cons_zero, List.set_cons_succ, List.length_cons, List.length_nil, List.take_succ_cons, List.take_zero, List.take_nil, List.drop_zero, if_true, if_false, Bool.not_true, reduceCtorEq, Nat.zero_add, Nat.reduceAdd, Nat.reduceEqDiff, Nat.reduceLeDiff, Nat.le_refl, Nat.reduceBEq, Bool.false_eq_true, decide_false, eq_self]
    refine call_fn rfl rfl rfl (ok15 e1 e2 e3 e4 e5 n x root f g h r z hn lx' lr') ?_
    obtain ⟨p, lp, bp, mp, ep⟩ := sqF_whole hn lr' br
    rw [ep]
    simp -implicitDefEqProofs (maxSteps := 10000000) only [wp_reg, wp_seq, seqK_normal, opsK_at, ops_nil, ops_cons, op_plain, step_call, step_load, step_fieldAddr, step_alloc, step_store, opt_some, ev_tmp, putT_some, putT_none, st_tm, lk, upd, tov, stepA, storeA, cellsOf, ldA, ldT, fieldAddrA, tovs, newToks, St.newBox, St.newTok, St.mapTV, TV.killPtr, TV.killTok, zeroT, PV.cells, PV.ok, PV.cell, Option.getD_some, Option.getD_none, Option.map_some, Option.bind_some, List.getElem?_cons_zero, List.getElem?_cons_succ, List.set_cons_zero, List.set_cons_succ, List.map_cons, List.map_nil, List.foldl_cons, List.foldl_nil, List.all_cons, List.all_nil, List.length_cons, List.length_nil, List.take_succ_cons, List.take_zero, List.drop_succ_cons, List.drop_zero, List.drop_nil, List.nil_append, List.append_nil, if_true, if_false, Bool.and_true, reduceCtorEq, and_self, Nat.zero_add, Nat.reduceAdd, Nat.reduceEqDiff, Nat.reduceLeDiff, Nat.reduceLT, Nat.le_refl, Bool.false_eq_true, eq_self, Option.isNone_none, one_int]
    have h24 := ok7 n
    rw [if_pos (by omega), Int.toNat_natCast] at h24
    refine call_fn rfl rfl rfl (h24) ?_
    have s := side16 (n := n) (m := n) (by omega) (by omega)
    have cN : (n : Int) * (n : Int) = ((n * n : Nat) : Int) := by simp
    have wN := wrapped (x := ((n * n : Nat) : Int)) (by omega) (by omega)
    have hc1 : (0 : Int) ≤ ((n * n : Nat) : Int) := by omega
    have hc2 : ((n * n : Nat) : Int) * ((8 : Nat) : Int) ≤ 140737488355328 := by omega
    have hc3 : ((n * n : Nat) : Int) ≤ 16777216 := by omega
    simp -implicitDefEqProofs (maxSteps := 10000000) only [cN, wN, hc1, hc2, hc3, Int.toNat_natCast, wp_seq, seqK_normal, opsK_at, ops_nil, ops_cons, op_plain, step_call, step_move, step_assign, step_load, step_fieldAddr, step_binOp, step_extract, step_alloc, step_store, step_makeSlice, opt_some, ev_tmp, putT_some, putT_none, pv_eq, st_tm, lk, upd, tov, stepA, valA, storeA, cellsOf, ldA, ldT, fieldAddrA, binA, num2, binV, tovs, newToks, St.newBox, St.newTok, List.headD_cons, St.mapTV, TV.killPtr, TV.killTok, zeroT, PV.cells, PV.ok, PV.cell, Option.getD_some, Option.getD_none, Option.map_some, Option.bind_some, List.getElem?_cons_zero, List.getElem?_cons_succ, List.set_cons_zero, List.set_cons_succ, List.map_cons, List.map_nil, List.foldl_cons, List.foldl_nil, List.all_cons, List.all_nil, List.length_cons, List.length_nil, List.take_succ_cons, List.take_zero, List.drop_succ_cons, List.drop_zero, List.drop_nil, List.nil_append, List.append_nil, if_true, if_false, Bool.and_true, reduceCtorEq, true_and, and_self, Nat.zero_add, Nat.reduceAdd, Nat.reduceEqDiff, Nat.reduceLeDiff, Nat.reduceLT, Nat.le_refl, Nat.reduceBEq, Nat.reduceBNe, Bool.false_eq_true, wp_regd, opsC_cons, opsCK_at, dsL_nil, dsL_cons, dsC, allocX, paOk, freeAll, St.freeB, TV.freeB, eq_self, Option.isNone_none, one_int]
    have h12 := ok16 n n true (List.replicate (n * n) 0) (by simp; omega)
    rw [if_pos (right_nat (by omega) (by omega) (by simp)), List.map_replicate] at h12
    refine call_fn rfl rfl rfl (h12) ?_
    have wn := wrapped (x := (n : Int)) (by omega) (by omega)
    have hd1 : (0 : Int) ≤ (n : Int) := by omega
    have hd2 : (n : Int) * ((8 : Nat) : Int) ≤ 140737488355328 := by omega
    have hd3 : (n : Int) ≤ 16777216 := by omega
    simp -implicitDefEqProofs (maxSteps := 10000000) only [wp_reg, wp_seq, seqK_normal, opsK_at, ops_cons, op_plain, step_call, step_move, step_assign, step_load, step_extract, step_alloc, step_store, opt_some, ev_tmp, putT_some, putT_none, pv_eq, st_tm, lk, upd, tov, stepA, valA, storeA, cellsOf, ldA, ldT, tovs, newToks, St.newBox, St.newTok, St.mapTV, TV.killPtr, TV.killTok, zeroT, PV.cells, PV.ok, PV.cell, Option.getD_some, Option.getD_none, Option.map_some, Option.bind_some, List.getElem?_cons_zero, List.getElem?_cons_succ, List.set_cons_zero, List.set_cons_succ, List.map_cons, List.map_nil, List.foldl_cons, List.foldl_nil, List.all_cons, List.all_nil, List.length_cons, List.length_nil, List.take_succ_cons, List.take_zero, List.take_nil, List.drop_succ_cons, List.drop_zero, List.drop_nil, List.nil_append, List.append_nil, if_true, if_false, Bool.and_true, reduceCtorEq, true_and, and_self, Nat.zero_add, Nat.reduceAdd, Nat.reduceEqDiff, Nat.reduceLT, Nat.le_refl, Nat.reduceBNe, opsC_nil, opsC_cons, opsCK_at, dsL_nil, dsL_cons, dsC, allocX, paOk, freeAll, St.freeB, TV.freeB, eq_self, Option.isNone_none, one_int]
    have h909 := ok11 false false false false (x.map (newF · 1)) (p.map (newF · 1)) ((unitP n n).map (newF · 1)) ((List.replicate (n * n) 0).map (newF · 1)) n (by omega) (by rw [List.length_map, lx']) (by rw [List.length_map, lp]) (by rw [List.length_map, unitP_length]) (by simp)
    rw [sqF_zero hn, turnedF_unit hn lp bp mp, applyF_unit hn lx' bx] at h909
    refine call_fn rfl rfl rfl (h909) ?_
    simp -implicitDefEqProofs (maxSteps := 10000000) only [hd1, hd2, hd3, Int.toNat_natCast, wp_seq, seqK_normal, opsK_at, ops_nil, ops_cons, op_plain, step_call, step_move, step_assign, step_load, step_fieldAddr, step_extract, step_alloc, step_store, step_makeSlice, opt_some, ev_tmp, putT_some, putT_none, pv_eq, st_tm, lk, upd, tov, stepA, valA, storeA, cellsOf, ldA, ldT, fieldAddrA, tovs, newToks, St.newBox, St.newTok, List.headD_cons, St.mapTV, TV.killPtr, TV.killTok, zeroT, PV.cells, PV.ok, PV.cell, Option.getD_some, Option.getD_none, Option.map_some, Option.bind_some, List.getElem?_cons_zero, List.getElem?_cons_succ, List.set_cons_zero, List.set_cons_succ, List.map_cons, List.map_nil, List.foldl_cons, List.foldl_nil, List.all_cons, List.all_nil, List.length_cons, List.length_nil, List.take_succ_cons, List.take_zero, List.take_nil, List.drop_succ_cons, List.drop_zero, List.drop_nil, List.nil_append, List.append_nil, if_true, if_false, Bool.and_true, reduceCtorEq, true_and, and_self, Nat.zero_add, Nat.reduceAdd, Nat.reduceEqDiff, Nat.reduceLeDiff, Nat.reduceLT, Nat.le_refl, Nat.reduceBNe, Bool.false_eq_true, wp_regd, opsC_cons, opsCK_at, dsL_nil, dsL_cons, dsC, allocX, paOk, freeAll, St.freeB, TV.freeB, eq_self, Option.isNone_none, one_int]
    have h35 := ok9 true (List.replicate n 0) (by simp; omega)
    rw [List.map_replicate] at h35
    refine call_fn rfl rfl rfl (h35) ?_
    simp -implicitDefEqProofs (maxSteps := 10000000) only [op_plain, step_call, step_load, step_fieldAddr, opt_some, ev_tmp, putT_some, lk, tov, ldA, ldT, fieldAddrA, tovs, Option.getD_some, Option.getD_none, Option.map_some, Option.bind_some, List.getElem?_cons_zero, List.getElem?_cons_succ, List.set_cons_zero, List.set_cons_succ, List.map_cons, List.map_nil, List.all_cons, List.all_nil, List.length_cons, List.length_nil, List.take_succ_cons, List.take_zero, List.drop_succ_cons, List.drop_zero, if_true, if_false, Bool.and_true, reduceCtorEq, true_and, Nat.zero_add, Nat.reduceAdd, Nat.reduceEqDiff, Nat.reduceLeDiff, Nat.reduceBNe, Bool.false_eq_true, opsC_cons, opsCK_at, dsL_nil, dsL_cons, dsC, allocX, paOk, freeAll, St.freeB, TV.freeB, eq_self, Option.isNone_none]
    refine call_fn rfl rfl rfl (ok13 r 1) ?_
    simp -implicitDefEqProofs (maxSteps := 10000000) only [op_plain, step_call, step_load, step_fieldAddr, opt_some, ev_tmp, putT_some, lk, tov, ldA, ldT, fieldAddrA, tovs, Option.getD_some, Option.getD_none, Option.map_some, Option.bind_some, List.getElem?_cons_zero, List.getElem?_cons_succ, List.set_cons_zero, List.set_cons_succ, List.map_cons, List.map_nil, List.all_cons, List.all_nil, List.length_cons, List.length_nil, List.take_succ_cons, List.take_nil, List.drop_succ_cons, List.drop_zero, if_true, if_false, Bool.and_true, reduceCtorEq, true_and, Nat.zero_add, Nat.reduceAdd, Nat.reduceEqDiff, Nat.le_refl, Nat.reduceBNe, Bool.false_eq_true, opsC_cons, opsCK_at, dsL_nil, dsL_cons, dsC, allocX, paOk, freeAll, St.freeB, TV.freeB, eq_self, Option.isNone_none]
    refine call_fn rfl rfl rfl (ok13 z 1) ?_
    simp -implicitDefEqProofs (maxSteps := 10000000) only [op_plain, step_call, putT_some, lk, Option.getD_some, Option.getD_none, List.set_cons_zero, List.set_cons_succ, List.map_cons, List.map_nil, List.all_cons, List.all_nil, if_true, if_false, Bool.and_true, reduceCtorEq, true_and, Nat.reduceAdd, Nat.reduceEqDiff, Nat.reduceBNe, opsC_cons, opsCK_at, dsL_nil, dsL_cons, dsC, allocX, paOk, freeAll, St.freeB, TV.freeB, eq_self, Option.isNone_none]
    obtain ⟨u1, u2, u3, u4⟩ := still_up hn lx' bx lp bp mp ⟨r1, r2⟩ ⟨z1, z2⟩
    have h910 := ok12 false false false n (x.map (newF · 1)) (p.map (newF · 1)) ((List.replicate n 0).map (newF · 1)) (newF r 1) (newF z 1) (by omega) (by rw [List.length_map, lx']) (by rw [List.length_map, lp]) (by simp)
    rw [u1, u2, u3, u4] at h910
    refine call_fn rfl rfl rfl (h910) ?_
    have lX : (frs (x.map (newF · 1))).length = n := by simp [lx']
    have lP : (p.map (newF · 1)).length ≤ 5864062014805 := by rw [List.length_map, lp]; omega
    simp -implicitDefEqProofs (maxSteps := 10000000) only [lX, bne_self_eq_false, wp_reg, wp_seq, execK_at, seqK_normal, opsK_at, ops_cons, op_plain, op_guardn, slotAt_zero, slotAt_succ, step_call, step_builtin, step_move, step_assign, step_pick, step_load, step_fieldAddr, step_binOp, step_unOp, step_extract, step_alloc, step_store, opt_some, gB_false, ev_tmp, ev_const, putT_some, putT_none, pv_eq, st_tm, lk, upd, tov, stepA, valA, storeA, cellsOf, ldA, ldT, fieldAddrA, lenA, unA, bl, binA, num2, binV, tovs, newToks, St.newBox, St.newTok, St.mapTV, TV.killPtr, TV.killTok, zeroT, PV.cells, PV.ok, PV.cell, Option.getD_some, Option.getD_none, Option.map_some, Option.bind_some, List.getElem?_cons_zero, List.getElem?_cons_succ, List.set_cons_zero, List.set_cons_succ, List.map_cons, List.map_nil, List.foldl_cons, List.foldl_nil, List.all_cons, List.all_nil, List.length_cons, List.length_nil, List.take_succ_cons, List.take_zero, List.take_nil, List.drop_succ_cons, List.drop_zero, List.drop_nil, List.nil_append, List.append_nil, if_true, if_false, Bool.not_true, Bool.not_false, Bool.and_true, reduceCtorEq, true_and, and_self, Nat.zero_add, Nat.reduceAdd, Nat.reduceEqDiff, Nat.reduceLeDiff, Nat.reduceLT, Nat.le_refl, Nat.reduceBEq, Nat.reduceBNe, Bool.false_eq_true, opsC_nil, opsC_cons, opsCK_at, dsL_nil, dsL_cons, dsC, allocX, paOk, freeAll, St.freeB, TV.freeB, eq_self, List.contains_nil, Option.isNone_none, one_int, one_bool]
    have h26 := ok17 false false n n (p.map (newF · 1)) lP
    refine call_fn rfl rfl rfl (h26) ?_
    simp -implicitDefEqProofs (maxSteps := 10000000) only [execK_at, opsK_at, ops_cons, op_plain, op_guardn, slotAt_zero, slotAt_succ, step_call, step_move, step_pick, step_load, step_fieldAddr, step_unOp, opt_some, gB_false, ev_tmp, ev_const, putT_some, pv_eq, lk, tov, valA, ldA, ldT, fieldAddrA, unA, bl, tovs, Option.getD_some, Option.getD_none, Option.map_some, Option.bind_some, List.getElem?_cons_zero, List.getElem?_cons_succ, List.set_cons_zero, List.set_cons_succ, List.length_cons, List.length_nil, List.take_succ_cons, List.take_nil, List.drop_succ_cons, List.drop_zero, if_true, if_false, Bool.not_true, Nat.zero_add, Nat.reduceAdd, Nat.reduceEqDiff, Nat.le_refl, Bool.false_eq_true, eq_self]
    refine call_fn rfl rfl rfl (h26) ?_
    simp -implicitDefEqProofs (maxSteps := 10000000) only [wp_skip, wp_reg, wp_seq, wp_cond, wp_block, wpK_at, execK_at, seqK_normal, opsK_at, ops_nil, ops_cons, op_plain, op_guardn, slotAt_zero, slotAt_succ, step_builtin, step_move, step_pick, step_load, step_fieldAddr, step_unOp, opt_some, gB_false, ev_tmp, ev_const, putT_some, pv_eq, lk, tov, stepA, valA, ldA, ldT, fieldAddrA, lenA, unA, bl, tovs, Option.getD_some, Option.getD_none, Option.map_some, Option.bind_some, List.getElem?_cons_zero, List.getElem?_cons_succ, List.set_cons_zero, List.set_cons_succ, List.length_cons, List.length_nil, List.take_succ_cons, List.take_zero, List.drop_zero, if_true, if_false, Bool.not_true, reduceCtorEq, Nat.zero_add, Nat.reduceAdd, Nat.reduceEqDiff, Nat.reduceLeDiff, Bool.false_eq_true, eq_self]
    refine wp_loop (fun m s => ∃ i : Nat, i + m = n ∧ s = ⟨[jk, .ptr 1 0, jk, .ptr 3 0, jk, jk, jk, jk, .ptr 8 0, jk, .ptr 10 0, .ptr 11 0, jk, jk, jk, jk, jk, jk, jk, jk, jk, jk, jk, jk, jk, jk, jk, jk, jk, jk, jk, jk, jk, jk, jk, jk, jk, jk, jk, jk, jk, jk, jk, jk, jk, jk, jk, jk, jk, jk, jk, jk, jk, jk, jk, jk, jk, jk, jk, jk, jk, jk, jk, jk, jk, jk, jk, jk, jk, jk, jk, jk, jk, jk, jk, jk, jk, jk, jk, jk, jk, jk, jk, jk, jk, jk, jk, jk, jk, jk, jk, jk, jk, jk, jk, jk, jk, jk, jk, jk, jk, jk, jk, jk, jk, jk, jk, jk, jk, jk, jk, jk, jk, nt n, nt i, jk, jk, jk, jk, jk, jk, jk, jk, jk, jk, jk, jk, jk, jk, jk, jk, jk, jk, jk, jk, jk, jk, jk, jk, jk, jk, jk, jk, jk, jk, jk, jk, jk, jk, jk, jk, jk, jk, jk, jk, jk, jk, jk, jk],
      [(1, [nt n, .v (.sl e1 (x.map num)), .v (.sl e2 (root.map num)), .v (.sl e3 (f.map num)), .v (.sl e4 (g.map num)), .v (.sl e5 (h.map num)), nt r, nt z]),
       (3, [.v (.sl false (frs (x.map (newF · 1)))), nt n, nt n, .v (.sl false (frs (p.map (newF · 1))))]),
       (4, [nt n, nt n, .v (.sl false (frs ((unitP n n).map (newF · 1))))]),
       (6, [nt n, nt n, .v (.sl false (frs ((List.replicate (n * n) 0).map (newF · 1))))]),
       (8, [.v (.sl false (frs (x.map (newF · 1)))), nt n, nt n, .v (.sl false (frs (p.map (newF · 1))))]),
       (10, [.v (.sl false (frs (x.map (newF · 1)))), nt n, nt n, .v (.sl false (frs (p.map (newF · 1))))]),
       (11, [nt (newF z 1).n, nt (newF z 1).d, .v (tru (newF z 1).bad), nt (newF r 1).n, nt (newF r 1).d, .v (tru (newF r 1).bad)])], [], [(1003, 0), (1008, 0), (1010, 0), (3004, 0), (3006, 0), (4003, 0), (4008, 0), (4010, 0)], [], 0⟩) n ?_ ?_
    · simp -implicitDefEqProofs (maxSteps := 10000000) only [lX, opt_some, ghs, gh1, junkAll, Option.bind_some, List.set_cons_zero, List.set_cons_succ]
      exact ⟨0, by simp, rfl⟩
    rintro m s' ⟨i, hi, rfl⟩
    simp -implicitDefEqProofs (maxSteps := 10000000) only [wp_reg0, wp_seq, wp_cond, seqK_normal, opsK_at, ops_nil, ops_cons, op_plain, step_binOp, opt_some, ev_tmp, putT_some, lk, valA, binA, num2, binV, Option.getD_none, Option.map_some, List.getElem?_cons_zero, List.getElem?_cons_succ, List.set_cons_zero, List.set_cons_succ, if_true, Nat.zero_add, Nat.reduceBEq, eq_self]
    refine gB_dec ?_ ?_ <;> intro hc <;> simp -implicitDefEqProofs (maxSteps := 10000000) only [hc, wp_skip, wp_reg0, wp_draw, wp_seq, wp_block, wp_exit, wpK_at, seqK_normal, seqK_exit, blockK_exit, loopK_exit, opsK_at, ops_nil, ops_cons, op_plain, step_call, step_move, step_assign, step_load, step_fieldAddr, step_indexAddr, opt_some, ev_tmp, putT_some, pv_eq, lk, tov, stepA, valA, ldA, ldT, fieldAddrA, idxAddrA, idxA, tovs, PV.cells, Option.getD_some, Option.getD_none, Option.map_some, Option.bind_some, List.getElem?_cons_zero, List.getElem?_cons_succ, List.set_cons_zero, List.set_cons_succ, List.length_cons, List.length_nil, List.take_succ_cons, List.take_zero, List.take_nil, List.drop_succ_cons, List.drop_zero, if_true, if_false, reduceCtorEq, Nat.zero_add, Nat.reduceAdd, Nat.reduceEqDiff, Nat.reduceLeDiff, Nat.le_refl, Bool.false_eq_true, decide_true, decide_false, eq_self]
    · have hlt : i < (x.map (newF · 1)).length := by rw [List.length_map]; omega
      have h0 : (0 : Int) ≤ (i : Int) := by omega
      have hg : (frs (x.map (newF · 1)))[i]? = some (frV (x.map (newF · 1))[i]) := by
        rw [frs, List.getElem?_map, List.getElem?_eq_getElem hlt]; rfl
      have hw := wrapped (x := (i : Int) + 1) (by omega) (by omega)
      simp -implicitDefEqProofs (maxSteps := 10000000) only [h0, Int.toNat_natCast, hg, eq_fr, wp_skip, wp_reg0, wp_cond, wpK_at, execK_at, seqK_normal, blockK_normal, opsK_at, ops_nil, ops_cons, op_plain, op_guardn, slotAt_zero, slotAt_succ, step_move, step_pick, step_load, step_fieldAddr, step_indexAddr, step_binOp, opt_some, gB_false, ev_tmp, ev_const, putT_some, pv_eq, lk, tov, valA, ldA, ldC, ldT, fieldAddrA, idxAddrA, idxA, bl, binA, num2, binV, eqA, tovs, PV.cells, Option.getD_some, Option.getD_none, Option.map_some, Option.bind_some, List.getElem?_cons_zero, List.getElem?_cons_succ, List.set_cons_zero, List.set_cons_succ, List.length_cons, List.length_nil, List.take_succ_cons, List.take_zero, List.take_nil, List.drop_zero, if_true, if_false, Bool.not_true, reduceCtorEq, Nat.zero_add, Nat.reduceAdd, Nat.reduceEqDiff, Nat.reduceLeDiff, Nat.le_refl, Nat.reduceBEq, Bool.false_eq_true, decide_true, eq_self]
      simp -implicitDefEqProofs (maxSteps := 10000000) only [hw]
      refine loopK_of (m' := m - 1) (by omega) ?_
      simp -implicitDefEqProofs (maxSteps := 10000000) only [opt_some, ghs, gh1, junkAll, Option.bind_some, List.set_cons_zero, List.set_cons_succ]
      exact ⟨i + 1, by omega, by simp only [Int.natCast_add, Int.natCast_one]⟩
    · refine call_fn rfl rfl rfl (ok13 r 1) ?_
      simp -implicitDefEqProofs (maxSteps := 10000000) only [eq_fr, execK_at, opsK_at, ops_cons, op_plain, op_guard, slotAt_zero, slotAt_succ, step_call, step_move, step_load, step_fieldAddr, step_binOp, opt_some, gB_true, ev_tmp, putT_some, lk, tov, valA, ldA, ldT, fieldAddrA, bl, binA, num2, eqA, tovs, Option.getD_some, Option.getD_none, Option.map_some, Option.bind_some, List.getElem?_cons_zero, List.getElem?_cons_succ, List.set_cons_zero, List.set_cons_succ, List.length_cons, List.length_nil, List.take_succ_cons, List.take_zero, List.take_nil, List.drop_succ_cons, List.drop_zero, if_true, if_false, reduceCtorEq, Nat.zero_add, Nat.reduceAdd, Nat.reduceEqDiff, Nat.reduceLeDiff, Nat.le_refl, Nat.reduceBEq, Bool.false_eq_true, decide_true, eq_self]
      refine call_fn rfl rfl rfl (ok13 z 1) ?_
      simp -implicitDefEqProofs (maxSteps := 10000000) only [eq_fr, execK_at, opsK_at, ops_cons, op_plain, op_guard, slotAt_zero, slotAt_succ, step_call, step_move, step_pick, step_binOp, opt_some, gB_true, ev_tmp, ev_const, putT_some, pv_eq, lk, tov, valA, bl, binA, num2, eqA, Option.getD_some, Option.getD_none, Option.map_some, Option.bind_some, List.getElem?_cons_zero, List.getElem?_cons_succ, List.set_cons_zero, List.set_cons_succ, if_true, if_false, reduceCtorEq, Nat.zero_add, Nat.reduceAdd, Nat.reduceEqDiff, Nat.reduceBEq, decide_true, eq_self]
      refine call_fn rfl rfl rfl (ok6) ?_
      simp -implicitDefEqProofs (maxSteps := 10000000) only [wp_ret, seqK_normal, opsK_at, ops_nil, ops_cons, op_plain, step_assign, step_pick, opt_some, ev_tmp, ev_const, putT_some, pv_eq, lk, tov, stepA, valA, Option.getD_none, Option.map_some, Option.bind_some, List.getElem?_cons_zero, List.getElem?_cons_succ, List.set_cons_zero, List.set_cons_succ, if_true, if_false, reduceCtorEq, Nat.reduceAdd, Nat.reduceEqDiff, eq_self, RetQ_ret, resAll, res1, packR]
/-- What comes in. -/
abbrev caseSh : List CSh := [.int .i64, .sl false [.int .i64], .sl false [.int .i64], .sl false [.int .i64], .sl false [.int .i64], .sl false [.int .i64], .int .i64, .int .i64]
theorem case_fit {xs : List PV} (h : FitL caseSh xs) : ∃ N x root f g h r z, PV.agg xs = caseV false false false false false N x root f g h r z := by
  simp only [FitL] at h
  obtain ⟨y0, _, rfl, h0, y1, _, rfl, h1, y2, _, rfl, h2, y3, _, rfl, h3, y4, _, rfl, h4, y5, _, rfl, h5, y6, _, rfl, h6, y7, _, rfl, h7, rfl⟩ := h
  obtain ⟨n, rfl, _⟩ := h0
  obtain ⟨z1, rfl, _⟩ := FitC.ints h1
  obtain ⟨z2, rfl, _⟩ := FitC.ints h2
  obtain ⟨z3, rfl, _⟩ := FitC.ints h3
  obtain ⟨z4, rfl, _⟩ := FitC.ints h4
  obtain ⟨z5, rfl, _⟩ := FitC.ints h5
  obtain ⟨n6, rfl, _⟩ := h6
  obtain ⟨n7, rfl, _⟩ := h7
  exact ⟨n, z1, z2, z3, z4, z5, n6, n7, rfl⟩
theorem JosephStill_ok {xs : List PV} (h : FitL caseSh xs) : Ok Try.prog 4 [.agg xs] (tru true) := by
  obtain ⟨N, x, root, f, g, h, r, z, e⟩ := case_fit h
  rw [e]
  exact ok4 _ _ _ _ _ _ _ _ _ _ _ _ _
end Go.Proofs.Ytnfomjnmigkpmaa.A
