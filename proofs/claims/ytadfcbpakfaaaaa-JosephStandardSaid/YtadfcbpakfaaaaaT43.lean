import Derived.Test.YtadfcbpakfaaaaaT42
import Derived.Test.YtadfcbpakfaaaaaT38

set_option linter.unusedVariables false
set_option linter.unusedSimpArgs false
set_option maxRecDepth 100000
namespace Go.Proofs.Ytadfcbpakfaaaaa.A
open Go Go.RowKit Go.Shelf

/-! ### The function JosephTwo -/
theorem eq_fr3 (n d : Int) (b : Bool) : cellsEq [some .i64, some .i64, none] [num n, num d, tru b] [num n, num d, tru b] = some true := by
  have := eq_fr ⟨n, d, b⟩ ⟨n, d, b⟩
  simpa using this

theorem first_sym {n : Nat} (hn : 1 ≤ n ∧ n ≤ 16) {p : List Int} (lp : p.length = n * n) (mp : mirI p n n n 0 = p) {i k : Nat} (hi : i < n) (hk : k < n) : (p.map (newF · 1)).getD (i * n + k) dz = (p.map (newF · 1)).getD (k * n + i) dz := by
  have h1 := at_table hi hk
  have h2 := at_table hk hi
  rw [getD_newF (by omega), getD_newF (by omega)]
  have e : ∀ i k, i < n → k < n → p.getD (i * n + k) 0 = p.getD (max i k * n + min i k) 0 := fun i k hi hk => by
    conv => lhs; rw [← mp]
    rw [mirI, if_pos rfl]
    exact grid_getD hi hk
  rw [e i k hi hk, e k i hk hi, Nat.max_comm, Nat.min_comm]
set_option maxHeartbeats 4000000 in
theorem ok4 (e1 e2 e3 e4 e5 : Bool) (N : Int) (x root f g h : List Int) (r z : Int) : Ok Try.prog 4 [caseV e1 e2 e3 e4 e5 N x root f g h r z] (tru true) := by
  have h914 := ok9 e1 e2 e3 e4 e5 N x root f g h r z
  refine ok_fn mixed Try.func4 (code := ?_) (h := h4) ?_ k4 ?_
  rotate_left
  · exact rfl
  unfold h4 initS
  simp -implicitDefEqProofs (maxSteps := 10000000) only [wp_reg, wp_seq, seqK_normal, opsK_at, ops_nil, ops_cons, op_plain, step_call, step_assign, step_load, step_box, opt_some, ev_tmp, ev_const, putT_some, st_tm, lk, upd, tov, stepA, valA, cellsOf, ldA, ldT, tovs, St.newBox, St.mapTV, TV.killPtr, PV.cells, PV.ok, PV.cell, Option.getD_some, Option.getD_none, Option.map_some, Option.bind_some, List.getElem?_cons_zero, List.getElem?_cons_succ, List.set_cons_zero, List.set_cons_succ, List.map_cons, List.map_nil, List.all_cons, List.all_nil, List.length_cons, List.length_nil, List.take_succ_cons, List.take_nil, List.drop_zero, List.cons_append, List.nil_append, List.toList_toArray, List.replicate_succ, List.replicate_zero, if_true, if_false, Bool.and_true, reduceCtorEq, and_self, Nat.zero_add, Nat.reduceAdd, Nat.reduceSub, Nat.le_refl, eq_self, Option.isNone_none, one_int, Try.ntmps4, Try.results4]
  refine call_fn rfl rfl rfl (h914) ?_
  cases hf : few9 N x root f g h r z with
  | false =>
    simp -implicitDefEqProofs (maxSteps := 10000000) only [wp_reg0, wp_seq, wp_cond, wpK_at, seqK_normal, opsK_at, ops_nil, ops_cons, op_plain, step_call, step_unOp, opt_some, gB_true, ev_tmp, putT_some, pv_eq, lk, tov, unA, bl, Option.getD_none, Option.map_some, Option.bind_some, List.getElem?_cons_zero, List.getElem?_cons_succ, List.set_cons_zero, List.set_cons_succ, if_false, Bool.not_false, reduceCtorEq, Nat.zero_add, Nat.reduceAdd]
    refine call_fn rfl rfl rfl (ok10) ?_
    simp -implicitDefEqProofs (maxSteps := 10000000) only [wp_ret, seqK_normal, seqK_ret, opsK_at, ops_nil, ops_cons, op_plain, step_assign, opt_some, ev_tmp, putT_some, lk, tov, stepA, valA, Option.getD_none, Option.map_some, Option.bind_some, List.getElem?_cons_zero, List.getElem?_cons_succ, List.set_cons_zero, List.set_cons_succ, Nat.reduceAdd, eq_self, RetQ_ret, resAll, res1, packR]
  | true =>
    obtain ⟨⟨n1, n2, lx, lh, r1, r2, z1, z2⟩, ⟨bx, bh, br, bf, bg⟩, lr, lf, lg⟩ := few9_spec hf
    obtain ⟨n, rfl⟩ := Int.eq_ofNat_of_zero_le (show 0 ≤ N by omega)
    have hn : 1 ≤ n ∧ n ≤ 3 := by omega
    have hn' : 1 ≤ n ∧ n ≤ 16 := by omega
    have cN : (n : Int) * (n : Int) = ((n * n : Nat) : Int) := by simp
    have lx' : x.length = n := by omega
    have lr' : root.length = n * n := by omega
    have lf' : f.length = n * n := by omega
    obtain ⟨p, lp, bp, mp, ep⟩ := sqF_whole hn lr' br
    have h915 := ok11 e1 e2 e3 e4 e5 n x root f g h r z hn lx' lr'
    rw [ep] at h915
    have hs := fun i k (hi : i < n) (hk : k < n) => first_sym hn' lp mp hi hk
    have hnn : n ≤ n * n := Nat.le_mul_of_pos_left n (by omega)
    have hsl : sliceA 1 (f.map num) e3 none (some n) none = some (.sl (exA none e3 n (f.map num).length) ((f.take n).map num)) := by
      unfold sliceA
      simp only [Option.getD_some, Option.getD_none]
      rw [if_pos ⟨by omega, by simp; omega, by simp, by simp [PV.cells]⟩]
      simp
    generalize exA none e3 n (f.map num).length = e3' at hsl
    have hn0 : (0 : Int) ≤ (n : Int) := by omega
    simp -implicitDefEqProofs (maxSteps := 10000000) only [wp_skip, wp_seq, wp_cond, wpK_at, seqK_normal, opsK_at, ops_nil, ops_cons, op_plain, step_call, step_load, step_fieldAddr, step_unOp, opt_some, gB_false, ev_tmp, putT_some, pv_eq, lk, tov, ldA, ldT, fieldAddrA, unA, bl, tovs, Option.getD_some, Option.getD_none, Option.map_some, Option.bind_some, List.getElem?_cons_zero, List.getElem?_cons_succ, List.set_cons_zero, List.set_cons_succ, List.map_nil, List.all_cons, List.all_nil, List.length_cons, List.length_nil, List.take_succ_cons, List.take_zero, List.drop_succ_cons, List.drop_zero, if_true, if_false, Bool.not_true, Bool.and_true, reduceCtorEq, true_and, Nat.zero_add, Nat.reduceAdd, Nat.reduceEqDiff, Nat.reduceLeDiff, Nat.reduceBNe, Bool.false_eq_true, wp_regd, opsC_cons, opsCK_at, dsL_nil, dsL_cons, dsC, allocX, paOk, inPa, nsC, nsL_nil, nsL_cons, nonPs, freeAll, St.freeB, TV.freeB, eq_self, Option.isNone_none]
    refine call_fn rfl rfl rfl (ok14 r 1) ?_
    simp -implicitDefEqProofs (maxSteps := 10000000) only [op_plain, step_call, step_load, step_fieldAddr, opt_some, ev_tmp, putT_some, lk, tov, ldA, ldT, fieldAddrA, tovs, Option.getD_some, Option.getD_none, Option.map_some, Option.bind_some, List.getElem?_cons_zero, List.getElem?_cons_succ, List.set_cons_zero, List.set_cons_succ, List.map_nil, List.all_cons, List.all_nil, List.length_cons, List.length_nil, List.take_succ_cons, List.take_nil, List.drop_succ_cons, List.drop_zero, if_true, if_false, Bool.and_true, reduceCtorEq, true_and, Nat.zero_add, Nat.reduceAdd, Nat.reduceEqDiff, Nat.le_refl, Nat.reduceBNe, Bool.false_eq_true, opsC_cons, opsCK_at, dsL_nil, dsL_cons, dsC, allocX, paOk, inPa, nsC, nsL_nil, nsL_cons, nonPs, freeAll, St.freeB, TV.freeB, eq_self, Option.isNone_none]
    refine call_fn rfl rfl rfl (ok14 z 1) ?_
    simp -implicitDefEqProofs (maxSteps := 10000000) only [wp_draw, wp_seq, seqK_normal, opsK_at, ops_cons, op_plain, step_call, step_load, step_fieldAddr, step_alloc, step_store, opt_some, ev_tmp, putT_some, putT_none, st_tm, lk, upd, tov, stepA, storeA, cellsOf, ldA, ldT, fieldAddrA, tovs, newToks, St.newBox, St.mapTV, TV.killPtr, zeroT, PV.cells, PV.ok, PV.cell, Option.getD_some, Option.getD_none, Option.map_some, Option.bind_some, List.getElem?_cons_zero, List.getElem?_cons_succ, List.set_cons_zero, List.set_cons_succ, List.map_cons, List.map_nil, List.foldl_nil, List.all_cons, List.all_nil, List.length_cons, List.length_nil, List.take_succ_cons, List.take_zero, List.drop_succ_cons, List.drop_zero, List.drop_nil, List.nil_append, List.append_nil, if_true, if_false, Bool.and_true, reduceCtorEq, true_and, and_self, Nat.zero_add, Nat.reduceAdd, Nat.reduceEqDiff, Nat.reduceLeDiff, Nat.reduceLT, Nat.le_refl, Nat.reduceBNe, Bool.false_eq_true, opsC_nil, opsC_cons, opsCK_at, dsL_nil, dsL_cons, dsC, allocX, paOk, inPa, nsC, nsL_nil, nsL_cons, nonPs, freeAll, St.freeB, TV.freeB, eq_self, Option.isNone_none, one_int, one_bool]
    refine call_fn rfl rfl rfl (ok12 e5 h (by omega)) ?_
    simp -implicitDefEqProofs (maxSteps := 10000000) only [hsl, hn0, Int.toNat_natCast, opsK_at, ops_cons, op_plain, step_call, step_load, step_fieldAddr, step_slice, opt_some, ev_tmp, putT_some, pv_eq, lk, tov, valA, ldA, ldT, fieldAddrA, tovs, bndA, Option.getD_some, Option.getD_none, Option.map_some, Option.map_none, Option.bind_some, List.getElem?_cons_zero, List.getElem?_cons_succ, List.set_cons_zero, List.set_cons_succ, List.length_cons, List.length_nil, List.take_succ_cons, List.take_zero, List.drop_succ_cons, List.drop_zero, if_true, if_false, reduceCtorEq, Nat.zero_add, Nat.reduceAdd, Nat.reduceEqDiff, Nat.reduceLeDiff, Bool.false_eq_true, eq_self]
    refine call_fn rfl rfl rfl (ok12 e3' (f.take n) (by simp; omega)) ?_
    simp -implicitDefEqProofs (maxSteps := 10000000) only [wp_seq, seqK_normal, opsK_at, ops_nil, ops_cons, op_plain, step_call, step_assign, step_load, opt_some, ev_tmp, putT_some, lk, tov, stepA, valA, ldA, ldT, tovs, Option.getD_some, Option.getD_none, Option.map_some, Option.bind_some, List.getElem?_cons_zero, List.getElem?_cons_succ, List.set_cons_zero, List.set_cons_succ, List.map_cons, List.map_nil, List.all_cons, List.all_nil, List.length_cons, List.length_nil, List.take_succ_cons, List.take_nil, List.drop_zero, if_true, if_false, Bool.and_true, reduceCtorEq, true_and, Nat.zero_add, Nat.reduceAdd, Nat.reduceEqDiff, Nat.le_refl, Nat.reduceBNe, Bool.false_eq_true, wp_regd, opsC_cons, opsCK_at, dsL_nil, dsL_cons, dsC, allocX, paOk, inPa, nsC, nsL_nil, nsL_cons, nonPs, freeAll, St.freeB, TV.freeB, eq_self, Option.isNone_none]
    refine call_fn rfl rfl rfl (h915) ?_
    simp -implicitDefEqProofs (maxSteps := 10000000) only [op_plain, step_call, step_move, step_load, opt_some, ev_tmp, putT_some, lk, tov, ldA, ldT, tovs, Option.getD_some, Option.getD_none, Option.map_some, Option.bind_some, List.getElem?_cons_zero, List.getElem?_cons_succ, List.set_cons_zero, List.set_cons_succ, List.map_cons, List.map_nil, List.all_cons, List.all_nil, List.length_cons, List.length_nil, List.take_succ_cons, List.take_nil, List.drop_zero, if_true, if_false, Bool.and_true, reduceCtorEq, true_and, Nat.zero_add, Nat.reduceAdd, Nat.reduceEqDiff, Nat.le_refl, Nat.reduceBNe, Bool.false_eq_true, opsC_cons, opsCK_at, dsL_nil, dsL_cons, dsC, allocX, paOk, inPa, nsC, nsL_nil, nsL_cons, nonPs, freeAll, St.freeB, TV.freeB, eq_self, Option.isNone_none]
    have lX : (x.map (newF · 1)).length = n := by rw [List.length_map, lx']
    have lP : (p.map (newF · 1)).length = n * n := by rw [List.length_map, lp]
    have lG : (h.map (newF · 1)).length = n := by rw [List.length_map]; omega
    have lH : ((f.take n).map (newF · 1)).length = n := by rw [List.length_map, List.length_take]; omega
    generalize x.map (newF · 1) = X at *
    generalize p.map (newF · 1) = P at *
    generalize h.map (newF · 1) = G at *
    generalize (f.take n).map (newF · 1) = H at *
    generalize newF r 1 = R at *
    generalize newF z 1 = Z at *
    have hn4 : 1 ≤ n ∧ n ≤ 4 := by omega
    have lxx : ∀ (x p h : List Fr) (r z : Fr), x.length = n → (upX n x p h r z).length = n := fun x p h r z hx => by
      rw [upX, List.length_zipWith, List.length_map, kF_len, hx, Nat.min_self]
    refine call_fn rfl rfl rfl (ok13 false false false n X P G R Z hn4 lX lP lG) ?_
    simp -implicitDefEqProofs (maxSteps := 10000000) only [wp_reg, wp_seq, seqK_normal, opsK_at, ops_cons, op_plain, step_call, step_move, step_assign, step_load, step_extract, step_alloc, step_store, opt_some, ev_tmp, putT_some, putT_none, pv_eq, st_tm, lk, upd, tov, stepA, valA, storeA, cellsOf, ldA, ldT, tovs, newToks, St.newBox, St.newTok, St.mapTV, TV.killPtr, TV.killTok, zeroT, PV.cells, PV.ok, PV.cell, Option.getD_some, Option.getD_none, Option.map_some, Option.bind_some, List.getElem?_cons_zero, List.getElem?_cons_succ, List.set_cons_zero, List.set_cons_succ, List.map_cons, List.map_nil, List.foldl_cons, List.foldl_nil, List.all_cons, List.all_nil, List.length_cons, List.length_nil, List.take_succ_cons, List.take_zero, List.take_nil, List.drop_succ_cons, List.drop_zero, List.drop_nil, List.nil_append, List.append_nil, if_true, if_false, Bool.not_false, Bool.and_true, reduceCtorEq, true_and, and_self, Nat.zero_add, Nat.reduceAdd, Nat.reduceEqDiff, Nat.reduceLT, Nat.le_refl, Nat.reduceBNe, Bool.false_eq_true, opsC_nil, opsC_cons, opsCK_at, dsL_nil, dsL_cons, dsC, allocX, paOk, inPa, nsC, nsL_nil, nsL_cons, nonPs, freeAll, St.freeB, TV.freeB, eq_self, List.contains_nil, Option.isNone_none, one_int, one_bool]
    refine call_fn rfl rfl rfl (ok13 false false false n (upX n X P G R Z) (upP n P G R) H R Z hn4 (lxx _ _ _ _ _ lX) (up_len _ _ _ _) lH) ?_
    simp -implicitDefEqProofs (maxSteps := 10000000) only [wp_seq, seqK_normal, opsK_at, ops_nil, ops_cons, op_plain, step_call, step_move, step_assign, step_load, step_extract, step_alloc, step_store, opt_some, ev_tmp, putT_some, putT_none, pv_eq, st_tm, lk, upd, tov, stepA, valA, storeA, cellsOf, ldA, ldT, tovs, newToks, St.newBox, St.newTok, St.mapTV, TV.killPtr, TV.killTok, zeroT, PV.cells, PV.ok, PV.cell, Option.getD_some, Option.getD_none, Option.map_some, Option.bind_some, List.getElem?_cons_zero, List.getElem?_cons_succ, List.set_cons_zero, List.set_cons_succ, List.map_cons, List.map_nil, List.foldl_cons, List.foldl_nil, List.all_cons, List.all_nil, List.length_cons, List.length_nil, List.take_succ_cons, List.take_zero, List.take_nil, List.drop_succ_cons, List.drop_zero, List.drop_nil, List.nil_append, List.append_nil, if_true, if_false, Bool.and_true, reduceCtorEq, true_and, and_self, Nat.zero_add, Nat.reduceAdd, Nat.reduceEqDiff, Nat.reduceLT, Nat.le_refl, Nat.reduceBNe, Bool.false_eq_true, wp_regd, opsC_cons, opsCK_at, dsL_nil, dsL_cons, dsC, allocX, paOk, inPa, nsC, nsL_nil, nsL_cons, nonPs, freeAll, St.freeB, TV.freeB, eq_self, Option.isNone_none, one_int, one_bool]
    refine call_fn rfl rfl rfl (h915) ?_
    simp -implicitDefEqProofs (maxSteps := 10000000) only [op_plain, step_call, step_move, step_load, opt_some, ev_tmp, putT_some, lk, tov, ldA, ldT, tovs, Option.getD_some, Option.getD_none, Option.map_some, Option.bind_some, List.getElem?_cons_zero, List.getElem?_cons_succ, List.set_cons_zero, List.set_cons_succ, List.map_cons, List.map_nil, List.all_cons, List.all_nil, List.length_cons, List.length_nil, List.take_succ_cons, List.take_nil, List.drop_zero, if_true, if_false, Bool.and_true, reduceCtorEq, true_and, Nat.zero_add, Nat.reduceAdd, Nat.reduceEqDiff, Nat.le_refl, Nat.reduceBNe, Bool.false_eq_true, opsC_cons, opsCK_at, dsL_nil, dsL_cons, dsC, allocX, paOk, inPa, nsC, nsL_nil, nsL_cons, nonPs, freeAll, St.freeB, TV.freeB, eq_self, Option.isNone_none]
    refine call_fn rfl rfl rfl (ok13 false false false n X P H R Z hn4 lX lP lH) ?_
    simp -implicitDefEqProofs (maxSteps := 10000000) only [wp_reg, wp_seq, seqK_normal, opsK_at, ops_cons, op_plain, step_call, step_move, step_assign, step_load, step_extract, step_alloc, step_store, opt_some, ev_tmp, putT_some, putT_none, pv_eq, st_tm, lk, upd, tov, stepA, valA, storeA, cellsOf, ldA, ldT, tovs, newToks, St.newBox, St.newTok, St.mapTV, TV.killPtr, TV.killTok, zeroT, PV.cells, PV.ok, PV.cell, Option.getD_some, Option.getD_none, Option.map_some, Option.bind_some, List.getElem?_cons_zero, List.getElem?_cons_succ, List.set_cons_zero, List.set_cons_succ, List.map_cons, List.map_nil, List.foldl_cons, List.foldl_nil, List.all_cons, List.all_nil, List.length_cons, List.length_nil, List.take_succ_cons, List.take_zero, List.take_nil, List.drop_succ_cons, List.drop_zero, List.drop_nil, List.nil_append, List.append_nil, if_true, if_false, Bool.not_false, Bool.and_true, reduceCtorEq, true_and, and_self, Nat.zero_add, Nat.reduceAdd, Nat.reduceEqDiff, Nat.reduceLT, Nat.le_refl, Nat.reduceBNe, Bool.false_eq_true, opsC_nil, opsC_cons, opsCK_at, dsL_nil, dsL_cons, dsC, allocX, paOk, inPa, nsC, nsL_nil, nsL_cons, nonPs, freeAll, St.freeB, TV.freeB, eq_self, List.contains_nil, Option.isNone_none, one_int, one_bool]
    refine call_fn rfl rfl rfl (ok13 false false false n (upX n X P H R Z) (upP n P H R) G R Z hn4 (lxx _ _ _ _ _ lX) (up_len _ _ _ _) lG) ?_
    simp -implicitDefEqProofs (maxSteps := 10000000) only [wp_reg, wp_seq, wp_cond, execK_at, seqK_normal, opsK_at, ops_nil, ops_cons, op_plain, op_guardn, slotAt_zero, slotAt_succ, step_builtin, step_move, step_assign, step_pick, step_load, step_fieldAddr, step_binOp, step_unOp, step_extract, step_alloc, step_store, opt_some, gB_false, ev_tmp, ev_const, putT_some, putT_none, pv_eq, st_tm, lk, upd, tov, stepA, valA, storeA, cellsOf, ldA, ldT, fieldAddrA, lenA, unA, bl, binA, num2, binV, tovs, newToks, St.newBox, St.newTok, St.mapTV, TV.killPtr, TV.killTok, zeroT, PV.cells, PV.ok, PV.cell, Option.getD_some, Option.getD_none, Option.map_some, Option.bind_some, List.getElem?_cons_zero, List.getElem?_cons_succ, List.set_cons_zero, List.set_cons_succ, List.map_cons, List.map_nil, List.foldl_cons, List.foldl_nil, List.all_cons, List.all_nil, List.length_cons, List.length_nil, List.take_succ_cons, List.take_zero, List.take_nil, List.drop_succ_cons, List.drop_zero, List.drop_nil, List.nil_append, List.append_nil, if_true, if_false, Bool.not_true, Bool.and_true, reduceCtorEq, and_self, Nat.zero_add, Nat.reduceAdd, Nat.reduceEqDiff, Nat.reduceLT, Nat.le_refl, Nat.reduceBEq, Bool.false_eq_true, eq_self, Option.isNone_none, one_int, one_bool]
    have l1 : (upP n (upP n P G R) H R).length = n * n := up_len _ _ _ _
    have l2 : (upP n (upP n P H R) G R).length = n * n := up_len _ _ _ _
    have l1' : (frs (upP n (upP n P G R) H R)).length = n * n := by simp [l1]
    have l2' : (frs (upP n (upP n P H R) G R)).length = n * n := by simp [l2]
    simp -implicitDefEqProofs (maxSteps := 10000000) only [l1', l2', bne_self_eq_false, wp_skip, wp_reg, wp_seq, wp_block, wpK_at, seqK_normal, opsK_at, ops_nil, ops_cons, op_plain, step_builtin, step_move, step_load, step_fieldAddr, opt_some, gB_false, ev_tmp, ev_const, putT_some, pv_eq, lk, tov, stepA, valA, ldA, ldT, fieldAddrA, lenA, tovs, Option.getD_some, Option.getD_none, Option.map_some, Option.bind_some, List.getElem?_cons_zero, List.getElem?_cons_succ, List.set_cons_zero, List.set_cons_succ, List.length_cons, List.length_nil, List.take_succ_cons, List.take_nil, List.drop_succ_cons, List.drop_zero, if_true, if_false, reduceCtorEq, Nat.zero_add, Nat.reduceAdd, Nat.reduceEqDiff, Nat.le_refl, Bool.false_eq_true, eq_self]
    have hsame : ∀ i, i < n * n → ((upP n (upP n P G R) H R).getD i dz).bad = false → ((upP n (upP n P H R) G R).getD i dz).bad = false → (upP n (upP n P G R) H R).getD i dz = (upP n (upP n P H R) G R).getD i dz := fun i hi ha hb => by
      have h1 : i / n < n := Nat.div_lt_of_lt_mul hi
      have h2 : i % n < n := Nat.mod_lt _ (by omega)
      have h3 : i / n * n + i % n = i := by rw [Nat.mul_comm]; exact Nat.div_add_mod i n
      rw [← h3] at ha hb ⊢
      exact up_two hn' lP lG lH hs h1 h2 ha hb
    generalize upP n (upP n P G R) H R = A at *
    generalize upP n (upP n P H R) G R = B at *
    generalize upX n (upX n X P G R Z) (upP n P G R) H R Z = XA at *
    generalize upX n (upX n X P H R Z) (upP n P H R) G R Z = XB at *
    have hnn9 : n * n ≤ 9 := by
      rcases three hn with rfl | rfl | rfl <;> decide
    refine wp_loop (fun m s => ∃ i : Nat, i + m = n * n ∧ s = ⟨[jk, jk, jk, jk, jk, jk, jk, jk, jk, jk, .ptr 10 0, jk, jk, jk, jk, jk, .ptr 16 0, jk, jk, jk, jk, jk, jk, jk, jk, jk, jk, jk, jk, jk, jk, jk, jk, jk, jk, jk, jk, jk, jk, jk, jk, jk, jk, jk, jk, jk, jk, jk, jk, jk, jk, jk, jk, jk, jk, jk, jk, jk, jk, jk, jk, jk, jk, jk, jk, jk, jk, jk, jk, jk, jk, jk, jk, jk, jk, jk, jk, jk, jk, jk, jk, jk, jk, jk, jk, jk, jk, jk, jk, jk, jk, jk, jk, jk, jk, jk, jk, jk, jk, nt ((n * n : Nat) : Int), nt i, jk, jk, jk, jk, jk, jk, jk, jk, jk, jk, jk, jk, jk, jk, jk, jk, jk, jk, jk, jk, jk, jk, jk, jk, jk, jk, jk, jk, jk],
      [(10, [.v (.sl false (frs XA)), .v (num n), .v (num n), .v (.sl false (frs A))]), (16, [.v (.sl false (frs XB)), .v (num n), .v (num n), .v (.sl false (frs B))])], [], [(1007, 0), (1010, 0), (1013, 0), (1016, 0), (4007, 0), (4010, 0), (4013, 0), (4016, 0)], [], 0⟩) (n * n) ?_ ?_
    · simp -implicitDefEqProofs (maxSteps := 10000000) only [opt_some, rm, ghs, gh1, junkAll, rmAll, Option.bind_some, List.set_cons_zero, List.set_cons_succ, if_true, if_false, Nat.reduceEqDiff, eq_self]
      exact ⟨0, by simp, rfl⟩
    rintro m s' ⟨i, hi, rfl⟩
    simp -implicitDefEqProofs (maxSteps := 10000000) only [wp_reg0, wp_seq, wp_cond, seqK_normal, opsK_at, ops_nil, ops_cons, op_plain, step_binOp, opt_some, ev_tmp, putT_some, lk, valA, binA, num2, binV, Option.getD_none, Option.map_some, List.getElem?_cons_zero, List.getElem?_cons_succ, List.set_cons_zero, List.set_cons_succ, if_true, Nat.zero_add, Nat.reduceBEq, eq_self]
    refine gB_dec ?_ ?_ <;> intro hc <;> simp -implicitDefEqProofs (maxSteps := 10000000) only [hc, wp_skip, wp_reg0, wp_seq, wp_block, wp_exit, wpK_at, seqK_normal, seqK_exit, blockK_exit, loopK_exit, opsK_at, ops_nil, ops_cons, op_plain, step_call, step_move, step_assign, step_load, step_fieldAddr, step_indexAddr, opt_some, ev_tmp, putT_some, pv_eq, lk, tov, stepA, valA, ldA, ldT, fieldAddrA, idxAddrA, idxA, tovs, PV.cells, Option.getD_some, Option.getD_none, Option.map_some, Option.bind_some, List.getElem?_cons_zero, List.getElem?_cons_succ, List.set_cons_zero, List.set_cons_succ, List.map_nil, List.all_cons, List.all_nil, List.length_cons, List.length_nil, List.take_succ_cons, List.take_nil, List.drop_succ_cons, List.drop_zero, if_true, if_false, Bool.and_true, reduceCtorEq, true_and, Nat.zero_add, Nat.reduceAdd, Nat.reduceEqDiff, Nat.le_refl, Nat.reduceBEq, Nat.reduceBNe, Bool.false_eq_true, decide_true, decide_false, wp_regd, opsC_cons, opsCK_at, dsL_nil, dsL_cons, dsC, allocX, paOk, inPa, nsC, nsL_nil, nsL_cons, nptr, nonPs, freeAll, St.freeB, TV.freeB, eq_self, Bool.or_false, Bool.or_true, Option.isNone_none]
    · have hlt : i < n * n := by omega
      have h0 : (0 : Int) ≤ (i : Int) := by omega
      have hga : (frs A)[i]? = some (frV (A.getD i dz)) := by rw [frs, List.getElem?_map, List.getD_eq_getElem?_getD, List.getElem?_eq_getElem (by omega)]; rfl
      have hgb : (frs B)[i]? = some (frV (B.getD i dz)) := by rw [frs, List.getElem?_map, List.getD_eq_getElem?_getD, List.getElem?_eq_getElem (by omega)]; rfl
      have hw := wrapped (x := (i : Int) + 1) (by omega) (by omega)
      have hab := hsame i hlt
      generalize A.getD i dz = a at *
      generalize B.getD i dz = b at *
      simp -implicitDefEqProofs (maxSteps := 10000000) only [h0, Int.toNat_natCast, hga, hgb, wp_reg, wp_seq, seqK_normal, opsK_at, ops_cons, op_plain, op_guard, slotAt_zero, slotAt_succ, step_move, step_load, step_fieldAddr, step_indexAddr, step_unOp, step_alloc, step_store, opt_some, ev_tmp, putT_some, putT_none, pv_eq, st_tm, lk, upd, tov, stepA, valA, storeA, cellsOf, ldA, ldC, ldT, fieldAddrA, idxAddrA, idxA, unA, bl, tovs, newToks, St.newBox, St.mapTV, TV.killPtr, zeroT, PV.cells, PV.ok, PV.cell, Option.getD_some, Option.getD_none, Option.map_some, Option.bind_some, List.getElem?_cons_zero, List.getElem?_cons_succ, List.set_cons_zero, List.set_cons_succ, List.map_cons, List.map_nil, List.foldl_nil, List.all_cons, List.all_nil, List.length_cons, List.length_nil, List.take_succ_cons, List.take_zero, List.take_nil, List.drop_succ_cons, List.drop_zero, List.drop_nil, List.nil_append, List.append_nil, if_true, if_false, Bool.and_true, reduceCtorEq, true_and, and_self, Nat.zero_add, Nat.reduceAdd, Nat.reduceEqDiff, Nat.reduceLT, Nat.le_refl, Nat.reduceBEq, Nat.reduceBNe, Bool.false_eq_true, opsC_nil, opsC_cons, opsCK_at, dsL_nil, dsL_cons, dsC, allocX, paOk, inPa, nsC, nsL_nil, nsL_cons, nptr, nonPs, freeAll, St.freeB, TV.freeB, eq_self, Bool.or_false, Bool.or_true, Option.isNone_none, one_int, one_bool]
      have fin : ∀ {x : Nat}, x = i + 1 → x + (m - 1) = n * n := fun h => by omega
      cases ha : a.bad with
      | true =>
        simp -implicitDefEqProofs (maxSteps := 10000000) only [wp_skip, wp_reg0, wp_cond, wpK_at, junkK_at, seqK_normal, blockK_normal, opsK_at, ops_nil, ops_cons, op_plain, op_guard, slotAt_zero, slotAt_succ, step_move, step_pick, step_binOp, opt_some, gB_false, ev_tmp, ev_const, putT_some, pv_eq, lk, tov, valA, binA, num2, binV, Option.getD_some, Option.getD_none, Option.map_some, Option.bind_some, List.getElem?_cons_zero, List.getElem?_cons_succ, List.set_cons_zero, List.set_cons_succ, if_true, if_false, Bool.not_true, reduceCtorEq, Nat.zero_add, Nat.reduceAdd, Nat.reduceEqDiff, Nat.reduceBEq, Bool.false_eq_true, eq_self]
        simp -implicitDefEqProofs (maxSteps := 10000000) only [hw]
        refine loopK_of (m' := m - 1) (by omega) ?_
        simp -implicitDefEqProofs (maxSteps := 10000000) only [opt_some, rm, ghs, gh1, junkAll, rmAll, Option.bind_some, List.set_cons_zero, List.set_cons_succ, if_true, if_false, Nat.reduceEqDiff, eq_self]
        exact ⟨i + 1, by omega, by simp only [Int.natCast_add, Int.natCast_one]⟩
      | false =>
        cases hb : b.bad with
        | true =>
          simp -implicitDefEqProofs (maxSteps := 10000000) only [wp_skip, wp_reg0, wp_cond, wpK_at, execK_at, junkK_at, seqK_normal, blockK_normal, opsK_at, ops_nil, ops_cons, op_plain, op_guard, slotAt_zero, slotAt_succ, step_move, step_pick, step_load, step_fieldAddr, step_binOp, step_unOp, opt_some, gB_true, gB_false, ev_tmp, ev_const, putT_some, pv_eq, lk, tov, valA, ldA, ldT, fieldAddrA, unA, bl, binA, num2, binV, tovs, Option.getD_some, Option.getD_none, Option.map_some, Option.bind_some, List.getElem?_cons_zero, List.getElem?_cons_succ, List.set_cons_zero, List.set_cons_succ, List.length_cons, List.length_nil, List.take_succ_cons, List.take_nil, List.drop_succ_cons, List.drop_zero, if_true, if_false, Bool.not_true, Bool.not_false, reduceCtorEq, Nat.zero_add, Nat.reduceAdd, Nat.reduceEqDiff, Nat.le_refl, Nat.reduceBEq, Bool.false_eq_true, eq_self]
          simp -implicitDefEqProofs (maxSteps := 10000000) only [hw]
          refine loopK_of (m' := m - 1) (by omega) ?_
          simp -implicitDefEqProofs (maxSteps := 10000000) only [opt_some, rm, ghs, gh1, junkAll, rmAll, Option.bind_some, List.set_cons_zero, List.set_cons_succ, if_true, if_false, Nat.reduceEqDiff, eq_self]
          exact ⟨i + 1, by omega, by simp only [Int.natCast_add, Int.natCast_one]⟩
        | false =>
          have e := hab ha hb
          subst e
          simp -implicitDefEqProofs (maxSteps := 10000000) only [eq_fr3, wp_skip, wp_reg0, wp_cond, wpK_at, execK_at, seqK_normal, blockK_normal, opsK_at, ops_nil, ops_cons, op_plain, op_guard, slotAt_zero, slotAt_succ, step_move, step_pick, step_load, step_fieldAddr, step_binOp, step_unOp, opt_some, gB_true, gB_false, ev_tmp, ev_const, putT_some, pv_eq, lk, tov, valA, ldA, ldT, fieldAddrA, unA, bl, binA, num2, binV, eqA, tovs, Option.getD_some, Option.getD_none, Option.map_some, Option.bind_some, List.getElem?_cons_zero, List.getElem?_cons_succ, List.set_cons_zero, List.set_cons_succ, List.length_cons, List.length_nil, List.take_succ_cons, List.take_nil, List.drop_succ_cons, List.drop_zero, if_true, if_false, Bool.not_true, Bool.not_false, reduceCtorEq, Nat.zero_add, Nat.reduceAdd, Nat.reduceEqDiff, Nat.le_refl, Nat.reduceBEq, Bool.false_eq_true, eq_self]
          simp -implicitDefEqProofs (maxSteps := 10000000) only [hw]
          refine loopK_of (m' := m - 1) (by omega) ?_
          simp -implicitDefEqProofs (maxSteps := 10000000) only [opt_some, rm, ghs, gh1, junkAll, rmAll, Option.bind_some, List.set_cons_zero, List.set_cons_succ, if_true, if_false, Nat.reduceEqDiff, eq_self]
          exact ⟨i + 1, by omega, by simp only [Int.natCast_add, Int.natCast_one]⟩
    · refine call_fn rfl rfl rfl (ok10) ?_
      simp -implicitDefEqProofs (maxSteps := 10000000) only [wp_ret, seqK_normal, opsK_at, ops_nil, ops_cons, op_plain, step_assign, opt_some, ev_tmp, putT_some, lk, tov, stepA, valA, Option.getD_none, Option.map_some, Option.bind_some, List.getElem?_cons_zero, List.getElem?_cons_succ, List.set_cons_zero, List.set_cons_succ, Nat.reduceAdd, eq_self, RetQ_ret, resAll, res1, packR]
theorem JosephTwo_ok {xs : List PV} (h : FitL caseSh xs) : Ok Try.prog 4 [.agg xs] (tru true) := by
  obtain ⟨N, x, root, f, g, h, r, z, e⟩ := case_fit h
  rw [e]
  exact ok4 _ _ _ _ _ _ _ _ _ _ _ _ _
end Go.Proofs.Ytadfcbpakfaaaaa.A
