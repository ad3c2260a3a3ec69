import Derived.Test.YtadfcbpakfaaaaaT20
set_option linter.unusedVariables false
set_option linter.unusedSimpArgs false
set_option maxRecDepth 100000
namespace Go.Proofs.Ytadfcbpakfaaaaa.A
open Go Go.RowKit Go.Shelf

/-! ### Division -/
theorem methDiv : Meth Try.prog 35 "Div" 20 := by
  intro v xs w
  rfl

def divF (a b : Fr) : Fr := if a.fine = false ∨ b.fine = false then .wrong else newF (a.n * b.d) (a.d * b.n)
theorem ok63 (a b : Fr) (ha : a.fine = true) (hb : b.fine = true) : Ok Try.prog 63 [.vp [num a.n, num a.d, tru a.bad], .vp [num b.n, num b.d, tru b.bad]] (.tup [num (a.n * b.d), num (a.d * b.n)]) := by
  obtain ⟨a1, a2, a3, a4, a5⟩ := Fr.fine_spec ha
  obtain ⟨b1, b2, b3, b4, b5⟩ := Fr.fine_spec hb
  have p1 := prod_le (x := a.n) (y := b.d) ⟨a5, a4⟩ (by omega)
  have p3 := prod_le (x := a.d) (y := b.n) (by omega) ⟨b5, b4⟩
  have w1 := wrapped (x := a.n * b.d) (by omega) (by omega)
  have w3 := wrapped (x := a.d * b.n) (by omega) (by omega)
  refine ok_fn mixed Try.func63 (code := ?_) (h := h63) ?_ k63 ?_
  rotate_left
  · exact rfl
  unfold h63 initS
  simp -implicitDefEqProofs only [wp_reg0, wp_draw, wp_seq, wp_ret, seqK_normal, opsK_at, ops_nil, ops_cons, op_plain, step_assign, step_load, step_fieldAddr, step_binOp, opt_some, ev_tmp, ev_const, putT_some, lk, tov, stepA, valA, ldA, ldC, fieldAddrA, binA, num2, binV, Option.getD_some, Option.getD_none, Option.map_some, Option.bind_some, List.getElem?_cons_zero, List.getElem?_cons_succ, List.set_cons_zero, List.set_cons_succ, List.map_cons, List.map_nil, List.length_cons, List.length_nil, List.take_succ_cons, List.take_zero, List.drop_succ_cons, List.drop_zero, List.cons_append, List.nil_append, List.toList_toArray, List.replicate_succ, List.replicate_zero, if_true, if_false, reduceCtorEq, Nat.zero_add, Nat.reduceAdd, Nat.reduceSub, Nat.reduceEqDiff, Nat.reduceLeDiff, Nat.reduceBEq, Bool.false_eq_true, eq_self, RetQ_ret, resAll, res1, packR, Option.some.injEq, Try.ntmps63, Try.results63]
  simp -implicitDefEqProofs only [w1, w3, eq_self]
theorem ok20 (a b : Fr) : Ok Try.prog 20 [frV a, frV b] (frV (divF a b)) := by
  refine ok_fn mixed Try.func20 (code := ?_) (h := h20) ?_ k20 ?_
  rotate_left
  · exact rfl
  unfold h20 initS
  simp -implicitDefEqProofs only [wp_reg, wp_seq, wp_gh, wpK_at, seqK_normal, opsK_at, ops_nil, ops_cons, op_plain, step_call, step_load, step_func, step_alloc, step_box, opt_some, ev_tmp, putT_some, st_tm, lk, rm, upd, tov, stepA, valA, cellsOf, ldA, ldC, tovs, capsA, capA, newToks, St.freeze, St.newBox, St.mapTV, TV.killPtr, zeroT, PV.cells, PV.ok, PV.cell, ghs, gh1, Option.getD_some, Option.getD_none, Option.map_some, Option.bind_some, List.getElem?_cons_zero, List.getElem?_cons_succ, List.set_cons_zero, List.set_cons_succ, List.map_cons, List.map_nil, List.foldl_nil, List.all_cons, List.all_nil, List.length_cons, List.length_nil, List.take_succ_cons, List.take_nil, List.drop_zero, List.cons_append, List.nil_append, List.isEmpty_nil, List.toList_toArray, List.replicate_succ, List.replicate_zero, if_true, if_false, Bool.and_true, reduceCtorEq, and_self, Nat.zero_add, Nat.reduceAdd, Nat.reduceSub, Nat.reduceEqDiff, Nat.reduceLeDiff, Nat.reduceLT, Nat.le_refl, eq_self, Option.isNone_none, one_int, one_bool, Try.ntmps20, Try.results20]
  refine call_fn rfl rfl rfl (ok61 a b 63 _ _ _ (fun ha hb => ok63 a b ha hb)) ?_
  simp -implicitDefEqProofs only [wp_ret, seqK_normal, opsK_at, ops_nil, ops_cons, op_plain, step_store, opt_some, ev_tmp, putT_some, putT_none, lk, upd, tov, stepA, storeA, cellsOf, ldA, ldT, tovs, PV.cells, PV.ok, PV.cell, Option.getD_some, Option.map_some, Option.bind_some, List.getElem?_cons_zero, List.getElem?_cons_succ, List.set_cons_zero, List.set_cons_succ, List.map_cons, List.map_nil, List.all_cons, List.all_nil, List.length_cons, List.length_nil, List.take_succ_cons, List.take_zero, List.take_nil, List.drop_succ_cons, List.drop_zero, List.drop_nil, List.nil_append, List.append_nil, if_true, if_false, Bool.and_true, reduceCtorEq, and_self, Nat.zero_add, Nat.reduceAdd, Nat.reduceEqDiff, Nat.reduceLT, Nat.le_refl, eq_self, one_int, one_bool, RetQ_ret, resAll, res1, packR, Option.some.injEq]
  simp [divF]

/-! ### A row, scaled -/
theorem ok49 (ex : Bool) (l : List Fr) (y : Fr) (h : l.length ≤ 5864062014805) : Ok Try.prog 49 [.sl ex (frs l), frV y] (.sl false (frs (l.map (mulF · y)))) := by
  refine ok_fn mixed Try.func49 (code := ?_) (h := h49) ?_ k49 ?_
  rotate_left
  · exact rfl
  unfold h49 initS
  simp -implicitDefEqProofs only [wp_reg0, wp_reg, wp_seq, wp_block, seqK_normal, opsK_at, ops_nil, ops_cons, op_plain, step_builtin, step_move, step_assign, step_box, opt_some, ev_tmp, ev_const, putT_some, pv_eq, st_tm, lk, upd, tov, stepA, valA, cellsOf, lenA, St.newBox, St.newTok, St.mapTV, TV.killPtr, TV.killTok, PV.cells, PV.ok, PV.cell, Option.getD_some, Option.getD_none, Option.map_some, Option.bind_some, List.getElem?_cons_zero, List.getElem?_cons_succ, List.set_cons_zero, List.set_cons_succ, List.map_cons, List.map_nil, List.all_cons, List.all_nil, List.length_cons, List.length_nil, List.cons_append, List.nil_append, List.toList_toArray, List.replicate_succ, List.replicate_zero, if_true, if_false, Bool.and_true, reduceCtorEq, and_self, Nat.zero_add, Nat.reduceAdd, Nat.reduceSub, Nat.reduceEqDiff, Nat.reduceLT, eq_self, Option.isNone_none, one_int, one_bool, Try.ntmps49, Try.results49]
  refine wp_loop (fun m s => ∃ i : Nat, i + m = l.length ∧ s = ⟨[jk, jk, jk, .ptr 3 0, jk, .acc 5 (frs ((l.take i).map (mulF · y))), jk, jk, .v (.sl ex (frs l)), nt (frs l).length, nt i, jk, jk, jk, jk, jk, jk, jk, jk, jk, jk, jk, jk], [(3, [nt y.n, nt y.d, .v (tru y.bad)])], [], [(4, 0), (5, i)], [], 0⟩) l.length ?_ ?_
  · simp -implicitDefEqProofs only [opt_some, rm, ghs, gh1, junkAll, rmAll, Option.bind_some, List.set_cons_zero, List.set_cons_succ, if_false, Nat.reduceEqDiff]
    exact ⟨0, by simp, rfl⟩
  rintro m s ⟨i, hi, rfl⟩
  simp -implicitDefEqProofs only [wp_reg0, wp_seq, wp_cond, seqK_normal, opsK_at, ops_nil, ops_cons, op_plain, step_binOp, opt_some, ev_tmp, putT_some, lk, valA, binA, num2, binV, Option.getD_none, Option.map_some, List.getElem?_cons_zero, List.getElem?_cons_succ, List.set_cons_zero, List.set_cons_succ, if_true, Nat.zero_add, Nat.reduceBEq, eq_self]
  refine gB_dec ?_ ?_ <;> intro hc <;> simp -implicitDefEqProofs only [hc, wp_skip, wp_reg0, wp_reg, wp_seq, wp_block, wp_exit, wp_ret, wpK_at, seqK_normal, seqK_exit, blockK_exit, loopK_exit, opsK_at, ops_nil, ops_cons, op_plain, step_move, step_assign, step_indexAddr, opt_some, ev_tmp, putT_some, pv_eq, lk, tov, stepA, valA, idxAddrA, idxA, PV.cells, Option.getD_some, Option.getD_none, Option.map_some, Option.bind_some, List.getElem?_cons_zero, List.getElem?_cons_succ, List.set_cons_zero, List.set_cons_succ, if_true, if_false, reduceCtorEq, Nat.zero_add, Nat.reduceAdd, decide_true, decide_false, eq_self, RetQ_ret, resAll, res1, packR, Option.some.injEq]
  · have hlt : i < l.length := by simpa using hc
    have h0 : (0 : Int) ≤ (i : Int) := by omega
    have hg : (frs l)[i]? = some (frV l[i]) := by simp [hlt]
    simp -implicitDefEqProofs only [h0, Int.toNat_natCast, hg, wp_reg, seqK_normal, opsK_at, ops_nil, ops_cons, op_plain, step_invoke, step_move, step_load, step_iface, step_alloc, step_store, opt_some, ev_tmp, putT_some, putT_none, pv_eq, st_tm, lk, upd, tov, stepA, valA, storeA, cellsOf, ldA, ldC, ldT, tovs, newToks, St.newBox, St.mapTV, TV.killPtr, zeroT, PV.cells, PV.ok, PV.cell, Option.getD_some, Option.getD_none, Option.map_some, Option.bind_some, List.getElem?_cons_zero, List.getElem?_cons_succ, List.set_cons_zero, List.set_cons_succ, List.map_cons, List.map_nil, List.foldl_nil, List.all_cons, List.all_nil, List.length_cons, List.length_nil, List.take_succ_cons, List.take_zero, List.take_nil, List.drop_succ_cons, List.drop_zero, List.drop_nil, List.nil_append, List.append_nil, if_true, if_false, Bool.and_true, reduceCtorEq, and_self, Nat.zero_add, Nat.reduceAdd, Nat.reduceEqDiff, Nat.reduceLT, Nat.le_refl, eq_self, Option.isNone_none, one_int, one_bool]
    refine call_meth rfl rfl methMul (ok19 l[i] y) ?_
    have hfit : fits 3 24 (frs ((l.take i).map (mulF · y))) [frV (mulF l[i] y)] = true := fits_frs (l := [mulF l[i] y]) (by simp; omega)
    have hw := wrapped (x := (i : Int) + 1) (by omega) (by omega)
    have hl : (frs ((l.take i).map (mulF · y))).length = i := by simp; omega
    simp -implicitDefEqProofs only [hfit, hl, hw, wp_reg0, seqK_normal, blockK_normal, opsK_at, ops_nil, ops_cons, op_plain, step_builtin, step_move, step_assign, step_binOp, step_buildSlice, opt_some, ev_tmp, ev_const, putT_some, pv_eq, lk, upd, tov, stepA, valA, binA, num2, binV, pvs, rowOf, tkOf, PV.cells, PV.ok, PV.cell, appA, Option.getD_some, Option.getD_none, Option.map_some, Option.bind_some, List.getElem?_cons_zero, List.getElem?_cons_succ, List.set_cons_zero, List.set_cons_succ, List.map_cons, List.map_nil, List.all_cons, List.all_nil, List.length_cons, List.length_nil, if_true, if_false, Bool.and_true, and_self, Nat.zero_add, Nat.reduceAdd, Nat.reduceEqDiff, Nat.reduceLT, Nat.reduceBEq, eq_self, range1, one_int, one_bool]
    refine loopK_of (m' := m - 1) (by omega) ?_
    simp -implicitDefEqProofs only [opt_some, rm, ghs, gh1, junkAll, rmAll, Option.bind_some, List.set_cons_zero, List.set_cons_succ, if_true, if_false, Nat.reduceEqDiff, eq_self]
    refine ⟨i + 1, by omega, ?_⟩
    rw [List.take_succ_eq_append_getElem hlt]
    simp only [frs, List.map_append, List.map_cons, List.map_nil, Int.natCast_add, Int.natCast_one]
  · have : l.length ≤ i := by simp only [List.length_map] at hc; omega
    rw [List.take_of_length_le this]

/-! ### Squares -/
theorem ok65 (ex : Bool) (r c : Int) (l : List Fr) : Ok Try.prog 65 [matV ex r c (frs l)] (tru (right r c l.length && (r == c))) := by
  refine ok_fn mixed Try.func65 (code := ?_) (h := h65) ?_ k65 ?_
  rotate_left
  · exact rfl
  unfold h65 initS
  simp -implicitDefEqProofs only [wp_reg, wp_seq, seqK_normal, opsK_at, ops_nil, ops_cons, op_plain, step_call, step_assign, step_load, step_box, opt_some, ev_tmp, ev_const, putT_some, st_tm, lk, upd, tov, stepA, valA, cellsOf, ldA, ldT, tovs, St.newBox, St.mapTV, TV.killPtr, PV.cells, PV.ok, PV.cell, Option.getD_some, Option.getD_none, Option.map_some, Option.bind_some, List.getElem?_cons_zero, List.getElem?_cons_succ, List.set_cons_zero, List.set_cons_succ, List.map_cons, List.map_nil, List.all_cons, List.all_nil, List.length_cons, List.length_nil, List.take_succ_cons, List.take_nil, List.drop_zero, List.cons_append, List.nil_append, List.toList_toArray, List.replicate_succ, List.replicate_zero, if_true, if_false, Bool.and_true, reduceCtorEq, and_self, Nat.zero_add, Nat.reduceAdd, Nat.reduceSub, Nat.reduceEqDiff, Nat.le_refl, eq_self, Option.isNone_none, one_int, Try.ntmps65, Try.results65]
  refine call_fn rfl rfl rfl (ok54 ex r c (frs l)) ?_
  have e : (frs l).length = l.length := by simp
  rw [e]
  cases hr : right r c l.length with
  | false => simp -implicitDefEqProofs only [wp_ret, junkK_at, seqK_normal, opsK_at, ops_nil, ops_cons, op_plain, op_guard, slotAt_zero, slotAt_succ, step_move, step_assign, step_pick, opt_some, gB_false, ev_tmp, ev_const, putT_some, pv_eq, lk, tov, stepA, valA, Option.getD_some, Option.getD_none, Option.map_some, Option.bind_some, List.getElem?_cons_zero, List.getElem?_cons_succ, List.set_cons_zero, List.set_cons_succ, if_true, if_false, Bool.false_and, reduceCtorEq, Nat.zero_add, Nat.reduceAdd, Nat.reduceEqDiff, Bool.false_eq_true, eq_self, RetQ_ret, resAll, res1, packR]
  | true => simp -implicitDefEqProofs only [wp_ret, execK_at, seqK_normal, opsK_at, ops_nil, ops_cons, op_plain, op_guard, slotAt_zero, slotAt_succ, step_move, step_assign, step_pick, step_load, step_fieldAddr, step_binOp, opt_some, gB_true, ev_tmp, ev_const, putT_some, pv_eq, lk, tov, stepA, valA, ldA, ldT, fieldAddrA, binA, num2, binV, tovs, Option.getD_some, Option.getD_none, Option.map_some, Option.bind_some, List.getElem?_cons_zero, List.getElem?_cons_succ, List.set_cons_zero, List.set_cons_succ, List.length_cons, List.length_nil, List.take_succ_cons, List.take_zero, List.drop_succ_cons, List.drop_zero, if_true, if_false, Bool.true_and, reduceCtorEq, Nat.zero_add, Nat.reduceAdd, Nat.reduceEqDiff, Nat.reduceLeDiff, Nat.reduceBEq, Bool.false_eq_true, eq_self, RetQ_ret, resAll, res1, packR]

/-- A square. -/
def sqF (r : Int) (l : List Fr) : List Fr := mirF r (prodF r r r l (turnF r r l))
theorem prodF_len {r m c : Int} {a b : List Fr} : (prodF r m c a b).length = r.toNat * c.toNat := by
  unfold prodF
  simp only [List.length_flatMap, List.length_map, allF, List.length_range, List.map_map]
  have e : ∀ l : List Nat, (l.map ((fun _ => c.toNat) ∘ fun (i : Nat) => rowF r m a (i : Int))).sum = l.length * c.toNat := fun l => by
    induction l with
    | nil => simp
    | cons x l ih => rw [List.map_cons, List.sum_cons, ih, List.length_cons, Nat.add_mul, Nat.one_mul, Nat.add_comm]; rfl
  rw [e, List.length_range]
theorem right_sq {n : Nat} (hn : 1 ≤ n ∧ n ≤ 16) {l : List Fr} (h : l.length = n * n) : right (n : Int) (n : Int) l.length = true := right_nat hn hn h
theorem ok28 (n : Nat) (hn : 1 ≤ n ∧ n ≤ 16) (ex : Bool) (l : List Fr) (h : l.length = n * n) : Ok Try.prog 28 [matV ex n n (frs l)] (.tup [matV false n n (frs (sqF n l)), tru true]) := by
  have hr := right_sq hn h
  refine ok_fn mixed Try.func28 (code := ?_) (h := h28) ?_ k28 ?_
  rotate_left
  · exact rfl
  unfold h28 initS
  simp -implicitDefEqProofs only [wp_reg, wp_seq, seqK_normal, opsK_at, ops_nil, ops_cons, op_plain, step_call, step_assign, step_load, step_alloc, step_box, opt_some, ev_tmp, ev_const, putT_some, st_tm, lk, upd, tov, stepA, valA, cellsOf, ldA, ldT, tovs, newToks, St.newBox, St.newTok, St.mapTV, TV.killPtr, TV.killTok, zeroT, PV.cells, PV.ok, PV.cell, Option.getD_some, Option.getD_none, Option.map_some, Option.bind_some, List.getElem?_cons_zero, List.getElem?_cons_succ, List.set_cons_zero, List.set_cons_succ, List.map_cons, List.map_nil, List.foldl_cons, List.foldl_nil, List.all_cons, List.all_nil, List.length_cons, List.length_nil, List.take_succ_cons, List.take_nil, List.drop_zero, List.cons_append, List.nil_append, List.toList_toArray, List.replicate_succ, List.replicate_zero, if_true, if_false, Bool.and_true, reduceCtorEq, and_self, Nat.zero_add, Nat.reduceAdd, Nat.reduceSub, Nat.reduceEqDiff, Nat.reduceLT, Nat.le_refl, eq_self, Option.isNone_none, one_int, Try.ntmps28, Try.results28]
  refine call_fn rfl rfl rfl (ok65 ex n n l) ?_
  simp -implicitDefEqProofs only [hr, beq_self_eq_true, wp_skip, wp_seq, wp_cond, wpK_at, seqK_normal, opsK_at, ops_nil, ops_cons, op_plain, step_call, step_load, step_unOp, opt_some, gB_false, ev_tmp, putT_some, pv_eq, lk, tov, ldA, ldT, unA, bl, tovs, Option.getD_some, Option.getD_none, Option.map_some, Option.bind_some, List.getElem?_cons_zero, List.getElem?_cons_succ, List.set_cons_zero, List.set_cons_succ, List.map_cons, List.map_nil, List.all_cons, List.all_nil, List.length_cons, List.length_nil, List.take_succ_cons, List.take_nil, List.drop_zero, if_true, if_false, Bool.not_true, Bool.not_false, Bool.and_true, reduceCtorEq, true_and, Nat.zero_add, Nat.reduceAdd, Nat.reduceEqDiff, Nat.le_refl, Nat.reduceBEq, Nat.reduceBNe, Bool.false_eq_true, wp_regd, opsC_cons, opsCK_at, dsL_nil, dsL_cons, dsC, allocX, paOk, inPa, nsC, nsL_nil, nsL_cons, nonPs, freeAll, St.freeB, TV.freeB, eq_self, List.contains_cons, List.contains_nil, Bool.or_false, Option.isNone_none]
  have h25 := ok33 ex n n l
  rw [if_pos hr] at h25
  refine call_fn rfl rfl rfl (h25) ?_
  simp -implicitDefEqProofs only [op_plain, step_call, putT_some, lk, Option.getD_some, Option.getD_none, List.set_cons_zero, List.set_cons_succ, List.map_cons, List.map_nil, List.all_cons, List.all_nil, if_true, if_false, Bool.not_false, Bool.and_true, reduceCtorEq, true_and, Nat.reduceAdd, Nat.reduceEqDiff, Nat.reduceBEq, Nat.reduceBNe, Bool.false_eq_true, opsC_cons, opsCK_at, dsL_nil, dsL_cons, dsC, allocX, paOk, inPa, nsC, nsL_nil, nsL_cons, nonPs, freeAll, St.freeB, TV.freeB, eq_self, List.contains_cons, List.contains_nil, Bool.or_false, Option.isNone_none]
  have hrt := right_turn hr
  have h13 := ok47 ex false n n n n l (turnF n n l)
  rw [if_pos ⟨hr, hrt, rfl⟩] at h13
  refine call_fn rfl rfl rfl (h13) ?_
  simp -implicitDefEqProofs only [wp_skip, wp_reg0, wp_reg, wp_seq, wp_cond, wpK_at, seqK_normal, opsK_at, ops_nil, ops_cons, op_plain, step_call, step_move, step_assign, step_load, step_unOp, step_extract, step_alloc, step_store, opt_some, gB_false, ev_tmp, putT_some, putT_none, pv_eq, st_tm, lk, upd, tov, stepA, valA, storeA, cellsOf, ldA, ldT, unA, bl, tovs, newToks, St.newBox, St.newTok, St.mapTV, TV.killPtr, TV.killTok, zeroT, PV.cells, PV.ok, PV.cell, Option.getD_some, Option.getD_none, Option.map_some, Option.bind_some, List.getElem?_cons_zero, List.getElem?_cons_succ, List.set_cons_zero, List.set_cons_succ, List.map_cons, List.map_nil, List.foldl_cons, List.foldl_nil, List.all_cons, List.all_nil, List.length_cons, List.length_nil, List.take_succ_cons, List.take_zero, List.take_nil, List.drop_succ_cons, List.drop_zero, List.drop_nil, List.nil_append, List.append_nil, if_true, if_false, Bool.not_true, Bool.not_false, Bool.and_true, reduceCtorEq, true_and, and_self, Nat.zero_add, Nat.reduceAdd, Nat.reduceEqDiff, Nat.reduceLT, Nat.le_refl, Nat.reduceBEq, Nat.reduceBNe, Bool.false_eq_true, opsC_nil, opsC_cons, opsCK_at, dsL_nil, dsL_cons, dsC, allocX, paOk, inPa, nsC, nsL_nil, nsL_cons, nonPs, freeAll, St.freeB, TV.freeB, eq_self, List.contains_cons, List.contains_nil, Bool.or_false, Option.isNone_none, one_int]
  have h33 := ok30 false n n (prodF n n n l (turnF n n l))
  have hp : right (n : Int) (n : Int) (prodF n n n l (turnF n n l)).length = true := right_sq hn (by rw [prodF_len]; simp)
  rw [if_pos ⟨hp, rfl⟩] at h33
  refine call_fn rfl rfl rfl (h33) ?_
  simp -implicitDefEqProofs only [wp_ret, seqK_normal, opsK_at, ops_nil, ops_cons, op_plain, step_assign, step_extract, step_store, opt_some, ev_tmp, putT_some, putT_none, pv_eq, lk, upd, tov, stepA, valA, storeA, cellsOf, ldA, ldT, tovs, PV.cells, PV.ok, PV.cell, Option.getD_some, Option.getD_none, Option.map_some, Option.bind_some, List.getElem?_cons_zero, List.getElem?_cons_succ, List.set_cons_zero, List.set_cons_succ, List.map_cons, List.map_nil, List.all_cons, List.all_nil, List.length_cons, List.length_nil, List.take_succ_cons, List.take_zero, List.take_nil, List.drop_succ_cons, List.drop_zero, List.drop_nil, List.nil_append, List.append_nil, if_true, if_false, Bool.and_true, reduceCtorEq, and_self, Nat.zero_add, Nat.reduceAdd, Nat.reduceEqDiff, Nat.reduceLT, Nat.le_refl, eq_self, one_int, RetQ_ret, resAll, res1, packR, sqF]
end Go.Proofs.Ytadfcbpakfaaaaa.A
