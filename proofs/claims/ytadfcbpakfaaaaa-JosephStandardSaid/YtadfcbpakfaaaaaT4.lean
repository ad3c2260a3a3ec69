import Derived.Test.YtadfcbpakfaaaaaT3
set_option linter.unusedVariables false
set_option linter.unusedSimpArgs false
set_option maxRecDepth 100000
namespace Go.Proofs.Ytadfcbpakfaaaaa.A
open Go Go.RowKit Go.Shelf

theorem methAdd : Meth Try.prog 35 "Add" 18 := by
  intro v xs w
  rfl
theorem methMul : Meth Try.prog 35 "Mul" 19 := by
  intro v xs w
  rfl

def sumF (l : List Fr) : Fr := l.foldl addF (newF 0 1)

theorem ok57 (ex : Bool) (l : List Fr) (h : l.length ≤ 5864062014805) : Ok Try.prog 57 [.sl ex (frs l)] (frV (sumF l)) := by
  refine ok_fn mixed Try.func57 (code := ?_) (h := h57) ?_ k57 ?_
  rotate_left
  · exact rfl
  unfold h57 initS
  simp -implicitDefEqProofs only [wp_reg, wp_seq, seqK_normal, opsK_at, ops_nil, ops_cons, op_plain, step_invoke, step_load, step_iface, step_alloc, opt_some, ev_tmp, putT_some, pv_eq, st_tm, lk, upd, tov, stepA, valA, ldA, ldT, tovs, newToks, St.newBox, St.mapTV, TV.killPtr, zeroT, Option.getD_some, Option.getD_none, Option.map_some, Option.bind_some, List.getElem?_cons_zero, List.getElem?_cons_succ, List.set_cons_zero, List.set_cons_succ, List.map_cons, List.map_nil, List.foldl_nil, List.length_cons, List.length_nil, List.take_succ_cons, List.take_nil, List.drop_zero, List.cons_append, List.nil_append, List.toList_toArray, List.replicate_succ, List.replicate_zero, if_true, if_false, reduceCtorEq, Nat.zero_add, Nat.reduceAdd, Nat.reduceSub, Nat.reduceEqDiff, Nat.reduceLT, Nat.le_refl, eq_self, Option.isNone_none, Try.ntmps57, Try.results57]
  refine call_meth rfl rfl methOf (ok96 ⟨0, 0, false⟩ 0) ?_
  simp -implicitDefEqProofs only [wp_reg0, wp_seq, wp_block, seqK_normal, opsK_at, ops_nil, ops_cons, op_plain, step_builtin, step_move, step_alloc, step_store, opt_some, ev_tmp, ev_const, putT_some, putT_none, pv_eq, st_tm, lk, upd, tov, stepA, valA, storeA, cellsOf, lenA, newToks, St.newBox, St.mapTV, TV.killPtr, zeroT, PV.cells, PV.ok, PV.cell, Option.getD_some, Option.getD_none, Option.map_some, Option.bind_some, List.getElem?_cons_zero, List.getElem?_cons_succ, List.set_cons_zero, List.set_cons_succ, List.map_cons, List.map_nil, List.foldl_nil, List.all_cons, List.all_nil, List.length_cons, List.length_nil, List.take_zero, List.drop_succ_cons, List.drop_nil, List.nil_append, List.append_nil, if_true, if_false, Bool.and_true, reduceCtorEq, and_self, Nat.zero_add, Nat.reduceAdd, Nat.reduceEqDiff, Nat.reduceLT, Nat.le_refl, eq_self, Option.isNone_none, one_int, one_bool]
  refine wp_loop (fun m s => ∃ i, i + m = l.length ∧ s = ⟨[jk, jk, .ptr 2 0, jk, .ptr 4 0, jk, jk, jk, jk, jk, .v (.sl ex (frs l)), nt l.length, nt i, jk, jk, jk, jk, jk, jk, jk, jk, jk],
    [(2, [nt 0, nt 0, .v (tru false)]), (3, [nt 0, nt 0, .v (tru false)]), (4, [nt (sumF (l.take i)).n, nt (sumF (l.take i)).d, .v (tru (sumF (l.take i)).bad)])], [], [], [], 0⟩) l.length ?_ ?_
  · simp -implicitDefEqProofs only [opt_some, rm, ghs, gh1, junkAll, rmAll, Option.bind_some, List.set_cons_zero, List.set_cons_succ, if_false, Nat.reduceEqDiff]
    refine ⟨0, by simp, ?_⟩
    simp [sumF]
  rintro m s ⟨i, hi, rfl⟩
  simp -implicitDefEqProofs only [wp_reg0, wp_seq, wp_cond, seqK_normal, opsK_at, ops_nil, ops_cons, op_plain, step_binOp, opt_some, ev_tmp, putT_some, lk, valA, binA, num2, binV, Option.getD_none, Option.map_some, List.getElem?_cons_zero, List.getElem?_cons_succ, List.set_cons_zero, List.set_cons_succ, if_true, Nat.zero_add, Nat.reduceBEq, eq_self]
  refine gB_dec ?_ ?_ <;> intro hc <;> simp -implicitDefEqProofs only [hc, wp_skip, wp_reg, wp_seq, wp_block, wp_exit, wp_ret, wpK_at, seqK_normal, seqK_exit, blockK_exit, loopK_exit, opsK_at, ops_nil, ops_cons, op_plain, step_load, step_indexAddr, step_store, opt_some, ev_tmp, putT_some, putT_none, pv_eq, lk, upd, tov, stepA, valA, storeA, cellsOf, ldA, ldT, idxAddrA, idxA, tovs, PV.cells, PV.ok, PV.cell, Option.getD_some, Option.map_some, Option.bind_some, List.getElem?_cons_zero, List.getElem?_cons_succ, List.set_cons_zero, List.set_cons_succ, List.map_cons, List.map_nil, List.all_cons, List.all_nil, List.length_cons, List.length_nil, List.take_succ_cons, List.take_zero, List.take_nil, List.drop_succ_cons, List.drop_zero, List.drop_nil, List.nil_append, List.append_nil, if_true, if_false, Bool.and_true, reduceCtorEq, and_self, Nat.zero_add, Nat.reduceAdd, Nat.reduceEqDiff, Nat.reduceLT, Nat.le_refl, decide_true, decide_false, eq_self, one_int, one_bool, RetQ_ret, resAll, res1, packR, Option.some.injEq]
  · have hlt : i < l.length := by omega
    have h0 : (0 : Int) ≤ (i : Int) := by omega
    have hg : (frs l)[i]? = some (frV l[i]) := by simp [hlt]
    simp -implicitDefEqProofs only [h0, Int.toNat_natCast, hg, wp_reg, seqK_normal, opsK_at, ops_nil, ops_cons, op_plain, step_invoke, step_load, step_iface, step_alloc, step_store, opt_some, ev_tmp, putT_some, putT_none, pv_eq, st_tm, lk, upd, tov, stepA, valA, storeA, cellsOf, ldA, ldC, ldT, tovs, newToks, St.newBox, St.mapTV, TV.killPtr, zeroT, PV.cells, PV.ok, PV.cell, Option.getD_some, Option.getD_none, Option.map_some, Option.bind_some, List.getElem?_cons_zero, List.getElem?_cons_succ, List.set_cons_zero, List.set_cons_succ, List.map_cons, List.map_nil, List.foldl_nil, List.all_cons, List.all_nil, List.length_cons, List.length_nil, List.take_succ_cons, List.take_zero, List.take_nil, List.drop_succ_cons, List.drop_zero, List.drop_nil, List.nil_append, List.append_nil, if_true, if_false, Bool.and_true, reduceCtorEq, and_self, Nat.zero_add, Nat.reduceAdd, Nat.reduceEqDiff, Nat.reduceLT, Nat.le_refl, eq_self, Option.isNone_none, one_int, one_bool]
    refine call_meth rfl rfl methAdd (ok18 (sumF (l.take i)) l[i]) ?_
    have hw := wrapped (x := (i : Int) + 1) (by omega) (by omega)
    simp -implicitDefEqProofs only [hw, wp_reg0, seqK_normal, blockK_normal, opsK_at, ops_nil, ops_cons, op_plain, step_move, step_binOp, step_store, opt_some, ev_tmp, ev_const, putT_some, putT_none, lk, upd, stepA, valA, storeA, cellsOf, binA, num2, binV, PV.cells, PV.ok, PV.cell, Option.getD_some, Option.getD_none, Option.map_some, List.getElem?_cons_zero, List.getElem?_cons_succ, List.set_cons_zero, List.set_cons_succ, List.map_cons, List.map_nil, List.all_cons, List.all_nil, List.length_cons, List.length_nil, List.take_zero, List.drop_succ_cons, List.drop_nil, List.nil_append, List.append_nil, if_true, if_false, Bool.and_true, reduceCtorEq, and_self, Nat.zero_add, Nat.reduceAdd, Nat.reduceEqDiff, Nat.reduceLT, Nat.le_refl, Nat.reduceBEq, eq_self, one_int, one_bool]
    refine loopK_of (m' := m - 1) (by omega) ?_
    simp -implicitDefEqProofs only [opt_some, rm, ghs, gh1, junkAll, rmAll, Option.bind_some, List.set_cons_zero, List.set_cons_succ, if_true, if_false, Nat.reduceEqDiff, eq_self]
    refine ⟨i + 1, by omega, ?_⟩
    have e : sumF (l.take (i + 1)) = addF (sumF (l.take i)) l[i] := by
      unfold sumF
      rw [List.take_succ_eq_append_getElem hlt, List.foldl_append]
      rfl
    rw [e]
    simp only [Int.natCast_add, Int.natCast_one]
  · have : l.length ≤ i := by omega
    rw [List.take_of_length_le this]

theorem ok59 (a b : Fr) : Ok Try.prog 59 [frV a, frV b] (frV (mulF a b)) := by
  refine ok_fn mixed Try.func59 (code := ?_) (h := h59) ?_ k59 ?_
  rotate_left
  · exact rfl
  unfold h59 initS
  simp -implicitDefEqProofs only [wp_reg, wp_seq, seqK_normal, opsK_at, ops_nil, ops_cons, op_plain, step_invoke, step_load, step_iface, step_alloc, step_box, opt_some, ev_tmp, putT_some, pv_eq, st_tm, lk, upd, tov, stepA, valA, cellsOf, ldA, ldT, tovs, newToks, St.newBox, St.mapTV, TV.killPtr, zeroT, PV.cells, PV.ok, PV.cell, Option.getD_some, Option.getD_none, Option.map_some, Option.bind_some, List.getElem?_cons_zero, List.getElem?_cons_succ, List.set_cons_zero, List.set_cons_succ, List.map_cons, List.map_nil, List.foldl_nil, List.all_cons, List.all_nil, List.length_cons, List.length_nil, List.take_succ_cons, List.take_nil, List.drop_zero, List.cons_append, List.nil_append, List.toList_toArray, List.replicate_succ, List.replicate_zero, if_true, if_false, Bool.and_true, reduceCtorEq, and_self, Nat.zero_add, Nat.reduceAdd, Nat.reduceSub, Nat.reduceEqDiff, Nat.reduceLT, Nat.le_refl, eq_self, Option.isNone_none, one_int, one_bool, Try.ntmps59, Try.results59]
  refine call_meth rfl rfl methMul (ok19 a b) ?_
  simp -implicitDefEqProofs only [wp_ret, seqK_normal, opsK_at, ops_nil, ops_cons, op_plain, step_store, opt_some, ev_tmp, putT_some, putT_none, lk, upd, tov, stepA, storeA, cellsOf, ldA, ldT, tovs, PV.cells, PV.ok, PV.cell, Option.getD_some, Option.map_some, Option.bind_some, List.getElem?_cons_zero, List.getElem?_cons_succ, List.set_cons_zero, List.set_cons_succ, List.map_cons, List.map_nil, List.all_cons, List.all_nil, List.length_cons, List.length_nil, List.take_succ_cons, List.take_zero, List.take_nil, List.drop_succ_cons, List.drop_zero, List.drop_nil, List.nil_append, List.append_nil, if_true, if_false, Bool.and_true, reduceCtorEq, and_self, Nat.zero_add, Nat.reduceAdd, Nat.reduceEqDiff, Nat.reduceLT, Nat.le_refl, eq_self, one_int, one_bool, RetQ_ret, resAll, res1, packR]

theorem sl_frs {ex : Bool} {l : List Fr} {a b : Nat} (h1 : a ≤ b) (h2 : b ≤ l.length) : sliceA 3 (frs l) ex (some a) (some b) none = some (.sl (exA none ex b (frs l).length) (frs ((l.take b).drop a))) := by
  unfold sliceA
  simp only [Option.getD_some]
  rw [if_pos ⟨h1, by simpa using h2, by simp, by simp [PV.cells]⟩]
  simp

/-- A row. -/
def rowF (r c : Int) (l : List Fr) (i : Int) : List Fr := if right r c l.length = true ∧ 0 ≤ i ∧ i < r then (l.take ((i + 1) * c).toNat).drop (i * c).toNat else []

theorem ok31 (ex : Bool) (r c i : Int) (l : List Fr) : Ok Try.prog 31 [matV ex r c (frs l), num i] (.sl false (frs (rowF r c l i))) := by
  refine ok_fn mixed Try.func31 (code := ?_) (h := h31) ?_ k31 ?_
  rotate_left
  · exact rfl
  unfold h31 initS
  simp -implicitDefEqProofs only [wp_reg, wp_seq, seqK_normal, opsK_at, ops_nil, ops_cons, op_plain, step_call, step_assign, step_load, step_box, opt_some, ev_tmp, putT_some, st_tm, lk, upd, tov, stepA, cellsOf, ldA, ldT, tovs, St.newBox, St.newTok, St.mapTV, TV.killPtr, TV.killTok, PV.cells, PV.ok, PV.cell, Option.getD_some, Option.getD_none, Option.map_some, Option.bind_some, List.getElem?_cons_zero, List.getElem?_cons_succ, List.set_cons_zero, List.set_cons_succ, List.map_cons, List.map_nil, List.all_cons, List.all_nil, List.length_cons, List.length_nil, List.take_succ_cons, List.take_nil, List.drop_zero, List.cons_append, List.nil_append, List.toList_toArray, List.replicate_succ, List.replicate_zero, if_true, if_false, Bool.and_true, reduceCtorEq, and_self, Nat.zero_add, Nat.reduceAdd, Nat.reduceSub, Nat.reduceEqDiff, Nat.le_refl, eq_self, Option.isNone_none, one_int, Try.ntmps31, Try.results31]
  refine call_fn rfl rfl rfl (ok54 ex r c (frs l)) ?_
  have e : (frs l).length = l.length := by simp
  rw [e]
  cases hr : right r c l.length with
  | false =>
    simp -implicitDefEqProofs only [wp_reg, wp_seq, wp_cond, wp_ret, wpK_at, junkK_at, seqK_normal, seqK_ret, opsK_at, ops_nil, ops_cons, op_plain, op_guardn, slotAt_zero, slotAt_succ, step_move, step_assign, step_pick, step_unOp, opt_some, gB_true, ev_tmp, ev_const, putT_some, pv_eq, st_tm, lk, upd, tov, stepA, valA, unA, bl, St.newTok, St.mapTV, TV.killTok, Option.getD_some, Option.getD_none, Option.map_some, Option.bind_some, List.getElem?_cons_zero, List.getElem?_cons_succ, List.set_cons_zero, List.set_cons_succ, List.map_cons, List.map_nil, if_true, if_false, Bool.not_false, reduceCtorEq, Nat.zero_add, Nat.reduceAdd, Nat.reduceEqDiff, Nat.reduceLT, eq_self, RetQ_ret, resAll, res1, packR, Option.some.injEq]
    simp [rowF, hr]
  | true =>
    obtain ⟨r1, r2, c1, c2, hn⟩ := right_spec hr
    simp -implicitDefEqProofs only [execK_at, opsK_at, ops_cons, op_plain, op_guardn, slotAt_zero, slotAt_succ, step_move, step_pick, step_binOp, step_unOp, opt_some, gB_false, ev_tmp, ev_const, putT_some, pv_eq, lk, tov, valA, unA, bl, binA, num2, binV, Option.getD_none, Option.map_some, Option.bind_some, List.getElem?_cons_zero, List.getElem?_cons_succ, List.set_cons_zero, List.set_cons_succ, if_true, if_false, Bool.not_true, reduceCtorEq, Nat.zero_add, Nat.reduceAdd, Nat.reduceEqDiff, Nat.reduceBEq, Bool.false_eq_true, eq_self]
    repeat' (refine gB_dec ?_ ?_ <;> intro hc <;> first | (exfalso; omega) | simp -implicitDefEqProofs only [hc, wp_skip, wp_reg, wp_seq, wp_cond, wp_ret, wpK_at, execK_at, junkK_at, seqK_normal, seqK_ret, opsK_at, ops_nil, ops_cons, op_plain, op_guardn, slotAt_zero, slotAt_succ, step_move, step_assign, step_pick, step_load, step_fieldAddr, step_binOp, step_slice, opt_some, gB_true, gB_false, ev_tmp, ev_const, putT_some, pv_eq, st_tm, lk, upd, tov, stepA, valA, ldA, ldT, fieldAddrA, binA, num2, binV, tovs, St.newTok, St.mapTV, TV.killTok, bndA, Option.getD_some, Option.getD_none, Option.map_some, Option.map_none, Option.bind_some, List.getElem?_cons_zero, List.getElem?_cons_succ, List.set_cons_zero, List.set_cons_succ, List.map_cons, List.map_nil, List.length_cons, List.length_nil, List.take_succ_cons, List.take_zero, List.take_nil, List.drop_succ_cons, List.drop_zero, if_true, if_false, reduceCtorEq, Nat.zero_add, Nat.reduceAdd, Nat.reduceEqDiff, Nat.reduceLeDiff, Nat.reduceLT, Nat.le_refl, Nat.reduceBEq, Bool.false_eq_true, decide_true, decide_false, eq_self, RetQ_ret, resAll, res1, packR, Option.some.injEq])
    · rw [show rowF r c l i = [] from if_neg (fun ⟨_, _, _⟩ => by omega)]; rfl
    · rw [show rowF r c l i = [] from if_neg (fun ⟨_, _, _⟩ => by omega)]; rfl
    · obtain ⟨b1, b2, b3, b4, b5⟩ := at_bound (i := i) (k := 0) r2 ⟨c1, c2⟩ (by omega) (by omega)
      have b6 : (i + 1) * c = i * c + c := by rw [Int.add_mul, Int.one_mul]
      have b7 : (i + 1) * c ≤ r * c := Int.mul_le_mul_of_nonneg_right (by omega) (by omega)
      have w1 := wrapped (x := i * c) (by omega) (by omega)
      have w2 := wrapped (x := i + 1) (by omega) (by omega)
      have w3 := wrapped (x := (i + 1) * c) (by omega) (by omega)
      have h3 : 0 ≤ (i + 1) * c := by omega
      have hs := sl_frs (ex := ex) (l := l) (a := (i * c).toNat) (b := ((i + 1) * c).toNat) (by omega) (by omega)
      have hrow : rowF r c l i = (l.take ((i + 1) * c).toNat).drop (i * c).toNat := if_pos ⟨hr, by omega, by omega⟩
      rw [hrow]
      simp -implicitDefEqProofs only [w1, w2, w3, b1, h3, hs, opsK_at, ops_cons, op_plain, step_call, opt_some, putT_some, lk, Option.getD_none, Option.map_some, List.set_cons_zero, List.set_cons_succ, if_true, if_false, reduceCtorEq, Nat.reduceAdd, Nat.reduceEqDiff]
      refine call_fn rfl rfl rfl (ok70 _ _ (by simp; omega)) ?_
      simp -implicitDefEqProofs only [wp_ret, seqK_normal, opsK_at, ops_nil, ops_cons, op_plain, step_assign, opt_some, ev_tmp, putT_some, lk, tov, stepA, valA, Option.getD_none, Option.map_some, Option.bind_some, List.getElem?_cons_zero, List.getElem?_cons_succ, List.set_cons_zero, List.set_cons_succ, if_false, reduceCtorEq, Nat.reduceAdd, Nat.reduceEqDiff, eq_self, RetQ_ret, resAll, res1, packR]
end Go.Proofs.Ytadfcbpakfaaaaa.A
