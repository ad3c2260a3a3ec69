import Derived.Test.YtadfcbpakfaaaaaT30

set_option linter.unusedVariables false
set_option linter.unusedSimpArgs false
set_option maxRecDepth 100000
namespace Go.Proofs.Ytadfcbpakfaaaaa.A
open Go Go.RowKit Go.Shelf

/-! ### States -/
abbrev stV (ex ep : Bool) (x : List PV) (r c : Int) (l : List PV) : PV := .agg [.sl ex x, num r, num c, .sl ep l]
abbrev stNil : PV := .agg [.s (.slice none 0 0), num 0, num 0, .s (.slice none 0 0)]
theorem Cs.st_nil {I : Imm} {xs ys : List PV} {vs : List Value} (h : Cs I (stNil :: xs) vs) (k : ∀ us, Cs I xs us → Cs I ys us) : Cs I (stV false false (frs []) 0 0 (frs []) :: ys) vs := by
  have key : ∀ us, Cs I [.s (.slice none 0 0), num 0, num 0, .s (.slice none 0 0)] us → Cs I [.sl false [], num 0, num 0, .sl false []] us := fun us h => Cs.nil_of h fun us h => Cs.keep h fun us h => Cs.keep h fun us h => Cs.nil_of h fun us h => h
  cases h with | cons h1 h2 => cases h1 with | agg hl => exact .cons (.agg (key _ hl)) (k _ h2)

def stRight (k : Nat) (r c : Int) (n : Nat) : Bool := decide (1 ≤ k ∧ k ≤ 4) && (right r c n && (r == k && c == k))
theorem ok44 (ex ep : Bool) (x l : List Fr) (r c : Int) : Ok Try.prog 44 [stV ex ep (frs x) r c (frs l)] (tru (stRight x.length r c l.length)) := by
  refine ok_fn mixed Try.func44 (code := ?_) (h := h44) ?_ k44 ?_
  rotate_left
  · exact rfl
  unfold h44 initS
  simp -implicitDefEqProofs (maxSteps := 10000000) only [wp_reg, wp_seq, seqK_normal, opsK_at, ops_nil, ops_cons, op_plain, op_guard, slotAt_zero, slotAt_succ, step_builtin, step_move, step_assign, step_load, step_fieldAddr, step_binOp, step_box, opt_some, ev_tmp, ev_const, putT_some, pv_eq, st_tm, lk, upd, tov, stepA, valA, cellsOf, ldA, ldT, fieldAddrA, lenA, binA, num2, binV, tovs, St.newBox, St.mapTV, TV.killPtr, PV.cells, PV.ok, PV.cell, Option.getD_some, Option.getD_none, Option.map_some, Option.bind_some, List.getElem?_cons_zero, List.getElem?_cons_succ, List.set_cons_zero, List.set_cons_succ, List.map_cons, List.map_nil, List.all_cons, List.all_nil, List.length_cons, List.length_nil, List.take_succ_cons, List.take_zero, List.drop_zero, List.cons_append, List.nil_append, List.toList_toArray, List.replicate_succ, List.replicate_zero, if_true, if_false, Bool.and_true, reduceCtorEq, and_self, Nat.zero_add, Nat.reduceAdd, Nat.reduceSub, Nat.reduceEqDiff, Nat.reduceLeDiff, Nat.reduceBEq, Bool.false_eq_true, eq_self, Option.isNone_none, one_int, Try.ntmps44, Try.results44]
  have e : (frs x).length = x.length := by simp
  have e' : (frs l).length = l.length := by simp
  by_cases hx : 1 ≤ x.length ∧ x.length ≤ 4
  · have h1 : (1 : Int) ≤ (x.length : Int) := by omega
    have h2 : (x.length : Int) ≤ 4 := by omega
    simp -implicitDefEqProofs (maxSteps := 10000000) only [e, h1, h2, execK_at, opsK_at, ops_cons, op_plain, op_guard, slotAt_zero, slotAt_succ, step_call, step_move, step_pick, step_load, step_fieldAddr, step_binOp, opt_some, gB_true, ev_tmp, ev_const, putT_some, pv_eq, lk, tov, valA, ldA, ldT, fieldAddrA, binA, num2, binV, tovs, Option.getD_some, Option.getD_none, Option.map_some, Option.bind_some, List.getElem?_cons_zero, List.getElem?_cons_succ, List.set_cons_zero, List.set_cons_succ, List.length_cons, List.length_nil, List.take_succ_cons, List.take_nil, List.drop_succ_cons, List.drop_zero, if_true, if_false, Nat.zero_add, Nat.reduceAdd, Nat.reduceEqDiff, Nat.le_refl, Nat.reduceBEq, decide_true, eq_self]
    refine call_fn rfl rfl rfl (ok54 ep r c (frs l)) ?_
    rw [e']
    cases hr : right r c l.length with
    | false => simp -implicitDefEqProofs (maxSteps := 10000000) only [stRight, hx, hr, wp_ret, junkK_at, seqK_normal, opsK_at, ops_nil, ops_cons, op_plain, op_guard, slotAt_zero, slotAt_succ, step_move, step_assign, step_pick, opt_some, gB_false, ev_tmp, ev_const, putT_some, pv_eq, lk, tov, stepA, valA, Option.getD_some, Option.getD_none, Option.map_some, Option.bind_some, List.getElem?_cons_zero, List.getElem?_cons_succ, List.set_cons_zero, List.set_cons_succ, if_true, if_false, Bool.and_false, Bool.false_and, and_self, Nat.zero_add, Nat.reduceAdd, Nat.reduceEqDiff, Bool.false_eq_true, decide_true, eq_self, RetQ_ret, resAll, res1, packR]
    | true =>
      simp -implicitDefEqProofs (maxSteps := 10000000) only [execK_at, opsK_at, ops_cons, op_plain, op_guard, slotAt_zero, slotAt_succ, step_move, step_pick, step_load, step_fieldAddr, step_binOp, opt_some, gB_true, ev_tmp, ev_const, putT_some, pv_eq, lk, tov, valA, ldA, ldT, fieldAddrA, binA, num2, binV, tovs, Option.getD_some, Option.getD_none, Option.map_some, Option.bind_some, List.getElem?_cons_zero, List.getElem?_cons_succ, List.set_cons_zero, List.set_cons_succ, List.length_cons, List.length_nil, List.take_succ_cons, List.take_zero, List.drop_succ_cons, List.drop_zero, if_true, if_false, Nat.zero_add, Nat.reduceAdd, Nat.reduceEqDiff, Nat.reduceLeDiff, Nat.reduceBEq, Bool.false_eq_true, eq_self]
      cases h3 : (r == (x.length : Int)) with
      | false => simp -implicitDefEqProofs (maxSteps := 10000000) only [stRight, hx, hr, h3, wp_ret, junkK_at, seqK_normal, opsK_at, ops_nil, ops_cons, op_plain, op_guard, slotAt_zero, slotAt_succ, step_assign, step_pick, opt_some, gB_false, ev_tmp, ev_const, putT_some, pv_eq, lk, tov, stepA, valA, Option.getD_some, Option.getD_none, Option.map_some, Option.bind_some, List.getElem?_cons_zero, List.getElem?_cons_succ, List.set_cons_zero, List.set_cons_succ, if_true, if_false, Bool.and_false, Bool.false_and, and_self, Nat.zero_add, Nat.reduceAdd, Nat.reduceEqDiff, Bool.false_eq_true, decide_true, eq_self, RetQ_ret, resAll, res1, packR]
      | true => simp -implicitDefEqProofs (maxSteps := 10000000) only [stRight, hx, hr, h3, wp_ret, execK_at, seqK_normal, opsK_at, ops_nil, ops_cons, op_plain, op_guard, slotAt_zero, slotAt_succ, step_move, step_assign, step_pick, step_load, step_fieldAddr, step_binOp, opt_some, gB_true, ev_tmp, ev_const, putT_some, pv_eq, lk, tov, stepA, valA, ldA, ldT, fieldAddrA, binA, num2, binV, tovs, Option.getD_some, Option.getD_none, Option.map_some, Option.bind_some, List.getElem?_cons_zero, List.getElem?_cons_succ, List.set_cons_zero, List.set_cons_succ, List.length_cons, List.length_nil, List.take_succ_cons, List.take_zero, List.drop_succ_cons, List.drop_zero, if_true, if_false, Bool.true_and, and_self, Nat.zero_add, Nat.reduceAdd, Nat.reduceEqDiff, Nat.reduceLeDiff, Nat.reduceBEq, Bool.false_eq_true, decide_true, eq_self, RetQ_ret, resAll, res1, packR]
  · have hs : stRight x.length r c l.length = false := by simp -implicitDefEqProofs (maxSteps := 10000000) only [stRight, hx, Bool.false_and, decide_false, eq_self]
    rw [hs]
    by_cases h1 : 1 ≤ x.length
    · have h1' : (1 : Int) ≤ (x.length : Int) := by omega
      have h2 : ¬ (x.length : Int) ≤ 4 := by omega
      simp -implicitDefEqProofs (maxSteps := 10000000) only [e, h1', h2, wp_ret, execK_at, junkK_at, seqK_normal, opsK_at, ops_nil, ops_cons, op_plain, op_guard, slotAt_zero, slotAt_succ, step_move, step_assign, step_pick, step_binOp, opt_some, gB_true, gB_false, ev_tmp, ev_const, putT_some, pv_eq, lk, tov, stepA, valA, binA, num2, binV, Option.getD_some, Option.getD_none, Option.map_some, Option.bind_some, List.getElem?_cons_zero, List.getElem?_cons_succ, List.set_cons_zero, List.set_cons_succ, if_true, if_false, Nat.zero_add, Nat.reduceAdd, Nat.reduceEqDiff, Nat.reduceBEq, Bool.false_eq_true, decide_true, decide_false, eq_self, RetQ_ret, resAll, res1, packR]
    · have h1' : ¬ (1 : Int) ≤ (x.length : Int) := by omega
      simp -implicitDefEqProofs (maxSteps := 10000000) only [e, h1', wp_ret, junkK_at, seqK_normal, opsK_at, ops_nil, ops_cons, op_plain, op_guard, slotAt_zero, slotAt_succ, step_move, step_assign, step_pick, opt_some, gB_false, ev_tmp, ev_const, putT_some, pv_eq, lk, tov, stepA, valA, Option.getD_some, Option.getD_none, Option.map_some, Option.bind_some, List.getElem?_cons_zero, List.getElem?_cons_succ, List.set_cons_zero, List.set_cons_succ, if_true, if_false, Nat.zero_add, Nat.reduceAdd, Nat.reduceEqDiff, Bool.false_eq_true, decide_false, eq_self, RetQ_ret, resAll, res1, packR]

theorem stRight_nat {k n : Nat} {m : Nat} (h : m = n * n) : stRight k n n m = decide (1 ≤ k ∧ k ≤ 4 ∧ k = n) := by
  by_cases hk : 1 ≤ k ∧ k ≤ 4
  · by_cases e : k = n
    · subst e
      have := right_nat (R := k) (K := k) (n := m) (by omega) (by omega) h
      simp [stRight, hk, this]
    · have e2 : ((n : Int) == (k : Int)) = false := by simp; omega
      simp [stRight, e2, e]
  · have : ¬ (1 ≤ k ∧ k ≤ 4 ∧ k = n) := by omega
    simp [stRight, hk, this]

theorem sqF_len (n : Nat) (l : List Fr) : (sqF n l).length = n * n := by
  rw [sqF, mirF, gridP_length]
  simp
/-! ### A new state -/
theorem ok43 (ex er : Bool) (x l : List Fr) (n : Nat) (hn : 1 ≤ n ∧ n ≤ 16) (hl : l.length = n * n) (hx : x.length ≤ 5864062014805) :
    Ok Try.prog 43 [.sl ex (frs x), matV er n n (frs l)] (if 1 ≤ x.length ∧ x.length ≤ 4 ∧ x.length = n then .tup [stV false false (frs x) n n (frs (sqF n l)), tru true] else .tup [stNil, tru false]) := by
  refine ok_fn mixed Try.func43 (code := ?_) (h := h43) ?_ k43 ?_
  rotate_left
  · exact rfl
  unfold h43 initS
  simp -implicitDefEqProofs (maxSteps := 10000000) only [wp_reg, wp_seq, seqK_normal, opsK_at, ops_nil, ops_cons, op_plain, step_call, step_assign, step_load, step_alloc, step_box, opt_some, ev_tmp, ev_const, putT_some, st_tm, lk, upd, tov, stepA, valA, cellsOf, ldA, ldT, tovs, newToks, St.newBox, St.newTok, St.mapTV, TV.killPtr, TV.killTok, zeroT, PV.cells, PV.ok, PV.cell, Option.getD_some, Option.getD_none, Option.map_some, Option.bind_some, List.getElem?_cons_zero, List.getElem?_cons_succ, List.set_cons_zero, List.set_cons_succ, List.map_cons, List.map_nil, List.foldl_cons, List.foldl_nil, List.all_cons, List.all_nil, List.length_cons, List.length_nil, List.take_succ_cons, List.take_nil, List.drop_zero, List.cons_append, List.nil_append, List.toList_toArray, List.replicate_succ, List.replicate_zero, if_true, if_false, Bool.and_true, reduceCtorEq, and_self, Nat.zero_add, Nat.reduceAdd, Nat.reduceSub, Nat.reduceEqDiff, Nat.reduceLT, Nat.le_refl, eq_self, Option.isNone_none, one_int, Try.ntmps43, Try.results43]
  refine call_fn rfl rfl rfl (ok28 n hn er l hl) ?_
  simp -implicitDefEqProofs (maxSteps := 10000000) only [wp_seq, seqK_normal, opsK_at, ops_nil, ops_cons, op_plain, step_call, step_move, step_assign, step_extract, step_alloc, step_store, opt_some, ev_tmp, putT_some, putT_none, pv_eq, st_tm, lk, upd, tov, stepA, valA, storeA, cellsOf, newToks, St.newBox, St.newTok, St.mapTV, TV.killPtr, TV.killTok, zeroT, PV.cells, PV.ok, PV.cell, Option.getD_some, Option.getD_none, Option.map_some, Option.bind_some, List.getElem?_cons_zero, List.getElem?_cons_succ, List.set_cons_zero, List.set_cons_succ, List.map_cons, List.map_nil, List.foldl_cons, List.foldl_nil, List.all_cons, List.all_nil, List.length_cons, List.length_nil, List.take_zero, List.drop_succ_cons, List.drop_nil, List.nil_append, List.append_nil, if_true, if_false, Bool.not_false, Bool.and_true, reduceCtorEq, true_and, and_self, Nat.zero_add, Nat.reduceAdd, Nat.reduceEqDiff, Nat.reduceLT, Nat.le_refl, Nat.reduceBEq, Nat.reduceBNe, Bool.false_eq_true, wp_regd, opsC_cons, opsCK_at, dsL_nil, dsL_cons, dsC, allocX, paOk, inPa, nsC, nsL_nil, nsL_cons, nonPs, freeAll, St.freeB, TV.freeB, eq_self, List.contains_cons, List.contains_nil, Bool.or_false, Option.isNone_none, one_int]
  refine call_fn rfl rfl rfl (ok70 ex x hx) ?_
  simp -implicitDefEqProofs (maxSteps := 10000000) only [wp_reg, wp_seq, execK_at, seqK_normal, opsK_at, ops_cons, op_plain, op_guardn, slotAt_zero, slotAt_succ, step_call, step_move, step_load, step_unOp, step_build, step_alloc, step_store, opt_some, gB_false, ev_tmp, putT_some, putT_none, pv_eq, st_tm, lk, upd, tov, stepA, valA, storeA, cellsOf, ldA, ldT, unA, bl, pvs, tovs, newToks, St.newBox, St.newTok, St.mapTV, TV.killPtr, TV.killTok, zeroT, PV.cells, PV.ok, PV.cell, fillA, setR, Option.getD_some, Option.getD_none, Option.map_some, Option.bind_some, List.getElem?_cons_zero, List.getElem?_cons_succ, List.set_cons_zero, List.set_cons_succ, List.map_cons, List.map_nil, List.foldl_cons, List.foldl_nil, List.all_cons, List.all_nil, List.length_cons, List.length_nil, List.take_succ_cons, List.take_zero, List.take_nil, List.drop_succ_cons, List.drop_zero, List.drop_nil, List.nil_append, List.append_nil, List.zip_cons_cons, List.zip_nil_left, if_true, if_false, Bool.not_true, Bool.not_false, Bool.and_true, reduceCtorEq, true_and, and_self, Nat.zero_add, Nat.reduceAdd, Nat.reduceEqDiff, Nat.reduceLeDiff, Nat.reduceLT, Nat.le_refl, Nat.reduceBEq, Nat.reduceBNe, Bool.false_eq_true, opsC_nil, opsC_cons, opsCK_at, dsL_nil, dsL_cons, dsC, allocX, paOk, inPa, nsC, nsL_nil, nsL_cons, nonPs, freeAll, St.freeB, TV.freeB, eq_self, List.contains_cons, List.contains_nil, Bool.or_false, Option.isNone_none, one_int]
  refine call_fn rfl rfl rfl (ok44 false false x (sqF n l) n n) ?_
  rw [stRight_nat (sqF_len n l)]
  by_cases h : 1 ≤ x.length ∧ x.length ≤ 4 ∧ x.length = n
  · rw [if_pos h, decide_eq_true h]
    simp -implicitDefEqProofs (maxSteps := 10000000) only [wp_skip, wp_reg, wp_seq, wp_cond, wp_ret, wpK_at, execK_at, seqK_normal, opsK_at, ops_nil, ops_cons, op_plain, op_guardn, slotAt_zero, slotAt_succ, step_assign, step_pick, step_load, step_unOp, step_store, opt_some, gB_false, ev_tmp, ev_const, putT_some, putT_none, pv_eq, lk, upd, tov, stepA, valA, storeA, cellsOf, ldA, ldT, unA, bl, tovs, PV.cells, PV.ok, PV.cell, Option.getD_some, Option.getD_none, Option.map_some, Option.bind_some, List.getElem?_cons_zero, List.getElem?_cons_succ, List.set_cons_zero, List.set_cons_succ, List.map_cons, List.map_nil, List.all_cons, List.all_nil, List.length_cons, List.length_nil, List.take_succ_cons, List.take_zero, List.take_nil, List.drop_succ_cons, List.drop_zero, List.drop_nil, List.nil_append, List.append_nil, if_true, if_false, Bool.not_true, Bool.and_true, reduceCtorEq, and_self, Nat.zero_add, Nat.reduceAdd, Nat.reduceEqDiff, Nat.reduceLT, Nat.le_refl, Bool.false_eq_true, eq_self, one_int, RetQ_ret, resAll, res1, packR]
  · rw [if_neg h, decide_eq_false h]
    simp -implicitDefEqProofs (maxSteps := 10000000) only [wp_reg, wp_seq, wp_cond, wp_ret, wpK_at, execK_at, seqK_normal, seqK_ret, opsK_at, ops_nil, ops_cons, op_plain, op_guardn, slotAt_zero, slotAt_succ, step_assign, step_pick, step_unOp, step_build, step_store, opt_some, gB_true, gB_false, ev_tmp, ev_const, putT_some, putT_none, pv_eq, lk, upd, tov, stepA, valA, storeA, cellsOf, ldA, ldT, unA, bl, pvs, tovs, PV.cells, PV.ok, PV.cell, fillA, Option.getD_some, Option.getD_none, Option.map_some, Option.bind_some, List.getElem?_cons_zero, List.getElem?_cons_succ, List.set_cons_zero, List.set_cons_succ, List.map_cons, List.map_nil, List.all_cons, List.all_nil, List.length_cons, List.length_nil, List.take_succ_cons, List.take_zero, List.take_nil, List.drop_succ_cons, List.drop_zero, List.drop_nil, List.nil_append, List.append_nil, List.zip_nil_left, if_true, if_false, Bool.not_false, Bool.and_true, reduceCtorEq, and_self, Nat.zero_add, Nat.reduceAdd, Nat.reduceEqDiff, Nat.reduceLT, Nat.le_refl, Bool.false_eq_true, eq_self, one_int, one_slice, RetQ_ret, resAll, res1, packR]

/-! ### Turned -/
def turnedF (n : Nat) (m p q : List Fr) : List Fr := mirF n (List.zipWith addF (prodF n n n (prodF n n n m p) (turnF n n m)) q)
theorem turnedF_len (n : Nat) (m p q : List Fr) : (turnedF n m p q).length = n * n := by
  rw [turnedF, mirF, gridP_length]
  simp
theorem ok50 (n : Nat) (hn : 1 ≤ n ∧ n ≤ 16) (e1 e2 e3 : Bool) (m p q : List Fr) (hm : m.length = n * n) (hp : p.length = n * n) (hq : q.length = n * n) :
    Ok Try.prog 50 [matV e1 n n (frs m), matV e2 n n (frs p), matV e3 n n (frs q)] (.tup [matV false n n (frs (turnedF n m p q)), tru true]) := by
  have rm := right_sq hn hm
  have rp := right_sq hn hp
  have rq := right_sq hn hq
  have rt := right_turn rm
  refine ok_fn mixed Try.func50 (code := ?_) (h := h50) ?_ k50 ?_
  rotate_left
  · exact rfl
  unfold h50 initS
  simp -implicitDefEqProofs (maxSteps := 10000000) only [wp_reg, wp_seq, seqK_normal, opsK_at, ops_nil, ops_cons, op_plain, step_call, step_assign, step_load, step_alloc, step_box, opt_some, ev_tmp, ev_const, putT_some, st_tm, lk, upd, tov, stepA, valA, cellsOf, ldA, ldT, tovs, newToks, St.newBox, St.newTok, St.mapTV, TV.killPtr, TV.killTok, zeroT, PV.cells, PV.ok, PV.cell, Option.getD_some, Option.getD_none, Option.map_some, Option.bind_some, List.getElem?_cons_zero, List.getElem?_cons_succ, List.set_cons_zero, List.set_cons_succ, List.map_cons, List.map_nil, List.foldl_cons, List.foldl_nil, List.all_cons, List.all_nil, List.length_cons, List.length_nil, List.take_succ_cons, List.take_nil, List.drop_zero, List.cons_append, List.nil_append, List.toList_toArray, List.replicate_succ, List.replicate_zero, if_true, if_false, Bool.and_true, reduceCtorEq, and_self, Nat.zero_add, Nat.reduceAdd, Nat.reduceSub, Nat.reduceEqDiff, Nat.reduceLT, Nat.le_refl, eq_self, Option.isNone_none, one_int, Try.ntmps50, Try.results50]
  have h13 := ok47 e1 e2 n n n n m p
  rw [if_pos ⟨rm, rp, rfl⟩] at h13
  refine call_fn rfl rfl rfl (h13) ?_
  simp -implicitDefEqProofs (maxSteps := 10000000) only [wp_seq, seqK_normal, opsK_at, ops_nil, ops_cons, op_plain, step_call, step_move, step_assign, step_load, step_extract, step_alloc, step_store, opt_some, ev_tmp, putT_some, putT_none, pv_eq, st_tm, lk, upd, tov, stepA, valA, storeA, cellsOf, ldA, ldT, tovs, newToks, St.newBox, St.newTok, St.mapTV, TV.killPtr, TV.killTok, zeroT, PV.cells, PV.ok, PV.cell, Option.getD_some, Option.getD_none, Option.map_some, Option.bind_some, List.getElem?_cons_zero, List.getElem?_cons_succ, List.set_cons_zero, List.set_cons_succ, List.map_cons, List.map_nil, List.foldl_cons, List.foldl_nil, List.all_cons, List.all_nil, List.length_cons, List.length_nil, List.take_succ_cons, List.take_zero, List.take_nil, List.drop_succ_cons, List.drop_zero, List.drop_nil, List.nil_append, List.append_nil, if_true, if_false, Bool.not_false, Bool.and_true, reduceCtorEq, true_and, and_self, Nat.zero_add, Nat.reduceAdd, Nat.reduceEqDiff, Nat.reduceLT, Nat.le_refl, Nat.reduceBEq, Nat.reduceBNe, Bool.false_eq_true, wp_regd, opsC_cons, opsCK_at, dsL_nil, dsL_cons, dsC, allocX, paOk, inPa, nsC, nsL_nil, nsL_cons, nonPs, freeAll, St.freeB, TV.freeB, eq_self, List.contains_cons, List.contains_nil, Bool.or_false, Option.isNone_none, one_int]
  have h25 := ok33 e1 n n m
  rw [if_pos rm] at h25
  refine call_fn rfl rfl rfl (h25) ?_
  simp -implicitDefEqProofs (maxSteps := 10000000) only [op_plain, step_call, putT_some, lk, Option.getD_some, Option.getD_none, List.set_cons_zero, List.set_cons_succ, List.map_cons, List.map_nil, List.all_cons, List.all_nil, if_true, if_false, Bool.not_false, Bool.and_true, reduceCtorEq, true_and, Nat.reduceAdd, Nat.reduceEqDiff, Nat.reduceBEq, Nat.reduceBNe, Bool.false_eq_true, opsC_cons, opsCK_at, dsL_nil, dsL_cons, dsC, allocX, paOk, inPa, nsC, nsL_nil, nsL_cons, nonPs, freeAll, St.freeB, TV.freeB, eq_self, List.contains_cons, List.contains_nil, Bool.or_false, Option.isNone_none]
  have r1 : right (n : Int) (n : Int) (prodF n n n m p).length = true := right_sq hn (by rw [prodF_len]; simp)
  have h13' := ok47 false false n n n n (prodF n n n m p) (turnF n n m)
  rw [if_pos ⟨r1, rt, rfl⟩] at h13'
  refine call_fn rfl rfl rfl (h13') ?_
  simp -implicitDefEqProofs (maxSteps := 10000000) only [wp_reg, wp_seq, seqK_normal, opsK_at, ops_cons, op_plain, step_call, step_move, step_assign, step_load, step_extract, step_alloc, step_store, opt_some, ev_tmp, putT_some, putT_none, pv_eq, st_tm, lk, upd, tov, stepA, valA, storeA, cellsOf, ldA, ldT, tovs, newToks, St.newBox, St.newTok, St.mapTV, TV.killPtr, TV.killTok, zeroT, PV.cells, PV.ok, PV.cell, Option.getD_some, Option.getD_none, Option.map_some, Option.bind_some, List.getElem?_cons_zero, List.getElem?_cons_succ, List.set_cons_zero, List.set_cons_succ, List.map_cons, List.map_nil, List.foldl_cons, List.foldl_nil, List.all_cons, List.all_nil, List.length_cons, List.length_nil, List.take_succ_cons, List.take_zero, List.take_nil, List.drop_succ_cons, List.drop_zero, List.drop_nil, List.nil_append, List.append_nil, if_true, if_false, Bool.not_false, Bool.and_true, reduceCtorEq, true_and, and_self, Nat.zero_add, Nat.reduceAdd, Nat.reduceEqDiff, Nat.reduceLT, Nat.le_refl, Nat.reduceBEq, Nat.reduceBNe, Bool.false_eq_true, opsC_nil, opsC_cons, opsCK_at, dsL_nil, dsL_cons, dsC, allocX, paOk, inPa, nsC, nsL_nil, nsL_cons, nonPs, freeAll, St.freeB, TV.freeB, eq_self, List.contains_cons, List.contains_nil, Bool.or_false, Option.isNone_none, one_int]
  have l2 : (prodF n n n (prodF n n n m p) (turnF n n m)).length = n * n := by rw [prodF_len]; simp
  have r2 := right_sq hn l2
  have h27 := ok73 false e3 n n n n (prodF n n n (prodF n n n m p) (turnF n n m)) q
  rw [if_pos ⟨r2, rq, rfl, rfl⟩] at h27
  refine call_fn rfl rfl rfl (h27) ?_
  simp -implicitDefEqProofs (maxSteps := 10000000) only [wp_skip, wp_reg0, wp_reg, wp_seq, wp_cond, wpK_at, execK_at, seqK_normal, opsK_at, ops_nil, ops_cons, op_plain, op_guardn, slotAt_zero, slotAt_succ, step_call, step_move, step_assign, step_pick, step_load, step_unOp, step_extract, step_alloc, step_store, opt_some, gB_false, ev_tmp, ev_const, putT_some, putT_none, pv_eq, st_tm, lk, upd, tov, stepA, valA, storeA, cellsOf, ldA, ldT, unA, bl, tovs, newToks, St.newBox, St.newTok, St.mapTV, TV.killPtr, TV.killTok, zeroT, PV.cells, PV.ok, PV.cell, Option.getD_some, Option.getD_none, Option.map_some, Option.bind_some, List.getElem?_cons_zero, List.getElem?_cons_succ, List.set_cons_zero, List.set_cons_succ, List.map_cons, List.map_nil, List.foldl_cons, List.foldl_nil, List.all_cons, List.all_nil, List.length_cons, List.length_nil, List.take_succ_cons, List.take_zero, List.take_nil, List.drop_succ_cons, List.drop_zero, List.drop_nil, List.nil_append, List.append_nil, if_true, if_false, Bool.not_true, Bool.and_true, reduceCtorEq, and_self, Nat.zero_add, Nat.reduceAdd, Nat.reduceEqDiff, Nat.reduceLT, Nat.le_refl, Bool.false_eq_true, eq_self, Option.isNone_none, one_int]
  have h33 := ok30 false n n (List.zipWith addF (prodF n n n (prodF n n n m p) (turnF n n m)) q)
  rw [if_pos ⟨right_sq hn (by rw [List.length_zipWith, l2, hq, Nat.min_self]), rfl⟩] at h33
  refine call_fn rfl rfl rfl (h33) ?_
  simp -implicitDefEqProofs (maxSteps := 10000000) only [wp_ret, seqK_normal, opsK_at, ops_nil, ops_cons, op_plain, step_assign, step_extract, step_store, opt_some, ev_tmp, putT_some, putT_none, pv_eq, lk, upd, tov, stepA, valA, storeA, cellsOf, ldA, ldT, tovs, PV.cells, PV.ok, PV.cell, Option.getD_some, Option.getD_none, Option.map_some, Option.bind_some, List.getElem?_cons_zero, List.getElem?_cons_succ, List.set_cons_zero, List.set_cons_succ, List.map_cons, List.map_nil, List.all_cons, List.all_nil, List.length_cons, List.length_nil, List.take_succ_cons, List.take_zero, List.take_nil, List.drop_succ_cons, List.drop_zero, List.drop_nil, List.nil_append, List.append_nil, if_true, if_false, Bool.and_true, reduceCtorEq, and_self, Nat.zero_add, Nat.reduceAdd, Nat.reduceEqDiff, Nat.reduceLT, Nat.le_refl, eq_self, one_int, RetQ_ret, resAll, res1, packR, turnedF]
end Go.Proofs.Ytadfcbpakfaaaaa.A
