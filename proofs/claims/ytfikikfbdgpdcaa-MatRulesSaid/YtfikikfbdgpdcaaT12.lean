import Derived.Test.YtfikikfbdgpdcaaT11
set_option linter.unusedVariables false
set_option linter.unusedSimpArgs false
set_option maxRecDepth 100000
namespace Go.Proofs.Ytfikikfbdgpdcaa.A
open Go Go.RowKit Go.Shelf

theorem ok16 (r c : Int) (n : Nat) : Ok Try.prog 16 [num r, num c, num n] (tru (right r c n)) := by
  refine ok_fn mixed Try.func16 (code := ?_) (h := h16) ?_ k16 ?_
  rotate_left
  · exact rfl
  unfold h16 initS
  simp -implicitDefEqProofs only [wp_reg0, wp_seq, seqK_normal, opsK_at, ops_nil, ops_cons, op_plain, op_guardn, slotAt_zero, slotAt_succ, step_move, step_assign, step_binOp, opt_some, ev_tmp, ev_const, putT_some, lk, stepA, valA, binA, num2, binV, Option.getD_none, Option.map_some, Option.bind_some, List.getElem?_cons_zero, List.getElem?_cons_succ, List.set_cons_zero, List.set_cons_succ, List.map_cons, List.map_nil, List.length_cons, List.length_nil, List.cons_append, List.nil_append, List.toList_toArray, List.replicate_succ, List.replicate_zero, if_true, Nat.zero_add, Nat.reduceAdd, Nat.reduceSub, Nat.reduceBEq, eq_self, Try.ntmps16, Try.results16]
  have no : ¬ (1 ≤ r ∧ r ≤ 16 ∧ 1 ≤ c ∧ c ≤ 16) → right r c n = false := by
    intro h
    cases hr : right r c n with
    | false => rfl
    | true => exact absurd (right_spec hr) (by omega)
  repeat' (refine gB_dec ?_ ?_ <;> intro hc <;> first | (exfalso; omega) | simp -implicitDefEqProofs only [hc, wp_skip, wp_reg0, wp_seq, wp_cond, wp_ret, wpK_at, execK_at, junkK_at, seqK_normal, seqK_ret, opsK_at, ops_nil, ops_cons, op_plain, op_guardn, slotAt_zero, slotAt_succ, step_move, step_assign, step_pick, step_binOp, opt_some, gB_true, gB_false, ev_tmp, ev_const, putT_some, pv_eq, lk, tov, stepA, valA, binA, num2, binV, Option.getD_none, Option.map_some, Option.bind_some, List.getElem?_cons_zero, List.getElem?_cons_succ, List.set_cons_zero, List.set_cons_succ, if_true, if_false, Nat.zero_add, Nat.reduceAdd, Nat.reduceBEq, Bool.false_eq_true, decide_true, decide_false, eq_self, RetQ_ret, resAll, res1, packR, Option.some.injEq])
  all_goals first | (rw [no (by omega)]; done) | skip
  have hm : 0 ≤ r * c ∧ r * c ≤ 256 := by
    have h1 : (r * c).natAbs = r.natAbs * c.natAbs := Int.natAbs_mul r c
    have h2 : r.natAbs * c.natAbs ≤ 16 * 16 := Nat.mul_le_mul (by omega) (by omega)
    have h3 : 0 ≤ r * c := Int.mul_nonneg (by omega) (by omega)
    omega
  have w := wrapped (x := r * c) (by omega) (by omega)
  simp only [w]
  have e1 : decide (1 ≤ r ∧ r ≤ 16) = true := by simp; omega
  have e2 : decide (1 ≤ c ∧ c ≤ 16) = true := by simp; omega
  simp only [right, e1, e2, Bool.true_and]

theorem Cs.mat_nil' {I : Imm} {xs ys : List PV} {vs : List Value} {ex : Bool} (h : Cs I (matNil :: xs) vs) (k : ∀ us, Cs I xs us → Cs I ys us) : Cs I (matV ex 0 0 (frs []) :: ys) vs := by
  have key : ∀ us, Cs I [num 0, num 0, .s (.slice none 0 0)] us → Cs I [num 0, num 0, .sl ex []] us := fun us h => Cs.keep h fun us h => Cs.keep h fun us h => Cs.nil_of h fun us h => h
  cases h with | cons h1 h2 => cases h1 with | agg hl => exact .cons (.agg (key _ hl)) (k _ h2)
theorem ok17_nil : Ok Try.prog 17 [matNil] (tru false) := (ok17 false 0 0 (frs [])).args fun I vs h => Cs.mat_nil h fun us h => h
theorem ok18_nil (i : Int) : Ok Try.prog 18 [matNil, num i] (.sl false []) := by
  have := (ok18 false 0 0 i []).args fun I vs h => Cs.mat_nil h fun us h => h
  have e : rowF 0 0 [] i = [] := if_neg (fun h => by simp [right] at h)
  rw [e] at this
  exact this

def colF (r c : Int) (l : List Fr) (k : Int) : List Fr := if right r c l.length = true then rowF c r (turnF r c l) k else []
theorem ok19 (ex : Bool) (r c k : Int) (l : List Fr) : Ok Try.prog 19 [matV ex r c (frs l), num k] (.sl false (frs (colF r c l k))) := by
  refine ok_fn mixed Try.func19 (code := ?_) (h := h19) ?_ k19 ?_
  rotate_left
  · exact rfl
  unfold h19 initS
  simp -implicitDefEqProofs only [wp_reg, wp_seq, seqK_normal, opsK_at, ops_nil, ops_cons, op_plain, step_call, step_assign, step_load, step_box, opt_some, ev_tmp, putT_some, st_tm, lk, upd, tov, stepA, cellsOf, ldA, ldT, tovs, St.newBox, St.newTok, St.mapTV, TV.killPtr, TV.killTok, PV.cells, PV.ok, PV.cell, Option.getD_some, Option.getD_none, Option.map_some, Option.bind_some, List.getElem?_cons_zero, List.getElem?_cons_succ, List.set_cons_zero, List.set_cons_succ, List.map_cons, List.map_nil, List.all_cons, List.all_nil, List.length_cons, List.length_nil, List.take_succ_cons, List.take_nil, List.drop_zero, List.cons_append, List.nil_append, List.toList_toArray, List.replicate_succ, List.replicate_zero, if_true, if_false, Bool.and_true, reduceCtorEq, and_self, Nat.zero_add, Nat.reduceAdd, Nat.reduceSub, Nat.le_refl, eq_self, Option.isNone_none, one_int, Try.ntmps19, Try.results19]
  have h25 := ok25 ex r c l
  cases hr : right r c l.length with
  | false =>
    rw [if_neg (by simp [hr])] at h25
    refine call_fn rfl rfl rfl (h25) ?_
    simp -implicitDefEqProofs only [opsK_at, ops_cons, op_plain, step_call, step_move, opt_some, ev_tmp, putT_some, lk, Option.getD_none, Option.map_some, List.getElem?_cons_zero, List.getElem?_cons_succ, List.set_cons_zero, List.set_cons_succ, if_false, reduceCtorEq, Nat.reduceAdd]
    refine call_fn rfl rfl rfl (ok18_nil k) ?_
    simp -implicitDefEqProofs only [wp_ret, seqK_normal, opsK_at, ops_nil, ops_cons, op_plain, step_assign, opt_some, ev_tmp, putT_some, lk, tov, stepA, valA, Option.getD_none, Option.map_some, Option.bind_some, List.getElem?_cons_zero, List.getElem?_cons_succ, List.set_cons_zero, List.set_cons_succ, if_false, reduceCtorEq, Nat.reduceAdd, RetQ_ret, resAll, res1, packR, Option.some.injEq]
    simp [colF, hr]
  | true =>
    rw [if_pos hr] at h25
    refine call_fn rfl rfl rfl (h25) ?_
    simp -implicitDefEqProofs only [opsK_at, ops_cons, op_plain, step_call, step_move, opt_some, ev_tmp, putT_some, lk, Option.getD_none, Option.map_some, List.getElem?_cons_zero, List.getElem?_cons_succ, List.set_cons_zero, List.set_cons_succ, if_false, reduceCtorEq, Nat.reduceAdd]
    refine call_fn rfl rfl rfl (ok18 false c r k (turnF r c l)) ?_
    simp -implicitDefEqProofs only [wp_ret, seqK_normal, opsK_at, ops_nil, ops_cons, op_plain, step_assign, opt_some, ev_tmp, putT_some, lk, tov, stepA, valA, Option.getD_none, Option.map_some, Option.bind_some, List.getElem?_cons_zero, List.getElem?_cons_succ, List.set_cons_zero, List.set_cons_succ, if_false, reduceCtorEq, Nat.reduceAdd, RetQ_ret, resAll, res1, packR, Option.some.injEq]
    simp [colF, hr]

theorem rowF_out {r c i : Int} {l : List Fr} (h : i < 0 ∨ r ≤ i) : rowF r c l i = [] := if_neg (fun h' => by omega)
theorem atF_out {r c i k : Int} {l : List Fr} (h : i < 0 ∨ r ≤ i ∨ k < 0 ∨ c ≤ k) : atF r c l i k = ⟨0, 0, false⟩ := if_neg (fun h' => by omega)

theorem eq_zero : cellsEq [some .i64, some .i64, none] [num 0, num 0, tru false] [num 0, num 0, tru false] = some true := rfl
theorem len_zero {l : List Fr} (h : l = []) : (((frs l).length : Int) == 0) = true := by simp [h]
theorem colF_eq {r c : Int} {l : List Fr} (h : right r c l.length = true) {k : Nat} (hk : k < c.toNat) : colF r c l k = (List.range r.toNat).map fun (j : Nat) => atF r c l (j : Int) (k : Int) := by
  unfold colF
  rw [if_pos h, rowF_eq ⟨0, 0, false⟩ (right_turn h) hk]
  apply List.map_congr_left
  intro j hj
  rw [List.mem_range] at hj
  rw [turnF_eq h, List.getD_eq_getElem?_getD, gridP_get _ _ _ _ _ hk hj, Option.getD_some]

set_option maxHeartbeats 4000000 in
theorem ok4 (el : Bool) (r c : Int) (l : List Int) (i k : Int) : Ok Try.prog 4 [num r, num c, .sl el (l.map num), num i, num k] (tru true) := by
  refine ok_fn mixed Try.func4 (code := ?_) (h := h4) ?_ k4 ?_
  rotate_left
  · exact rfl
  unfold h4 initS
  simp -implicitDefEqProofs only [wp_reg0, wp_seq, seqK_normal, opsK_at, ops_nil, ops_cons, op_plain, step_call, step_move, step_assign, opt_some, ev_tmp, ev_const, putT_some, lk, stepA, valA, Option.getD_none, Option.map_some, List.getElem?_cons_zero, List.getElem?_cons_succ, List.set_cons_zero, List.set_cons_succ, List.map_cons, List.map_nil, List.length_cons, List.length_nil, List.cons_append, List.nil_append, List.toList_toArray, List.replicate_succ, List.replicate_zero, Nat.zero_add, Nat.reduceAdd, Nat.reduceSub, Try.ntmps4, Try.results4]
  refine call_fn rfl rfl rfl (ok10 el l) ?_
  cases hl : fewB l with
  | false =>
    simp -implicitDefEqProofs only [wp_reg0, wp_seq, wp_cond, wpK_at, seqK_normal, opsK_at, ops_nil, ops_cons, op_plain, step_call, step_unOp, opt_some, gB_true, ev_tmp, putT_some, pv_eq, lk, tov, unA, bl, Option.getD_none, Option.map_some, Option.bind_some, List.getElem?_cons_zero, List.getElem?_cons_succ, List.set_cons_zero, List.set_cons_succ, Bool.not_false, Nat.zero_add, Nat.reduceAdd]
    refine call_fn rfl rfl rfl (ok11) ?_
    simp -implicitDefEqProofs only [wp_ret, seqK_normal, seqK_ret, opsK_at, ops_nil, ops_cons, op_plain, step_assign, opt_some, ev_tmp, putT_some, lk, tov, stepA, valA, Option.getD_none, Option.map_some, Option.bind_some, List.getElem?_cons_zero, List.getElem?_cons_succ, List.set_cons_zero, List.set_cons_succ, Nat.reduceAdd, eq_self, RetQ_ret, resAll, res1, packR]
  | true =>
    obtain ⟨ll, sl⟩ := fewB_spec hl
    simp -implicitDefEqProofs only [wp_skip, wp_reg, wp_seq, wp_cond, wpK_at, seqK_normal, opsK_at, ops_nil, ops_cons, op_plain, step_call, step_move, step_unOp, opt_some, gB_false, ev_tmp, putT_some, pv_eq, lk, tov, unA, bl, Option.getD_none, Option.map_some, Option.bind_some, List.getElem?_cons_zero, List.getElem?_cons_succ, List.set_cons_zero, List.set_cons_succ, if_false, Bool.not_true, reduceCtorEq, Nat.zero_add, Nat.reduceAdd, Nat.reduceEqDiff]
    refine call_fn rfl rfl rfl (ok12 r c el l (by omega)) ?_
    cases hx : right r c l.length with
    | false =>
      simp -implicitDefEqProofs only [List.length_map, wp_reg0, wp_seq, seqK_normal, opsK_at, ops_nil, ops_cons, op_plain, step_call, step_builtin, step_move, step_assign, step_extract, step_alloc, step_store, opt_some, ev_tmp, putT_some, putT_none, pv_eq, st_tm, lk, upd, tov, stepA, valA, storeA, cellsOf, lenA, newToks, St.newBox, St.newTok, St.mapTV, TV.killPtr, TV.killTok, zeroT, PV.cells, PV.ok, PV.cell, Option.getD_some, Option.getD_none, Option.map_some, Option.bind_some, List.getElem?_cons_zero, List.getElem?_cons_succ, List.set_cons_zero, List.set_cons_succ, List.map_cons, List.map_nil, List.foldl_cons, List.foldl_nil, List.all_cons, List.all_nil, List.length_cons, List.length_nil, List.take_zero, List.drop_succ_cons, List.drop_nil, List.nil_append, List.append_nil, if_true, if_false, Bool.and_true, and_self, Nat.zero_add, Nat.reduceAdd, Nat.reduceEqDiff, Nat.reduceLT, Nat.le_refl, Bool.false_eq_true, eq_self, Option.isNone_none, one_int, one_slice]
      refine call_fn rfl rfl rfl (ok16 r c l.length) ?_
      simp -implicitDefEqProofs only [hx, wp_reg, wp_seq, wp_cond, wpK_at, execK_at, seqK_normal, opsK_at, ops_nil, ops_cons, op_plain, op_guard, slotAt_zero, slotAt_succ, step_call, step_move, step_load, step_unOp, opt_some, gB_true, ev_tmp, putT_some, pv_eq, lk, tov, ldA, ldT, unA, bl, tovs, Option.getD_some, Option.getD_none, Option.map_some, Option.bind_some, List.getElem?_cons_zero, List.getElem?_cons_succ, List.set_cons_zero, List.set_cons_succ, List.length_cons, List.length_nil, List.take_succ_cons, List.take_nil, List.drop_zero, if_true, if_false, Bool.not_false, reduceCtorEq, Nat.zero_add, Nat.reduceAdd, Nat.reduceEqDiff, Nat.le_refl, eq_self]
      refine call_fn rfl rfl rfl (ok14_nil) ?_
      simp -implicitDefEqProofs only [execK_at, opsK_at, ops_cons, op_plain, op_guard, slotAt_zero, slotAt_succ, step_call, step_move, step_pick, step_load, opt_some, gB_true, ev_tmp, ev_const, putT_some, pv_eq, lk, tov, valA, ldA, ldT, tovs, Option.getD_some, Option.getD_none, Option.map_some, Option.bind_some, List.getElem?_cons_zero, List.getElem?_cons_succ, List.set_cons_zero, List.set_cons_succ, List.length_cons, List.length_nil, List.take_succ_cons, List.take_nil, List.drop_zero, if_true, if_false, Nat.zero_add, Nat.reduceAdd, Nat.reduceEqDiff, Nat.le_refl, eq_self]
      refine call_fn rfl rfl rfl (ok17_nil) ?_
      simp -implicitDefEqProofs only [execK_at, opsK_at, ops_cons, op_plain, op_guard, slotAt_zero, slotAt_succ, step_call, step_move, step_pick, step_unOp, opt_some, gB_true, ev_tmp, ev_const, putT_some, pv_eq, lk, tov, valA, unA, bl, Option.getD_none, Option.map_some, Option.bind_some, List.getElem?_cons_zero, List.getElem?_cons_succ, List.set_cons_zero, List.set_cons_succ, if_true, if_false, Bool.not_false, Nat.zero_add, Nat.reduceAdd, Nat.reduceEqDiff, eq_self]
      refine call_fn rfl rfl rfl (ok11) ?_
      simp -implicitDefEqProofs only [wp_ret, seqK_normal, seqK_ret, opsK_at, ops_nil, ops_cons, op_plain, step_assign, step_pick, opt_some, ev_tmp, ev_const, putT_some, pv_eq, lk, tov, stepA, valA, Option.getD_none, Option.map_some, Option.bind_some, List.getElem?_cons_zero, List.getElem?_cons_succ, List.set_cons_zero, List.set_cons_succ, if_true, if_false, Nat.reduceAdd, Nat.reduceEqDiff, eq_self, RetQ_ret, resAll, res1, packR]
    | true =>
      simp -implicitDefEqProofs only [List.length_map, wp_reg0, wp_seq, seqK_normal, opsK_at, ops_nil, ops_cons, op_plain, step_call, step_builtin, step_move, step_assign, step_extract, step_alloc, step_store, opt_some, ev_tmp, putT_some, putT_none, pv_eq, st_tm, lk, upd, tov, stepA, valA, storeA, cellsOf, lenA, newToks, St.newBox, St.newTok, St.mapTV, TV.killPtr, TV.killTok, zeroT, PV.cells, PV.ok, PV.cell, Option.getD_some, Option.getD_none, Option.map_some, Option.bind_some, List.getElem?_cons_zero, List.getElem?_cons_succ, List.set_cons_zero, List.set_cons_succ, List.map_cons, List.map_nil, List.foldl_cons, List.foldl_nil, List.all_cons, List.all_nil, List.length_cons, List.length_nil, List.take_zero, List.drop_succ_cons, List.drop_nil, List.nil_append, List.append_nil, if_true, if_false, Bool.and_true, and_self, Nat.zero_add, Nat.reduceAdd, Nat.reduceEqDiff, Nat.reduceLT, Nat.le_refl, eq_self, Option.isNone_none, one_int]
      refine call_fn rfl rfl rfl (ok16 r c l.length) ?_
      simp -implicitDefEqProofs only [hx, wp_skip, wp_reg, wp_seq, wp_cond, wpK_at, execK_at, seqK_normal, opsK_at, ops_nil, ops_cons, op_plain, op_guardn, slotAt_zero, slotAt_succ, step_call, step_move, step_load, step_unOp, opt_some, gB_false, ev_tmp, putT_some, pv_eq, lk, tov, ldA, ldT, unA, bl, tovs, Option.getD_some, Option.getD_none, Option.map_some, Option.bind_some, List.getElem?_cons_zero, List.getElem?_cons_succ, List.set_cons_zero, List.set_cons_succ, List.length_cons, List.length_nil, List.take_succ_cons, List.take_nil, List.drop_zero, if_true, if_false, Bool.not_true, reduceCtorEq, Nat.zero_add, Nat.reduceAdd, Nat.reduceEqDiff, Nat.le_refl, eq_self]
      have h17 := ok17 false r c (frs (l.map (newF · 1)))
      have hx' : right r c (l.map (newF · 1)).length = true := by simpa using hx
      have hx2 : right r c (frs (l.map (newF · 1))).length = true := by simpa using hx
      rw [hx2] at h17
      refine call_fn rfl rfl rfl (h17) ?_
      simp -implicitDefEqProofs only [execK_at, opsK_at, ops_cons, op_plain, op_guardn, slotAt_zero, slotAt_succ, step_call, step_move, step_pick, step_load, step_unOp, opt_some, gB_false, ev_tmp, ev_const, putT_some, pv_eq, lk, tov, valA, ldA, ldT, unA, bl, tovs, Option.getD_some, Option.getD_none, Option.map_some, Option.bind_some, List.getElem?_cons_zero, List.getElem?_cons_succ, List.set_cons_zero, List.set_cons_succ, List.length_cons, List.length_nil, List.take_succ_cons, List.take_nil, List.drop_zero, if_true, if_false, Bool.not_true, Nat.zero_add, Nat.reduceAdd, Nat.reduceEqDiff, Nat.le_refl, Bool.false_eq_true, eq_self]
      refine call_fn rfl rfl rfl (ok14 false el r c (l.map (newF · 1)) l (by omega) rfl) ?_
      simp -implicitDefEqProofs only [wp_skip, wp_draw, wp_seq, wp_cond, wpK_at, execK_at, seqK_normal, opsK_at, ops_nil, ops_cons, op_plain, op_guardn, slotAt_zero, slotAt_succ, step_call, step_move, step_pick, step_load, step_unOp, opt_some, gB_false, ev_tmp, ev_const, putT_some, pv_eq, lk, tov, valA, ldA, ldT, unA, bl, tovs, Option.getD_some, Option.getD_none, Option.map_some, Option.bind_some, List.getElem?_cons_zero, List.getElem?_cons_succ, List.set_cons_zero, List.set_cons_succ, List.length_cons, List.length_nil, List.take_succ_cons, List.take_nil, List.drop_zero, if_true, if_false, Bool.not_true, reduceCtorEq, Nat.zero_add, Nat.reduceAdd, Nat.reduceEqDiff, Nat.le_refl, Bool.false_eq_true, eq_self]
      refine call_fn rfl rfl rfl (ok18 false r c i (l.map (newF · 1))) ?_
      simp -implicitDefEqProofs only [opsK_at, ops_cons, op_plain, step_call, step_move, step_load, opt_some, ev_tmp, putT_some, lk, tov, ldA, ldT, tovs, Option.getD_some, Option.getD_none, Option.map_some, Option.bind_some, List.getElem?_cons_zero, List.getElem?_cons_succ, List.set_cons_zero, List.set_cons_succ, List.length_cons, List.length_nil, List.take_succ_cons, List.take_nil, List.drop_zero, if_true, if_false, reduceCtorEq, Nat.zero_add, Nat.reduceAdd, Nat.reduceEqDiff, Nat.le_refl, eq_self]
      refine call_fn rfl rfl rfl (ok19 false r c k (l.map (newF · 1))) ?_
      simp -implicitDefEqProofs only [wp_reg0, wp_seq, seqK_normal, opsK_at, ops_nil, ops_cons, op_plain, op_guardn, slotAt_zero, slotAt_succ, step_move, step_assign, step_binOp, opt_some, ev_tmp, ev_const, putT_some, lk, stepA, valA, binA, num2, binV, Option.getD_none, Option.map_some, Option.bind_some, List.getElem?_cons_zero, List.getElem?_cons_succ, List.set_cons_zero, List.set_cons_succ, if_true, if_false, reduceCtorEq, Nat.zero_add, Nat.reduceAdd, Nat.reduceEqDiff, Nat.reduceBEq, eq_self]
      obtain ⟨r1, r2, c1, c2, hn⟩ := right_spec hx
      have out1 : (i < 0 ∨ r ≤ i) → rowF r c (l.map (newF · 1)) i = [] := rowF_out
      have out2 : (k < 0 ∨ c ≤ k) → colF r c (l.map (newF · 1)) k = [] := fun h => by
        unfold colF
        rw [if_pos hx', rowF_out h]
      by_cases hi : i < 0 ∨ r ≤ i
      · have h0 : ((frs (rowF r c (l.map (newF · 1)) i)).length : Int) = 0 := by simp [out1 hi]
        repeat' (refine gB_dec ?_ ?_ <;> intro hc <;> first | (exfalso; omega) | simp -implicitDefEqProofs only [hc, wp_reg, wp_seq, wp_cond, wpK_at, execK_at, junkK_at, seqK_normal, opsK_at, ops_nil, ops_cons, op_plain, op_guard, op_guardn, slotAt_zero, slotAt_succ, step_call, step_builtin, step_move, step_pick, step_load, step_binOp, opt_some, gB_true, gB_false, ev_tmp, ev_const, putT_some, pv_eq, lk, tov, stepA, valA, ldA, ldT, lenA, binA, num2, binV, tovs, Option.getD_some, Option.getD_none, Option.map_some, Option.bind_some, List.getElem?_cons_zero, List.getElem?_cons_succ, List.set_cons_zero, List.set_cons_succ, List.length_cons, List.length_nil, List.take_succ_cons, List.take_nil, List.drop_zero, if_true, if_false, reduceCtorEq, Nat.zero_add, Nat.reduceAdd, Nat.reduceEqDiff, Nat.le_refl, Nat.reduceBEq, Bool.false_eq_true, decide_true, decide_false, eq_self])
        all_goals
          refine call_fn rfl rfl rfl (ok20 false r c i k (l.map (newF · 1))) ?_
          rw [atF_out (by omega)]
          simp -implicitDefEqProofs only [eq_zero, beq_self_eq_true, execK_at, opsK_at, ops_cons, op_plain, op_guard, slotAt_zero, slotAt_succ, step_call, step_move, step_pick, step_binOp, step_build, opt_some, gB_true, ev_tmp, ev_const, putT_some, pv_eq, lk, tov, valA, bl, binA, num2, eqA, pvs, fillA, Option.getD_some, Option.getD_none, Option.map_some, Option.bind_some, List.getElem?_cons_zero, List.getElem?_cons_succ, List.set_cons_zero, List.set_cons_succ, List.map_cons, List.map_nil, List.zip_nil_left, if_true, if_false, Nat.zero_add, Nat.reduceAdd, Nat.reduceEqDiff, Nat.reduceBEq, eq_self]
          refine call_fn rfl rfl rfl (ok11) ?_
          simp -implicitDefEqProofs only [wp_ret, seqK_normal, seqK_ret, opsK_at, ops_nil, ops_cons, op_plain, step_assign, step_pick, opt_some, ev_tmp, ev_const, putT_some, pv_eq, lk, tov, stepA, valA, Option.getD_none, Option.map_some, Option.bind_some, List.getElem?_cons_zero, List.getElem?_cons_succ, List.set_cons_zero, List.set_cons_succ, if_true, if_false, Nat.reduceAdd, Nat.reduceEqDiff, eq_self, RetQ_ret, resAll, res1, packR]
      by_cases hk : k < 0 ∨ c ≤ k
      · have h0 : ((frs (colF r c (l.map (newF · 1)) k)).length : Int) = 0 := by simp [out2 hk]
        repeat' (refine gB_dec ?_ ?_ <;> intro hc <;> first | (exfalso; omega) | simp -implicitDefEqProofs only [hc, wp_skip, wp_reg0, wp_reg, wp_seq, wp_cond, wpK_at, execK_at, junkK_at, seqK_normal, opsK_at, ops_nil, ops_cons, op_plain, op_guard, op_guardn, slotAt_zero, slotAt_succ, step_call, step_builtin, step_move, step_pick, step_load, step_binOp, opt_some, gB_true, gB_false, ev_tmp, ev_const, putT_some, pv_eq, lk, tov, stepA, valA, ldA, ldT, lenA, binA, num2, binV, tovs, Option.getD_some, Option.getD_none, Option.map_some, Option.bind_some, List.getElem?_cons_zero, List.getElem?_cons_succ, List.set_cons_zero, List.set_cons_succ, List.length_cons, List.length_nil, List.take_succ_cons, List.take_nil, List.drop_zero, if_true, if_false, reduceCtorEq, Nat.zero_add, Nat.reduceAdd, Nat.reduceEqDiff, Nat.le_refl, Nat.reduceBEq, Bool.false_eq_true, decide_true, decide_false, eq_self])
        all_goals
          refine call_fn rfl rfl rfl (ok20 false r c i k (l.map (newF · 1))) ?_
          rw [atF_out (by omega)]
          simp -implicitDefEqProofs only [eq_zero, beq_self_eq_true, execK_at, opsK_at, ops_cons, op_plain, op_guard, slotAt_zero, slotAt_succ, step_call, step_move, step_pick, step_binOp, step_build, opt_some, gB_true, ev_tmp, ev_const, putT_some, pv_eq, lk, tov, valA, bl, binA, num2, eqA, pvs, fillA, Option.getD_some, Option.getD_none, Option.map_some, Option.bind_some, List.getElem?_cons_zero, List.getElem?_cons_succ, List.set_cons_zero, List.set_cons_succ, List.map_cons, List.map_nil, List.zip_nil_left, if_true, if_false, Nat.zero_add, Nat.reduceAdd, Nat.reduceEqDiff, Nat.reduceBEq, eq_self]
          refine call_fn rfl rfl rfl (ok11) ?_
          simp -implicitDefEqProofs only [wp_ret, seqK_normal, seqK_ret, opsK_at, ops_nil, ops_cons, op_plain, step_assign, step_pick, opt_some, ev_tmp, ev_const, putT_some, pv_eq, lk, tov, stepA, valA, Option.getD_none, Option.map_some, Option.bind_some, List.getElem?_cons_zero, List.getElem?_cons_succ, List.set_cons_zero, List.set_cons_succ, if_true, if_false, Nat.reduceAdd, Nat.reduceEqDiff, eq_self, RetQ_ret, resAll, res1, packR]
      obtain ⟨R, rfl⟩ := Int.eq_ofNat_of_zero_le (show 0 ≤ r by omega)
      obtain ⟨K, rfl⟩ := Int.eq_ofNat_of_zero_le (show 0 ≤ c by omega)
      obtain ⟨i, rfl⟩ := Int.eq_ofNat_of_zero_le (show 0 ≤ i by omega)
      obtain ⟨k, rfl⟩ := Int.eq_ofNat_of_zero_le (show 0 ≤ k by omega)
      have hll : l.length = R * K := by
        have : ((R * K : Nat) : Int) = l.length := by rw [Int.natCast_mul, hn]
        omega
      have hrow := rowF_eq ⟨0, 0, false⟩ hx' (i := i) (by simp; omega)
      have hcol := colF_eq hx' (k := k) (by simp; omega)
      have rl : ((frs (rowF (R : Int) (K : Int) (l.map (newF · 1)) (i : Int))).length : Int) = K := by rw [hrow]; simp
      have cl : ((frs (colF (R : Int) (K : Int) (l.map (newF · 1)) (k : Int))).length : Int) = R := by rw [hcol]; simp
      have tt := at_table (i := i) (j := k) (n := R) (m := K) (by omega) (by omega)
      have c1 : (i : Int) * (K : Int) = ((i * K : Nat) : Int) := by simp
      have c3 : ((i * K : Nat) : Int) + (k : Int) = ((i * K + k : Nat) : Int) := by simp
      have w1 := wrapped (x := ((i * K : Nat) : Int)) (by omega) (by omega)
      have w3 := wrapped (x := ((i * K + k : Nat) : Int)) (by omega) (by omega)
      have g1 := at_num (a := l) (i := i * K + k) (by omega)
      have n1 : (0 : Int) ≤ ((i * K + k : Nat) : Int) := by omega
      have ha := atF_eq hx' (i := i) (k := k) (by simp; omega) (by simp; omega)
      repeat' (refine gB_dec ?_ ?_ <;> intro hc <;> first | (exfalso; omega) | simp -implicitDefEqProofs only [hc, wp_skip, wp_reg0, wp_draw, wp_seq, wp_cond, wpK_at, execK_at, seqK_normal, opsK_at, ops_nil, ops_cons, op_plain, op_guardn, slotAt_zero, slotAt_succ, step_builtin, step_move, step_pick, step_binOp, opt_some, gB_false, ev_tmp, ev_const, putT_some, pv_eq, lk, tov, stepA, valA, lenA, binA, num2, binV, Option.getD_none, Option.map_some, Option.bind_some, List.getElem?_cons_zero, List.getElem?_cons_succ, List.set_cons_zero, List.set_cons_succ, if_true, if_false, reduceCtorEq, Nat.zero_add, Nat.reduceAdd, Nat.reduceEqDiff, Nat.reduceBEq, Bool.false_eq_true, decide_false, eq_self])
      have e1 : (((frs (rowF (R : Int) (K : Int) (l.map (newF · 1)) (i : Int))).length : Int) != (K : Int)) = false := by rw [rl]; simp
      simp only [e1]
      simp -implicitDefEqProofs only [execK_at, opsK_at, ops_cons, op_plain, op_guardn, slotAt_zero, slotAt_succ, step_builtin, step_move, step_pick, step_binOp, opt_some, gB_false, ev_tmp, ev_const, putT_some, pv_eq, lk, tov, stepA, valA, lenA, binA, num2, binV, Option.getD_some, Option.getD_none, Option.map_some, Option.bind_some, List.getElem?_cons_zero, List.getElem?_cons_succ, List.set_cons_zero, List.set_cons_succ, if_true, if_false, Nat.zero_add, Nat.reduceAdd, Nat.reduceEqDiff, Nat.reduceBEq, Bool.false_eq_true, eq_self]
      have e2 : (((frs (colF (R : Int) (K : Int) (l.map (newF · 1)) (k : Int))).length : Int) != (R : Int)) = false := by rw [cl]; simp
      simp only [e2]
      simp -implicitDefEqProofs only [execK_at, opsK_at, ops_cons, op_guardn, slotAt_zero, slotAt_succ, step_call, step_move, step_load, opt_some, gB_false, ev_tmp, putT_some, lk, tov, ldA, ldT, tovs, Option.getD_none, Option.map_some, Option.bind_some, List.getElem?_cons_zero, List.getElem?_cons_succ, List.set_cons_zero, List.set_cons_succ, List.length_cons, List.length_nil, List.take_succ_cons, List.take_nil, List.drop_zero, if_true, if_false, Nat.zero_add, Nat.reduceAdd, Nat.reduceEqDiff, Nat.le_refl, eq_self]
      refine call_fn rfl rfl rfl (ok20 false R K i k (l.map (newF · 1))) ?_
      have hv : atF (R : Int) (K : Int) (l.map (newF · 1)) (i : Int) (k : Int) = newF (l.getD (i * K + k) 0) 1 := by
        rw [ha]
        exact getD_newF (by simp; omega) _
      rw [hv]
      simp -implicitDefEqProofs only [c1, w1, c3, w3, n1, Int.toNat_natCast, g1, execK_at, opsK_at, ops_cons, op_guardn, slotAt_zero, slotAt_succ, step_call, step_move, step_load, step_indexAddr, step_binOp, opt_some, gB_false, ev_tmp, putT_some, pv_eq, lk, tov, valA, ldA, ldC, idxAddrA, idxA, binA, num2, binV, PV.cells, Option.getD_some, Option.getD_none, Option.map_some, Option.bind_some, List.getElem?_cons_zero, List.getElem?_cons_succ, List.set_cons_zero, List.set_cons_succ, List.length_cons, List.length_nil, List.take_succ_cons, List.take_nil, if_true, if_false, Nat.zero_add, Nat.reduceAdd, Nat.reduceEqDiff, Nat.le_refl, Nat.reduceBEq, Bool.false_eq_true, eq_self]
      refine call_fn rfl rfl rfl (ok21 (l.getD (i * K + k) 0) 1) ?_
      simp -implicitDefEqProofs only [eq_fr, wp_skip, wp_reg0, wp_seq, wp_cond, wp_block, wpK_at, execK_at, seqK_normal, opsK_at, ops_nil, ops_cons, op_plain, op_guardn, slotAt_zero, slotAt_succ, step_move, step_pick, step_binOp, opt_some, gB_false, ev_tmp, ev_const, putT_some, pv_eq, lk, tov, valA, bl, binA, num2, eqA, Option.getD_some, Option.getD_none, Option.map_some, Option.bind_some, List.getElem?_cons_zero, List.getElem?_cons_succ, List.set_cons_zero, List.set_cons_succ, if_true, if_false, Bool.not_true, Nat.zero_add, Nat.reduceAdd, Nat.reduceEqDiff, Nat.reduceBEq, Bool.false_eq_true, decide_true, eq_self]
      have hrg : ∀ j : Nat, j < K → (frs (rowF (R : Int) (K : Int) (l.map (newF · 1)) (i : Int)))[j]? = some (frV (newF (l.getD (i * K + j) 0) 1)) := fun j hj => by
        have := at_table (i := i) (j := j) (n := R) (m := K) (by omega) hj
        rw [hrow, List.getElem?_map, List.getElem?_map, List.getElem?_range (by simpa using hj)]
        simp only [Option.map_some, Int.toNat_natCast]
        rw [getD_newF (by omega)]
      have hcg : ∀ j : Nat, j < R → (frs (colF (R : Int) (K : Int) (l.map (newF · 1)) (k : Int)))[j]? = some (frV (newF (l.getD (j * K + k) 0) 1)) := fun j hj => by
        have := at_table (i := j) (j := k) (n := R) (m := K) hj (by omega)
        rw [hcol, List.getElem?_map, List.getElem?_map, List.getElem?_range (by simpa using hj)]
        simp only [Option.map_some]
        rw [atF_eq hx' (by simpa using hj) (by simp; omega), getD_newF (by simp; omega)]
        simp only [Int.toNat_natCast]
      have hln : l.length ≤ 256 := ll
      refine wp_loop (fun m s => ∃ j : Nat, j + m = K ∧ s = ⟨[nt R, nt K, .v (.sl el (l.map num)), nt i, nt k, jk, jk, jk, jk, jk, jk, jk, jk, .v (.sl false (frs (rowF (R : Int) (K : Int) (l.map (newF · 1)) (i : Int)))), .v (.sl false (frs (colF (R : Int) (K : Int) (l.map (newF · 1)) (k : Int)))), jk, jk, jk, jk, jk, jk, jk, jk, jk, jk, jk, jk, jk, jk, jk, jk, jk, jk, jk, jk, jk, jk, jk, jk, jk, jk, jk, jk, jk, jk, jk, jk, jk, jk, jk, jk, jk, jk, jk, jk, jk, jk, jk, jk, jk, jk, jk, jk, jk, jk, jk, jk, jk, jk, jk, jk, jk, jk, jk, jk, jk, jk, jk, jk, jk, jk, jk, jk, jk, jk, jk, jk, jk, jk, jk, jk, jk, jk, jk, jk, jk, jk, jk, jk, jk, jk, jk, jk, jk, jk, jk, jk, jk, jk, jk, jk, jk, jk, jk, jk, jk, jk, jk, jk, jk, jk, jk, jk, jk, jk, jk, jk, jk, jk, jk, jk, jk, jk, jk, jk, jk, jk, nt K, nt j, jk, jk, jk, jk, jk, jk, jk, jk, jk, jk, jk, jk, jk, jk, jk, jk, jk, jk, jk, jk, jk, jk, jk, jk, jk, jk, jk, jk, jk, jk, jk, jk, jk, jk, jk, jk, jk],
        [(11, [nt R, nt K, .v (.sl false (frs (l.map (newF · 1))))])], [], [(3011, 0)], [], 0⟩) K ?_ ?_
      · simp -implicitDefEqProofs only [opt_some, ghs, gh1, junkAll, Option.bind_some, List.set_cons_zero, List.set_cons_succ]
        exact ⟨0, by simp, rfl⟩
      rintro m s ⟨j, hj, rfl⟩
      simp -implicitDefEqProofs only [wp_reg0, wp_seq, wp_cond, seqK_normal, opsK_at, ops_nil, ops_cons, op_plain, step_binOp, opt_some, ev_tmp, putT_some, lk, valA, binA, num2, binV, Option.getD_none, Option.map_some, List.getElem?_cons_zero, List.getElem?_cons_succ, List.set_cons_zero, List.set_cons_succ, if_true, Nat.zero_add, Nat.reduceBEq, eq_self]
      refine gB_dec ?_ ?_ <;> intro hc <;> simp -implicitDefEqProofs only [hc, wp_skip, wp_reg0, wp_draw, wp_seq, wp_block, wp_exit, wpK_at, seqK_normal, seqK_exit, blockK_exit, loopK_exit, opsK_at, ops_nil, ops_cons, op_plain, step_move, step_assign, step_indexAddr, opt_some, ev_tmp, ev_const, putT_some, pv_eq, lk, tov, stepA, valA, idxAddrA, idxA, PV.cells, Option.getD_some, Option.getD_none, Option.map_some, Option.bind_some, List.getElem?_cons_zero, List.getElem?_cons_succ, List.set_cons_zero, List.set_cons_succ, if_true, if_false, reduceCtorEq, Nat.zero_add, Nat.reduceAdd, Nat.reduceEqDiff, decide_true, decide_false, eq_self]
      · have tj := at_table (i := i) (j := j) (n := R) (m := K) (by omega) (by omega)
        have d3 : ((i * K : Nat) : Int) + (j : Int) = ((i * K + j : Nat) : Int) := by simp
        have v3 := wrapped (x := ((i * K + j : Nat) : Int)) (by omega) (by omega)
        have vj := wrapped (x := (j : Int) + 1) (by omega) (by omega)
        have gj := at_num (a := l) (i := i * K + j) (by omega)
        have nj : (0 : Int) ≤ ((i * K + j : Nat) : Int) := by omega
        have nj' : (0 : Int) ≤ (j : Int) := by omega
        have hr := hrg j (by omega)
        simp -implicitDefEqProofs only [nj', Int.toNat_natCast, hr, c1, w1, d3, v3, nj, gj, opsK_at, ops_cons, op_plain, step_call, step_move, step_load, step_indexAddr, step_binOp, opt_some, ev_tmp, putT_some, pv_eq, lk, tov, valA, ldA, ldC, idxAddrA, idxA, binA, num2, binV, PV.cells, Option.getD_some, Option.getD_none, Option.map_some, Option.bind_some, List.getElem?_cons_zero, List.getElem?_cons_succ, List.set_cons_zero, List.set_cons_succ, List.length_cons, List.length_nil, List.take_succ_cons, List.take_nil, if_true, if_false, Nat.zero_add, Nat.reduceAdd, Nat.reduceEqDiff, Nat.le_refl, Nat.reduceBEq, Bool.false_eq_true, eq_self]
        refine call_fn rfl rfl rfl (ok21 (l.getD (i * K + j) 0) 1) ?_
        simp -implicitDefEqProofs only [eq_fr, vj, wp_skip, wp_reg0, wp_cond, wpK_at, seqK_normal, blockK_normal, opsK_at, ops_nil, ops_cons, op_plain, step_move, step_binOp, opt_some, gB_false, ev_tmp, ev_const, putT_some, lk, valA, bl, binA, num2, binV, eqA, Option.getD_some, Option.getD_none, Option.map_some, List.getElem?_cons_zero, List.getElem?_cons_succ, List.set_cons_zero, List.set_cons_succ, if_true, if_false, Bool.not_true, Nat.zero_add, Nat.reduceAdd, Nat.reduceEqDiff, Nat.reduceBEq, decide_true, eq_self]
        refine loopK_of (m' := m - 1) (by omega) ?_
        simp -implicitDefEqProofs only [opt_some, ghs, gh1, junkAll, Option.bind_some, List.set_cons_zero, List.set_cons_succ]
        exact ⟨j + 1, by omega, by simp only [Int.natCast_add, Int.natCast_one]⟩
      refine wp_loop (fun m s => ∃ j : Nat, j + m = R ∧ s = ⟨[jk, nt K, .v (.sl el (l.map num)), jk, nt k, jk, jk, jk, jk, jk, jk, jk, jk, jk, .v (.sl false (frs (colF (R : Int) (K : Int) (l.map (newF · 1)) (k : Int)))), jk, jk, jk, jk, jk, jk, jk, jk, jk, jk, jk, jk, jk, jk, jk, jk, jk, jk, jk, jk, jk, jk, jk, jk, jk, jk, jk, jk, jk, jk, jk, jk, jk, jk, jk, jk, jk, jk, jk, jk, jk, jk, jk, jk, jk, jk, jk, jk, jk, jk, jk, jk, jk, jk, jk, jk, jk, jk, jk, jk, jk, jk, jk, jk, jk, jk, jk, jk, jk, jk, jk, jk, jk, jk, jk, jk, jk, jk, jk, jk, jk, jk, jk, jk, jk, jk, jk, jk, jk, jk, jk, jk, jk, jk, jk, jk, jk, jk, jk, jk, jk, jk, jk, jk, jk, jk, jk, jk, jk, jk, jk, jk, jk, jk, jk, jk, jk, jk, jk, jk, jk, jk, jk, jk, jk, jk, jk, jk, jk, jk, jk, jk, jk, jk, jk, jk, jk, jk, jk, jk, jk, nt R, nt j, jk, jk, jk, jk, jk, jk, jk, jk, jk, jk, jk, jk, jk, jk, jk, jk, jk, jk],
        [(11, [nt R, nt K, .v (.sl false (frs (l.map (newF · 1))))])], [], [(3011, 0)], [], 0⟩) R ?_ ?_
      · simp -implicitDefEqProofs only [opt_some, ghs, gh1, junkAll, Option.bind_some, List.set_cons_zero, List.set_cons_succ]
        exact ⟨0, by simp, rfl⟩
      rintro m s ⟨j, hj, rfl⟩
      simp -implicitDefEqProofs only [wp_reg0, wp_seq, wp_cond, seqK_normal, opsK_at, ops_nil, ops_cons, op_plain, step_binOp, opt_some, ev_tmp, putT_some, lk, valA, binA, num2, binV, Option.getD_none, Option.map_some, List.getElem?_cons_zero, List.getElem?_cons_succ, List.set_cons_zero, List.set_cons_succ, if_true, Nat.zero_add, Nat.reduceBEq, eq_self]
      refine gB_dec ?_ ?_ <;> intro hc2 <;> simp -implicitDefEqProofs only [hc2, wp_skip, wp_reg0, wp_draw, wp_seq, wp_block, wp_exit, wpK_at, seqK_normal, seqK_exit, blockK_exit, loopK_exit, opsK_at, ops_nil, ops_cons, op_plain, step_call, step_move, step_assign, step_indexAddr, opt_some, ev_tmp, putT_some, pv_eq, lk, tov, stepA, valA, idxAddrA, idxA, PV.cells, Option.getD_some, Option.getD_none, Option.map_some, Option.bind_some, List.getElem?_cons_zero, List.getElem?_cons_succ, List.set_cons_zero, List.set_cons_succ, if_true, if_false, reduceCtorEq, Nat.zero_add, Nat.reduceAdd, Nat.reduceEqDiff, decide_true, decide_false, eq_self]
      · have tj := at_table (i := j) (j := k) (n := R) (m := K) (by omega) (by omega)
        have d1 : (j : Int) * (K : Int) = ((j * K : Nat) : Int) := by simp
        have d3 : ((j * K : Nat) : Int) + (k : Int) = ((j * K + k : Nat) : Int) := by simp
        have v1 := wrapped (x := ((j * K : Nat) : Int)) (by omega) (by omega)
        have v3 := wrapped (x := ((j * K + k : Nat) : Int)) (by omega) (by omega)
        have vj := wrapped (x := (j : Int) + 1) (by omega) (by omega)
        have gj := at_num (a := l) (i := j * K + k) (by omega)
        have nj : (0 : Int) ≤ ((j * K + k : Nat) : Int) := by omega
        have nj' : (0 : Int) ≤ (j : Int) := by omega
        have hr := hcg j (by omega)
        simp -implicitDefEqProofs only [nj', Int.toNat_natCast, hr, d1, v1, d3, v3, nj, gj, opsK_at, ops_cons, op_plain, step_call, step_move, step_load, step_indexAddr, step_binOp, opt_some, ev_tmp, putT_some, pv_eq, lk, tov, valA, ldA, ldC, idxAddrA, idxA, binA, num2, binV, PV.cells, Option.getD_some, Option.getD_none, Option.map_some, Option.bind_some, List.getElem?_cons_zero, List.getElem?_cons_succ, List.set_cons_zero, List.set_cons_succ, List.length_cons, List.length_nil, List.take_succ_cons, List.take_nil, if_true, if_false, Nat.zero_add, Nat.reduceAdd, Nat.reduceEqDiff, Nat.le_refl, Nat.reduceBEq, Bool.false_eq_true, eq_self]
        refine call_fn rfl rfl rfl (ok21 (l.getD (j * K + k) 0) 1) ?_
        simp -implicitDefEqProofs only [eq_fr, vj, wp_skip, wp_reg0, wp_cond, wpK_at, seqK_normal, blockK_normal, opsK_at, ops_nil, ops_cons, op_plain, step_move, step_binOp, opt_some, gB_false, ev_tmp, ev_const, putT_some, lk, valA, bl, binA, num2, binV, eqA, Option.getD_some, Option.getD_none, Option.map_some, List.getElem?_cons_zero, List.getElem?_cons_succ, List.set_cons_zero, List.set_cons_succ, if_true, if_false, Bool.not_true, Nat.zero_add, Nat.reduceAdd, Nat.reduceEqDiff, Nat.reduceBEq, decide_true, eq_self]
        refine loopK_of (m' := m - 1) (by omega) ?_
        simp -implicitDefEqProofs only [opt_some, ghs, gh1, junkAll, Option.bind_some, List.set_cons_zero, List.set_cons_succ]
        exact ⟨j + 1, by omega, by simp only [Int.natCast_add, Int.natCast_one]⟩
      refine call_fn rfl rfl rfl (ok11) ?_
      simp -implicitDefEqProofs only [wp_ret, seqK_normal, opsK_at, ops_nil, ops_cons, op_plain, step_assign, opt_some, ev_tmp, putT_some, lk, tov, stepA, valA, Option.getD_none, Option.map_some, Option.bind_some, List.getElem?_cons_zero, List.getElem?_cons_succ, List.set_cons_zero, List.set_cons_succ, Nat.reduceAdd, eq_self, RetQ_ret, resAll, res1, packR]
end Go.Proofs.Ytfikikfbdgpdcaa.A
