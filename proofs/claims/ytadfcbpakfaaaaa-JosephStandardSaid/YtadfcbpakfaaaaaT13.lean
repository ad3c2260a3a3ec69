import Derived.Test.YtadfcbpakfaaaaaT12
set_option linter.unusedVariables false
set_option linter.unusedSimpArgs false
set_option maxRecDepth 100000
namespace Go.Proofs.Ytadfcbpakfaaaaa.A
open Go Go.RowKit Go.Shelf

/-- A matrix applied to a row. -/
def applyF (r c : Int) (l v : List Fr) : List Fr := (allF r c l).map (dotF · v)

theorem ok15 (ex ev : Bool) (r c : Int) (l v : List Fr) (hv : v.length ≤ 5864062014805) : Ok Try.prog 15 [matV ex r c (frs l), .sl ev (frs v)]
    (if right r c l.length = true ∧ (v.length : Int) = c then .tup [.sl false (frs (applyF r c l v)), tru true] else .tup [.sl false [], tru false]) := by
  refine ok_fn mixed Try.func15 (code := ?_) (h := h15) ?_ k15 ?_
  rotate_left
  · exact rfl
  unfold h15 initS
  simp -implicitDefEqProofs only [wp_reg, wp_seq, seqK_normal, opsK_at, ops_nil, ops_cons, op_plain, step_call, step_assign, step_load, step_box, opt_some, ev_tmp, ev_const, putT_some, st_tm, lk, upd, tov, stepA, valA, cellsOf, ldA, ldT, tovs, St.newBox, St.newTok, St.mapTV, TV.killPtr, TV.killTok, PV.cells, PV.ok, PV.cell, Option.getD_some, Option.getD_none, Option.map_some, Option.bind_some, List.getElem?_cons_zero, List.getElem?_cons_succ, List.set_cons_zero, List.set_cons_succ, List.map_cons, List.map_nil, List.all_cons, List.all_nil, List.length_cons, List.length_nil, List.take_succ_cons, List.take_nil, List.drop_zero, List.cons_append, List.nil_append, List.toList_toArray, List.replicate_succ, List.replicate_zero, if_true, if_false, Bool.and_true, reduceCtorEq, and_self, Nat.zero_add, Nat.reduceAdd, Nat.reduceSub, Nat.reduceEqDiff, Nat.reduceLT, Nat.le_refl, eq_self, Option.isNone_none, one_int, Try.ntmps15, Try.results15]
  refine call_fn rfl rfl rfl (ok54 ex r c (frs l)) ?_
  have e : (frs l).length = l.length := by simp
  have ev' : (frs v).length = v.length := by simp
  rw [e]
  cases hr : right r c l.length with
  | false => simp -implicitDefEqProofs only [wp_reg, wp_seq, wp_cond, wp_ret, wpK_at, junkK_at, seqK_normal, seqK_ret, opsK_at, ops_nil, ops_cons, op_plain, op_guardn, slotAt_zero, slotAt_succ, step_move, step_assign, step_pick, step_unOp, opt_some, gB_true, ev_tmp, ev_const, putT_some, pv_eq, st_tm, lk, upd, tov, stepA, valA, unA, bl, St.newTok, St.mapTV, TV.killTok, Option.getD_some, Option.getD_none, Option.map_some, Option.bind_some, List.getElem?_cons_zero, List.getElem?_cons_succ, List.set_cons_zero, List.set_cons_succ, List.map_cons, List.map_nil, if_true, if_false, Bool.not_false, reduceCtorEq, false_and, Nat.zero_add, Nat.reduceAdd, Nat.reduceEqDiff, Nat.reduceLT, Bool.false_eq_true, eq_self, RetQ_ret, resAll, res1, packR]
  | true =>
    obtain ⟨r1, r2, c1, c2, hn⟩ := right_spec hr
    simp -implicitDefEqProofs only [ev', wp_cond, execK_at, seqK_normal, opsK_at, ops_nil, ops_cons, op_plain, op_guardn, slotAt_zero, slotAt_succ, step_builtin, step_move, step_pick, step_load, step_fieldAddr, step_binOp, step_unOp, opt_some, gB_false, ev_tmp, ev_const, putT_some, pv_eq, lk, tov, stepA, valA, ldA, ldT, fieldAddrA, lenA, unA, bl, binA, num2, binV, tovs, Option.getD_some, Option.getD_none, Option.map_some, Option.bind_some, List.getElem?_cons_zero, List.getElem?_cons_succ, List.set_cons_zero, List.set_cons_succ, List.length_cons, List.length_nil, List.take_succ_cons, List.take_zero, List.take_nil, List.drop_succ_cons, List.drop_zero, if_true, if_false, Bool.not_true, reduceCtorEq, true_and, Nat.zero_add, Nat.reduceAdd, Nat.reduceEqDiff, Nat.reduceLeDiff, Nat.le_refl, Nat.reduceBEq, Bool.false_eq_true, eq_self]
    refine gB_bool ?_ ?_ <;> intro hb
    · have hm : ¬ (v.length : Int) = c := by simpa using hb
      simp -implicitDefEqProofs only [hm, wp_reg, wp_seq, wp_ret, wpK_at, seqK_normal, seqK_ret, opsK_at, ops_nil, ops_cons, op_plain, step_assign, opt_some, ev_const, putT_some, st_tm, lk, upd, tov, stepA, valA, St.newTok, St.mapTV, TV.killTok, Option.getD_some, Option.getD_none, Option.map_some, Option.bind_some, List.getElem?_cons_zero, List.getElem?_cons_succ, List.set_cons_zero, List.set_cons_succ, List.map_cons, List.map_nil, if_true, if_false, reduceCtorEq, Nat.zero_add, Nat.reduceAdd, Nat.reduceLT, eq_self, RetQ_ret, resAll, res1, packR]
    · have hm : (v.length : Int) = c := by simpa using hb
      clear hb
      simp -implicitDefEqProofs only [hm, wp_skip, wp_reg, wp_seq, wpK_at, seqK_normal, opsK_at, ops_nil, ops_cons, op_plain, step_call, step_load, step_alloc, opt_some, ev_tmp, putT_some, st_tm, lk, upd, tov, stepA, ldA, ldT, tovs, newToks, St.newBox, St.newTok, St.mapTV, TV.killPtr, TV.killTok, zeroT, Option.getD_some, Option.getD_none, Option.map_some, Option.bind_some, List.getElem?_cons_zero, List.getElem?_cons_succ, List.set_cons_zero, List.set_cons_succ, List.map_cons, List.map_nil, List.foldl_cons, List.foldl_nil, List.length_cons, List.length_nil, List.take_succ_cons, List.take_nil, List.drop_zero, if_true, if_false, reduceCtorEq, Nat.zero_add, Nat.reduceAdd, Nat.reduceEqDiff, Nat.reduceLT, Nat.le_refl, eq_self, Option.isNone_none]
      refine call_fn rfl rfl rfl (ok55 ex r c l) ?_
      simp -implicitDefEqProofs only [wp_block, seqK_normal, opsK_at, ops_nil, putT_some, List.set_cons_zero, List.set_cons_succ]
      have hal : (applyF r c l v).length = r.toNat := by simp [applyF, allF]
      have hll : l.length ≤ 256 := by
        have : r * c ≤ 16 * 16 := Int.mul_le_mul r2 c2 (by omega) (by omega)
        omega
      refine wp_rf' (items := rowsF r c l) rfl (it76 ex r c l) (fun sv i s => i ≤ r.toNat ∧ s = ⟨[], [(2, [nt r, nt c, .v (.sl ex (frs l))]), (3, [.v (.sl ev (frs v))]), (6, [.acc 1006 (frs ((applyF r c l v).take i))])], [], [(4, 0), (1006, i)], sv, 0⟩) ?_ ?_ ?_
      · simp -implicitDefEqProofs only [opt_some, st_tm, lk, upd, St.newTok, St.mapTV, TV.killTok, ghs, gh1, Option.bind_some, List.getElem?_cons_zero, List.map_cons, List.map_nil, List.take_zero, if_true, if_false, and_true, Nat.reduceEqDiff, Nat.reduceLT, eq_self]
        exact Nat.zero_le _
      · rintro i x' s' R hx ⟨hi, rfl⟩ hR
        obtain ⟨hlt, rfl, hxi⟩ := rowsF_all hr hx
        refine ⟨rfl, ?_⟩
        simp -implicitDefEqProofs only [wp_reg0, wp_draw, wp_block, opsK_at, ops_nil, ops_cons, op_plain, step_call, step_move, step_assign, step_load, opt_some, ev_tmp, putT_some, lk, tov, stepA, valA, ldA, ldT, tovs, Option.getD_some, Option.getD_none, Option.map_some, Option.bind_some, List.getElem?_cons_zero, List.getElem?_cons_succ, List.set_cons_zero, List.set_cons_succ, List.length_cons, List.length_nil, List.take_succ_cons, List.take_nil, List.drop_zero, if_true, if_false, reduceCtorEq, Nat.zero_add, Nat.reduceAdd, Nat.reduceEqDiff, Nat.le_refl, Bool.false_eq_true, eq_self, rfK_normal, enterR_mk, setPs]
        have hra := rowF_length (r := r) (c := c) (l := l) i
        refine call_fn rfl rfl rfl (ok17 false ev (rowF r c l i) v (by omega) hv) ?_
        have hfit : fits 3 24 (frs ((applyF r c l v).take i)) [frV (dotF (rowF r c l i) v)] = true := fits_frs (l := [dotF (rowF r c l i) v]) (by simp only [List.length_cons, List.length_nil, List.length_take]; omega)
        have hl : (frs ((applyF r c l v).take i)).length = i := by simp; omega
        simp -implicitDefEqProofs only [hfit, hl, blockK_normal, opsK_at, ops_nil, ops_cons, op_plain, step_builtin, step_store, step_buildSlice, opt_some, ev_tmp, putT_some, putT_none, pv_eq, st_tm, lk, upd, tov, stepA, storeA, cellsOf, pvs, rowOf, St.newTok, St.mapTV, TV.killTok, tkOf, PV.cells, PV.ok, PV.cell, ghs, gh1, appA, Option.getD_some, Option.map_some, Option.bind_some, List.getElem?_cons_zero, List.getElem?_cons_succ, List.set_cons_zero, List.set_cons_succ, List.map_cons, List.map_nil, List.all_cons, List.all_nil, List.length_cons, List.length_nil, List.take_zero, List.drop_succ_cons, List.drop_nil, List.nil_append, List.append_nil, if_true, if_false, Bool.and_true, reduceCtorEq, and_self, Nat.zero_add, Nat.reduceAdd, Nat.reduceEqDiff, Nat.reduceLT, Nat.le_refl, Nat.reduceBEq, eq_self, roundK_normal, betw_mk, range1, one_int, one_bool]
        refine hR _ ⟨by omega, ?_⟩
        have hai : (applyF r c l v)[i]'(by omega) = dotF (rowF r c l i) v := by simp [applyF, allF]
        rw [List.take_succ_eq_append_getElem (by omega), hai]
        simp only [frs, List.map_append, List.map_cons, List.map_nil]
      · rintro s' ⟨hi, rfl⟩
        simp -implicitDefEqProofs only [wp_reg, wp_seq, wp_ret, seqK_normal, blockK_normal, opsK_at, ops_nil, ops_cons, op_plain, step_assign, step_load, opt_some, ev_tmp, ev_const, putT_some, lk, tov, stepA, valA, ldA, ldT, tovs, Option.getD_some, Option.getD_none, Option.map_some, Option.bind_some, List.getElem?_cons_zero, List.getElem?_cons_succ, List.set_cons_zero, List.set_cons_succ, List.length_cons, List.length_nil, List.take_succ_cons, List.take_nil, List.drop_zero, if_true, if_false, reduceCtorEq, Nat.zero_add, Nat.reduceAdd, Nat.reduceEqDiff, Nat.le_refl, Bool.false_eq_true, eq_self, leaveR_mk, RetQ_ret, resAll, res1, packR, Option.some.injEq]
        rw [rowsF_length hr, List.take_of_length_le (by omega)]

theorem applyF_get {r c : Int} {l v : List Fr} {i : Nat} (hi : i < r.toNat) : (frs (applyF r c l v))[i]? = some (frV (dotF (rowF r c l i) v)) := by
  simp [applyF, allF, hi]
theorem turn_col {c : Int} {v : List Fr} (h : right c 1 v.length = true) : rowF 1 c (turnF c 1 v) 0 = v := by
  obtain ⟨c1, c2, _, _, hn⟩ := right_spec h
  have h0 := rowF_eq ⟨0, 0, false⟩ (right_turn h) (i := 0) (by simp)
  simp only [Int.natCast_zero] at h0
  have e : ((0 : Nat) : Int) = 0 := rfl
  rw [h0, turnF_eq h]
  apply List.ext_getElem?
  intro j
  by_cases hj : j < c.toNat
  · rw [List.getElem?_map, List.getElem?_range hj, Option.map_some]
    have hg := gridP_get (fun k i => atF c 1 v (i : Int) (k : Int)) c.toNat (1 : Int).toNat 0 j (by simp) hj
    have hv := atF_eq h (i := j) (k := 0) hj (by simp)
    have hlt : j < v.length := by omega
    rw [List.getD_eq_getElem?_getD, hg, Option.getD_some, hv]
    simp [hlt]
  · rw [List.getElem?_eq_none (by simp; omega), List.getElem?_eq_none (by omega)]
theorem prod_col {r c : Int} {l v : List Fr} (h : right r c l.length = true) (hv : right c 1 v.length = true) (hz : right r 1 (prodF r c 1 l v).length = true) {i : Nat} (hi : i < r.toNat) : atF r 1 (prodF r c 1 l v) i 0 = dotF (rowF r c l i) v := by
  have e : prodF r c 1 l v = gridP (fun i k => dotF (rowF r c l (i : Int)) (rowF 1 c (turnF c 1 v) (k : Int))) (1 : Int).toNat r.toNat 0 := by
    rw [gridP_zero]
    unfold prodF allF
    rw [List.flatMap_map]
    simp
  have ha := atF_eq hz (i := i) (k := 0) hi (by simp)
  have hg := gridP_get (fun i k => dotF (rowF r c l (i : Int)) (rowF 1 c (turnF c 1 v) (k : Int))) (1 : Int).toNat r.toNat i 0 hi (by simp)
  simp only [Int.natCast_zero] at ha hg
  rw [ha, e, List.getD_eq_getElem?_getD, hg, Option.getD_some, turn_col hv]
theorem prodF_length {r m c : Int} {a b : List Fr} : (prodF r m c a b).length = r.toNat * c.toNat := by
  unfold prodF
  have : prodF r m c a b = prodP dotF (allF r m a) (allF c m (turnF m c b)) (allF r m a).length 0 := by
    rw [prodP_zero, List.take_length]
    rfl
  unfold allF
  simp only [List.length_flatMap, List.length_map, List.length_range, List.map_map]
  have e : ∀ l : List Nat, (l.map ((fun _ => c.toNat) ∘ fun (i : Nat) => rowF r m a (i : Int))).sum = l.length * c.toNat := fun l => by
    induction l with
    | nil => simp
    | cons x l ih => rw [List.map_cons, List.sum_cons, ih, List.length_cons, Nat.add_mul, Nat.one_mul, Nat.add_comm]; rfl
  rw [e, List.length_range]

end Go.Proofs.Ytadfcbpakfaaaaa.A
