import Derived.Test.YtadfcbpakfaaaaaT5
set_option linter.unusedVariables false
set_option linter.unusedSimpArgs false
set_option maxRecDepth 100000
namespace Go.Proofs.Ytadfcbpakfaaaaa.A
open Go Go.RowKit Go.Shelf

theorem ok58 (k : Nat) (F : Fr → Fr → Fr) (hF : ∀ x y, Ok Try.prog k [frV x, frV y] (frV (F x y))) (ea eb : Bool) (a b : List Fr) (ha : a.length ≤ 5864062014805) (hb : b.length ≤ 5864062014805) :
    Ok Try.prog 58 [.sl ea (frs a), .sl eb (frs b), .fn (.func k) []] (.sl false (frs (List.zipWith F a b))) := by
  refine ok_fn mixed Try.func58 (code := ?_) (h := h58) ?_ k58 ?_
  rotate_left
  · exact rfl
  unfold h58 initS
  simp -implicitDefEqProofs only [wp_reg0, wp_reg, wp_seq, seqK_normal, opsK_at, ops_nil, ops_cons, op_plain, step_call, step_move, step_assign, step_alloc, step_box, opt_some, ev_tmp, putT_some, st_tm, lk, upd, stepA, cellsOf, newToks, St.newBox, St.newTok, St.mapTV, TV.killPtr, TV.killTok, zeroT, PV.cells, PV.ok, PV.cell, Option.getD_some, Option.getD_none, Option.map_some, List.getElem?_cons_zero, List.getElem?_cons_succ, List.set_cons_zero, List.set_cons_succ, List.map_cons, List.map_nil, List.foldl_cons, List.foldl_nil, List.all_cons, List.all_nil, List.length_cons, List.length_nil, List.cons_append, List.nil_append, List.toList_toArray, List.replicate_succ, List.replicate_zero, if_true, if_false, Bool.and_true, reduceCtorEq, and_self, Nat.zero_add, Nat.reduceAdd, Nat.reduceSub, Nat.reduceEqDiff, Nat.reduceLT, eq_self, Option.isNone_none, Try.ntmps58, Try.results58]
  refine call_fn rfl rfl rfl (ok78 ea eb a b) ?_
  simp -implicitDefEqProofs only [wp_block, seqK_normal, opsK_at, ops_nil, putT_some, List.set_cons_zero, List.set_cons_succ]
  have hlz : (List.zipWith F a b).length = min a.length b.length := by simp
  have hpl : (pairsF a b).length = min a.length b.length := by simp [pairsF]
  refine wp_rf (items := pairsF a b) rfl (it80 ea eb a b ha hb) (fun i s => i ≤ (pairsF a b).length ∧ s = ⟨[], [(5, [.v (.fn (.func k) [])]), (7, [.acc 1007 (frs ((List.zipWith F a b).take i))])], [], [(6, 0), (1007, i)],
    [[.v (.sl ea (frs a)), .v (.sl eb (frs b)), .v (.fn (.func k) []), jk, jk, .ptr 5 0, .acc 6 [], .ptr 7 0, jk, jk, .v (.sl ea (frs a)), .v (.sl eb (frs b)), .v (.fn (.func 80) [.vp [.sl ea (frs a)], .vp [.sl eb (frs b)]]), jk, jk, jk, jk, jk, jk, jk, jk, jk, jk]], 0⟩) ?_ ?_ ?_
  · simp -implicitDefEqProofs only [opt_some, st_tm, lk, rm, St.newTok, St.mapTV, TV.killTok, ghs, gh1, rmAll, Option.bind_some, List.getElem?_cons_zero, List.map_cons, List.map_nil, List.take_zero, if_true, if_false, and_true, Nat.reduceEqDiff, eq_self, betw_mk]
    exact Nat.zero_le _
  · rintro i x' s' R hx ⟨hi, rfl⟩ hR
    have hlt : i < (pairsF a b).length := (List.getElem?_eq_some_iff.1 hx).1
    have h1 : i < a.length := by omega
    have h2 : i < b.length := by omega
    have hx' : x' = [frV a[i], frV b[i]] := by
      rw [pairsF, List.getElem?_map, List.getElem?_eq_getElem (by simp; omega), Option.map_some, List.getElem_zip] at hx
      exact (Option.some.inj hx).symm
    subst hx'
    refine ⟨rfl, ?_⟩
    simp -implicitDefEqProofs only [wp_reg, wp_draw, wp_seq, wp_block, seqK_normal, opsK_at, ops_nil, ops_cons, op_plain, step_call, step_load, step_alloc, step_store, opt_some, ev_tmp, putT_some, putT_none, st_tm, lk, upd, tov, stepA, storeA, cellsOf, ldA, ldT, tovs, newToks, St.newBox, St.mapTV, TV.killPtr, zeroT, PV.cells, PV.ok, PV.cell, Option.getD_some, Option.getD_none, Option.map_some, Option.bind_some, List.getElem?_cons_zero, List.getElem?_cons_succ, List.set_cons_zero, List.set_cons_succ, List.map_cons, List.map_nil, List.foldl_nil, List.all_cons, List.all_nil, List.length_cons, List.length_nil, List.take_succ_cons, List.take_zero, List.take_nil, List.drop_succ_cons, List.drop_zero, List.drop_nil, List.nil_append, List.append_nil, if_true, if_false, Bool.and_true, reduceCtorEq, and_self, Nat.zero_add, Nat.reduceAdd, Nat.reduceEqDiff, Nat.reduceLT, Nat.le_refl, Bool.false_eq_true, eq_self, rfK_normal, enterR_mk, setPs, Option.isNone_none, one_int, one_bool]
    refine call_fn rfl rfl rfl (hF a[i] b[i]) ?_
    have hfit : fits 3 24 (frs ((List.zipWith F a b).take i)) [frV (F a[i] b[i])] = true := fits_frs (l := [F a[i] b[i]]) (by simp; omega)
    have hl : (frs ((List.zipWith F a b).take i)).length = i := by simp; omega
    simp -implicitDefEqProofs only [hfit, hl, blockK_normal, opsK_at, ops_nil, ops_cons, op_plain, step_builtin, step_store, step_buildSlice, opt_some, ev_tmp, putT_some, putT_none, pv_eq, st_tm, lk, rm, upd, tov, stepA, storeA, cellsOf, pvs, rowOf, St.newTok, St.mapTV, TV.killTok, tkOf, PV.cells, PV.ok, PV.cell, ghs, gh1, rmAll, appA, Option.getD_some, Option.map_some, Option.bind_some, List.getElem?_cons_zero, List.getElem?_cons_succ, List.set_cons_zero, List.set_cons_succ, List.map_cons, List.map_nil, List.all_cons, List.all_nil, List.length_cons, List.length_nil, List.take_zero, List.drop_succ_cons, List.drop_nil, List.nil_append, List.append_nil, if_true, if_false, Bool.and_true, reduceCtorEq, and_self, Nat.zero_add, Nat.reduceAdd, Nat.reduceEqDiff, Nat.reduceLT, Nat.le_refl, Nat.reduceBEq, eq_self, roundK_normal, betw_mk, range1, one_int, one_bool]
    refine hR _ ⟨by omega, ?_⟩
    rw [List.take_succ_eq_append_getElem (by simp; omega)]
    simp only [frs, List.map_append, List.map_cons, List.map_nil, List.getElem_zipWith]
  · rintro s' ⟨hi, rfl⟩
    simp -implicitDefEqProofs only [wp_reg, wp_seq, wp_ret, seqK_normal, blockK_normal, opsK_at, ops_nil, ops_cons, op_plain, step_assign, step_load, opt_some, ev_tmp, putT_some, lk, tov, stepA, valA, ldA, ldT, tovs, Option.getD_some, Option.getD_none, Option.map_some, Option.bind_some, List.getElem?_cons_zero, List.getElem?_cons_succ, List.set_cons_zero, List.set_cons_succ, List.length_cons, List.length_nil, List.take_succ_cons, List.take_nil, List.drop_zero, if_true, if_false, reduceCtorEq, Nat.zero_add, Nat.reduceAdd, Nat.reduceEqDiff, Nat.le_refl, Bool.false_eq_true, eq_self, leaveR_mk, RetQ_ret, resAll, res1, packR, Option.some.injEq]
    rw [List.take_of_length_le (by simp; omega)]

def dotF (a b : List Fr) : Fr := sumF (List.zipWith mulF a b)

theorem ok17 (ea eb : Bool) (a b : List Fr) (ha : a.length ≤ 5864062014805) (hb : b.length ≤ 5864062014805) : Ok Try.prog 17 [.sl ea (frs a), .sl eb (frs b)] (frV (dotF a b)) := by
  refine ok_fn mixed Try.func17 (code := ?_) (h := h17) ?_ k17 ?_
  rotate_left
  · exact rfl
  unfold h17 initS
  simp -implicitDefEqProofs only [wp_reg, wp_seq, seqK_normal, opsK_at, ops_nil, ops_cons, op_plain, step_call, step_move, step_alloc, opt_some, ev_tmp, putT_some, st_tm, lk, upd, stepA, newToks, St.newBox, St.mapTV, TV.killPtr, zeroT, Option.getD_some, Option.getD_none, Option.map_some, List.getElem?_cons_zero, List.getElem?_cons_succ, List.set_cons_zero, List.set_cons_succ, List.map_cons, List.map_nil, List.foldl_nil, List.length_cons, List.length_nil, List.cons_append, List.nil_append, List.toList_toArray, List.replicate_succ, List.replicate_zero, if_true, if_false, reduceCtorEq, Nat.zero_add, Nat.reduceAdd, Nat.reduceSub, Nat.reduceEqDiff, eq_self, Option.isNone_none, Try.ntmps17, Try.results17]
  refine call_fn rfl rfl rfl (ok58 59 mulF ok59 ea eb a b ha hb) ?_
  simp -implicitDefEqProofs only [opsK_at, ops_cons, op_plain, step_call, putT_some, lk, Option.getD_none, List.set_cons_zero, List.set_cons_succ, if_false, Nat.reduceAdd, Nat.reduceEqDiff]
  refine call_fn rfl rfl rfl (ok57 false (List.zipWith mulF a b) (by simp; omega)) ?_
  simp -implicitDefEqProofs only [wp_ret, seqK_normal, opsK_at, ops_nil, ops_cons, op_plain, step_store, opt_some, ev_tmp, putT_some, putT_none, lk, upd, tov, stepA, storeA, cellsOf, ldA, ldT, tovs, PV.cells, PV.ok, PV.cell, Option.getD_some, Option.map_some, Option.bind_some, List.getElem?_cons_zero, List.getElem?_cons_succ, List.set_cons_zero, List.set_cons_succ, List.map_cons, List.map_nil, List.all_cons, List.all_nil, List.length_cons, List.length_nil, List.take_succ_cons, List.take_zero, List.take_nil, List.drop_succ_cons, List.drop_zero, List.drop_nil, List.nil_append, List.append_nil, if_true, if_false, Bool.and_true, and_self, Nat.zero_add, Nat.reduceAdd, Nat.reduceLT, Nat.le_refl, eq_self, one_int, one_bool, RetQ_ret, resAll, res1, packR, dotF]

/-- A matrix, turned. -/
def turnF (r c : Int) (l : List Fr) : List Fr := if right r c l.length = true then (List.range c.toNat).flatMap fun (k : Nat) => (List.range r.toNat).map fun (i : Nat) => atF r c l i k else []

/-- Of a turned matrix, what is told so far. -/
def turnP (r c : Int) (l : List Fr) (k i : Nat) : List Fr := (List.range k).flatMap (fun (k : Nat) => (List.range r.toNat).map fun (i : Nat) => atF r c l i k) ++ (List.range i).map fun (i : Nat) => atF r c l i k
theorem turnP_succ (r c : Int) (l : List Fr) (k i : Nat) : turnP r c l k (i + 1) = turnP r c l k i ++ [atF r c l i k] := by
  simp [turnP, List.range_succ]
theorem turnP_next (r c : Int) (l : List Fr) (k : Nat) : turnP r c l k r.toNat = turnP r c l (k + 1) 0 := by
  simp [turnP, List.range_succ]
theorem turnP_length (r c : Int) (l : List Fr) (k i : Nat) : (turnP r c l k i).length = k * r.toNat + i := by
  simp [turnP, List.length_flatMap, List.map_const', List.sum_replicate_nat]

theorem ok33 (ex : Bool) (r c : Int) (l : List Fr) : Ok Try.prog 33 [matV ex r c (frs l)] (if right r c l.length = true then matV false c r (frs (turnF r c l)) else matNil) := by
  refine ok_fn mixed Try.func33 (code := ?_) (h := h33) ?_ k33 ?_
  rotate_left
  · exact rfl
  unfold h33 initS
  simp -implicitDefEqProofs only [wp_reg, wp_seq, seqK_normal, opsK_at, ops_nil, ops_cons, op_plain, step_call, step_load, step_alloc, step_box, opt_some, ev_tmp, putT_some, st_tm, lk, upd, tov, stepA, cellsOf, ldA, ldT, tovs, newToks, St.newBox, St.newTok, St.mapTV, TV.killPtr, TV.killTok, zeroT, PV.cells, PV.ok, PV.cell, Option.getD_some, Option.getD_none, Option.map_some, Option.bind_some, List.getElem?_cons_zero, List.getElem?_cons_succ, List.set_cons_zero, List.set_cons_succ, List.map_cons, List.map_nil, List.foldl_cons, List.foldl_nil, List.all_cons, List.all_nil, List.length_cons, List.length_nil, List.take_succ_cons, List.take_nil, List.drop_zero, List.cons_append, List.nil_append, List.toList_toArray, List.replicate_succ, List.replicate_zero, if_true, if_false, Bool.and_true, reduceCtorEq, and_self, Nat.zero_add, Nat.reduceAdd, Nat.reduceSub, Nat.reduceEqDiff, Nat.reduceLT, Nat.le_refl, eq_self, Option.isNone_none, one_int, Try.ntmps33, Try.results33]
  refine call_fn rfl rfl rfl (ok54 ex r c (frs l)) ?_
  have e : (frs l).length = l.length := by simp
  rw [e]
  cases hr : right r c l.length with
  | false => simp -implicitDefEqProofs only [wp_reg, wp_seq, wp_cond, wp_ret, wpK_at, seqK_normal, seqK_ret, opsK_at, ops_nil, ops_cons, op_plain, step_unOp, step_build, step_store, opt_some, gB_true, ev_tmp, putT_some, putT_none, pv_eq, lk, upd, tov, stepA, valA, storeA, cellsOf, ldA, ldT, unA, bl, pvs, tovs, PV.cells, PV.ok, PV.cell, fillA, Option.getD_some, Option.getD_none, Option.map_some, Option.bind_some, List.getElem?_cons_zero, List.getElem?_cons_succ, List.set_cons_zero, List.set_cons_succ, List.map_cons, List.map_nil, List.all_cons, List.all_nil, List.length_cons, List.length_nil, List.take_succ_cons, List.take_zero, List.take_nil, List.drop_succ_cons, List.drop_zero, List.drop_nil, List.nil_append, List.append_nil, List.zip_nil_left, if_true, if_false, Bool.not_false, Bool.and_true, reduceCtorEq, and_self, Nat.zero_add, Nat.reduceAdd, Nat.reduceEqDiff, Nat.reduceLT, Nat.le_refl, Bool.false_eq_true, eq_self, one_int, one_slice, RetQ_ret, resAll, res1, packR]
  | true =>
    obtain ⟨r1, r2, c1, c2, hn⟩ := right_spec hr
    simp -implicitDefEqProofs only [wp_skip, wp_reg, wp_seq, wp_cond, wp_block, wpK_at, seqK_normal, opsK_at, ops_nil, ops_cons, op_plain, step_move, step_load, step_fieldAddr, step_unOp, step_build, step_alloc, step_store, opt_some, gB_false, ev_tmp, ev_const, putT_some, putT_none, pv_eq, st_tm, lk, upd, tov, stepA, valA, storeA, cellsOf, ldA, ldT, fieldAddrA, unA, bl, pvs, tovs, newToks, St.newBox, St.newTok, St.mapTV, TV.killPtr, TV.killTok, zeroT, PV.cells, PV.ok, PV.cell, fillA, setR, Option.getD_some, Option.getD_none, Option.map_some, Option.bind_some, List.getElem?_cons_zero, List.getElem?_cons_succ, List.set_cons_zero, List.set_cons_succ, List.map_cons, List.map_nil, List.foldl_cons, List.foldl_nil, List.all_cons, List.all_nil, List.length_cons, List.length_nil, List.take_succ_cons, List.take_zero, List.drop_succ_cons, List.drop_zero, List.drop_nil, List.nil_append, List.append_nil, List.zip_cons_cons, List.zip_nil_left, if_true, if_false, Bool.not_true, Bool.and_true, reduceCtorEq, and_self, Nat.zero_add, Nat.reduceAdd, Nat.reduceEqDiff, Nat.reduceLeDiff, Nat.reduceLT, Nat.le_refl, Bool.false_eq_true, eq_self, Option.isNone_none, one_int, one_slice]
    refine wp_loop (fun m s => ∃ k : Nat, k + m = c.toNat ∧ s = ⟨[jk, .ptr 1 0, .ptr 2 0, .ptr 3 0, jk, jk, jk, jk, jk, jk, jk, jk, jk, jk, jk, jk, .v (num c), nt k, jk, jk, jk, jk, jk, jk, jk, jk, jk, jk, jk, jk, jk, jk, jk, jk, jk, jk, jk], [(1, [.v (num r), .v (num c), .v (.sl ex (frs l))]), (2, [nt 0, nt 0, .acc 3002 []]), (3, [nt c, nt r, .acc 15003 (frs (turnP r c l k 0))])], [],
      [(3002, 0), (3003, 0), (15003, (turnP r c l k 0).length)], [], 0⟩) c.toNat ?_ ?_
    · simp -implicitDefEqProofs only [opt_some, st_tm, lk, upd, St.newTok, St.mapTV, TV.killTok, ghs, gh1, junkAll, Option.bind_some, List.getElem?_cons_zero, List.getElem?_cons_succ, List.set_cons_zero, List.set_cons_succ, List.map_cons, List.map_nil, if_true, if_false, Nat.reduceEqDiff, Nat.reduceLT, eq_self]
      exact ⟨0, by simp, rfl⟩
    rintro m s ⟨k, hk, rfl⟩
    simp -implicitDefEqProofs only [wp_reg0, wp_seq, wp_cond, seqK_normal, opsK_at, ops_nil, ops_cons, op_plain, step_binOp, opt_some, ev_tmp, putT_some, lk, valA, binA, num2, binV, Option.getD_none, Option.map_some, List.getElem?_cons_zero, List.getElem?_cons_succ, List.set_cons_zero, List.set_cons_succ, if_true, Nat.zero_add, Nat.reduceBEq, eq_self]
    refine gB_dec ?_ ?_ <;> intro hc <;> simp -implicitDefEqProofs only [hc, wp_skip, wp_reg0, wp_reg, wp_seq, wp_block, wp_exit, wp_ret, wpK_at, seqK_normal, seqK_exit, blockK_exit, loopK_exit, opsK_at, ops_nil, ops_cons, op_plain, step_move, step_assign, step_load, step_fieldAddr, step_store, opt_some, ev_tmp, ev_const, putT_some, putT_none, lk, upd, tov, stepA, valA, storeA, cellsOf, ldA, ldT, fieldAddrA, tovs, PV.cells, PV.ok, PV.cell, Option.getD_some, Option.getD_none, Option.map_some, Option.bind_some, List.getElem?_cons_zero, List.getElem?_cons_succ, List.set_cons_zero, List.set_cons_succ, List.map_cons, List.map_nil, List.all_cons, List.all_nil, List.length_cons, List.length_nil, List.take_succ_cons, List.take_zero, List.take_nil, List.drop_succ_cons, List.drop_zero, List.drop_nil, List.nil_append, List.append_nil, if_true, if_false, Bool.and_true, reduceCtorEq, and_self, Nat.zero_add, Nat.reduceAdd, Nat.reduceEqDiff, Nat.reduceLeDiff, Nat.reduceLT, Nat.le_refl, Bool.false_eq_true, decide_true, decide_false, eq_self, one_int, RetQ_ret, resAll, res1, packR, Option.some.injEq]
    · refine wp_loop (fun m s => ∃ i : Nat, i + m = r.toNat ∧ s = ⟨[jk, .ptr 1 0, .ptr 2 0, .ptr 3 0, nt k, jk, jk, jk, jk, jk, jk, jk, jk, jk, jk, jk, .v (num c), nt k, jk, jk, jk, nt r, nt i, jk, jk, jk, jk, jk, jk, jk, jk, jk, jk, jk, jk, jk, jk], [(1, [.v (num r), .v (num c), .v (.sl ex (frs l))]), (2, [nt 0, nt 0, .acc 3002 []]), (3, [nt c, nt r, .acc 15003 (frs (turnP r c l k i))])], [],
        [(3002, 0), (3003, 0), (15003, (turnP r c l k i).length)], [], 0⟩) r.toNat ?_ ?_
      · simp -implicitDefEqProofs only [opt_some, st_tm, lk, St.newTok, St.mapTV, TV.killTok, ghs, gh1, junkAll, Option.bind_some, List.getElem?_cons_zero, List.getElem?_cons_succ, List.set_cons_zero, List.set_cons_succ, List.map_cons, List.map_nil, if_true, if_false, Nat.reduceEqDiff, eq_self]
        exact ⟨0, by simp, rfl⟩
      rintro m' s ⟨i, hi, rfl⟩
      simp -implicitDefEqProofs only [wp_reg0, wp_seq, wp_cond, seqK_normal, opsK_at, ops_nil, ops_cons, op_plain, step_binOp, opt_some, ev_tmp, putT_some, lk, valA, binA, num2, binV, Option.getD_none, Option.map_some, List.getElem?_cons_zero, List.getElem?_cons_succ, List.set_cons_zero, List.set_cons_succ, if_true, Nat.zero_add, Nat.reduceBEq, eq_self]
      have hlen := turnP_length r c l k i
      have hb : k * r.toNat + i ≤ 256 := by
        have : (k + 1) * r.toNat ≤ 16 * 16 := Nat.mul_le_mul (by omega) (by omega)
        rw [Nat.add_mul] at this
        omega
      refine gB_dec ?_ ?_ <;> intro hc2 <;> simp -implicitDefEqProofs only [hc2, wp_skip, wp_reg0, wp_reg, wp_draw, wp_seq, wp_block, wp_exit, wp_ret, wpK_at, seqK_normal, seqK_exit, blockK_normal, blockK_exit, loopK_exit, opsK_at, ops_nil, ops_cons, op_plain, step_call, step_move, step_assign, step_load, step_fieldAddr, step_binOp, step_store, opt_some, ev_tmp, ev_const, putT_some, putT_none, lk, upd, tov, stepA, valA, storeA, cellsOf, ldA, ldT, fieldAddrA, binA, num2, binV, tovs, PV.cells, PV.ok, PV.cell, Option.getD_some, Option.getD_none, Option.map_some, Option.bind_some, List.getElem?_cons_zero, List.getElem?_cons_succ, List.set_cons_zero, List.set_cons_succ, List.map_cons, List.map_nil, List.all_cons, List.all_nil, List.length_cons, List.length_nil, List.take_succ_cons, List.take_zero, List.take_nil, List.drop_succ_cons, List.drop_zero, List.drop_nil, List.nil_append, List.append_nil, if_true, if_false, Bool.and_true, reduceCtorEq, and_self, Nat.zero_add, Nat.reduceAdd, Nat.reduceEqDiff, Nat.reduceLT, Nat.le_refl, Nat.reduceBEq, Bool.false_eq_true, decide_true, decide_false, eq_self, one_int, RetQ_ret, resAll, res1, packR, Option.some.injEq]
      · refine call_fn rfl rfl rfl (ok21 ex r c i k l) ?_
        have hfit : fits 3 24 (frs (turnP r c l k i)) [frV (atF r c l i k)] = true := fits_frs (l := [atF r c l i k]) (by simp only [List.length_cons, List.length_nil]; omega)
        have hl : (frs (turnP r c l k i)).length = (turnP r c l k i).length := by simp
        have hw := wrapped (x := (i : Int) + 1) (by omega) (by omega)
        simp -implicitDefEqProofs only [hfit, hl, hw, wp_reg0, seqK_normal, blockK_normal, opsK_at, ops_nil, ops_cons, op_plain, step_builtin, step_move, step_fieldAddr, step_binOp, step_store, step_buildSlice, opt_some, ev_tmp, ev_const, putT_some, putT_none, pv_eq, lk, upd, tov, stepA, valA, storeA, cellsOf, fieldAddrA, binA, num2, binV, pvs, rowOf, tkOf, PV.cells, PV.ok, PV.cell, appA, Option.getD_some, Option.getD_none, Option.map_some, Option.bind_some, List.getElem?_cons_zero, List.getElem?_cons_succ, List.set_cons_zero, List.set_cons_succ, List.map_cons, List.map_nil, List.all_cons, List.all_nil, List.length_cons, List.length_nil, List.take_succ_cons, List.take_zero, List.drop_succ_cons, List.drop_nil, List.cons_append, List.nil_append, List.append_nil, if_true, if_false, Bool.and_true, reduceCtorEq, and_self, Nat.zero_add, Nat.reduceAdd, Nat.reduceEqDiff, Nat.reduceLT, Nat.le_refl, Nat.reduceBEq, eq_self, range1, one_int, one_bool]
        refine loopK_of (m' := m' - 1) (by omega) ?_
        simp -implicitDefEqProofs only [opt_some, st_tm, lk, St.newTok, St.mapTV, TV.killTok, ghs, gh1, junkAll, Option.bind_some, List.getElem?_cons_zero, List.getElem?_cons_succ, List.set_cons_zero, List.set_cons_succ, List.map_cons, List.map_nil, if_true, if_false, Nat.reduceEqDiff, eq_self]
        refine ⟨i + 1, by omega, ?_⟩
        rw [turnP_succ]
        simp only [frs, List.map_append, List.map_cons, List.map_nil, List.length_append, List.length_cons, List.length_nil, Int.natCast_add, Int.natCast_one]
      · have hw := wrapped (x := (k : Int) + 1) (by omega) (by omega)
        simp -implicitDefEqProofs only [hw]
        refine loopK_of (m' := m - 1) (by omega) ?_
        simp -implicitDefEqProofs only [opt_some, st_tm, lk, St.newTok, St.mapTV, TV.killTok, ghs, gh1, junkAll, Option.bind_some, List.getElem?_cons_zero, List.getElem?_cons_succ, List.set_cons_zero, List.set_cons_succ, List.map_cons, List.map_nil, if_true, if_false, Nat.reduceEqDiff, eq_self]
        refine ⟨k + 1, by omega, ?_⟩
        have hi2 : i = r.toNat := by omega
        rw [hi2, turnP_next]
        simp only [Int.natCast_add, Int.natCast_one]
    · have hk2 : k = c.toNat := by omega
      have : turnF r c l = turnP r c l k 0 := by
        rw [hk2]
        simp [turnF, hr, turnP]
      rw [this]
end Go.Proofs.Ytadfcbpakfaaaaa.A
