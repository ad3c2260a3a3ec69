import Derived.Test.YtadfcbpakfaaaaaT37
import Derived.Test.YtadfcbpakfaaaaaB7

set_option linter.unusedVariables false
set_option linter.unusedSimpArgs false
set_option maxRecDepth 100000
namespace Go.Proofs.Ytadfcbpakfaaaaa.A
open Go Go.RowKit Go.Shelf

/-- What Few tells. -/
theorem few9_spec {N : Int} {x root f g h : List Int} {r z : Int} (hf : few9 N x root f g h r z = true) :
    (1 ≤ N ∧ N ≤ 3 ∧ (x.length : Int) = N ∧ (h.length : Int) = N ∧ 1 ≤ r ∧ r ≤ 5 ∧ -5 ≤ z ∧ z ≤ 5) ∧ (bnd 5 x ∧ bnd 5 h ∧ bnd 5 root ∧ bnd 5 f ∧ bnd 5 g) ∧ (root.length : Int) = N * N ∧ (f.length : Int) = N * N ∧ (g.length : Int) = N * N := by
  simp only [few9, sided, Bool.and_eq_true, decide_eq_true_eq, List.all_cons, List.all_nil, Bool.and_true] at hf
  obtain ⟨h1, ⟨b1, b2, b3, b4, b5⟩, h3⟩ := hf
  have hN : N * N ≤ 9 := by
    have : N = 1 ∨ N = 2 ∨ N = 3 := by omega
    rcases this with h | h | h <;> rw [h] <;> decide
  have key : ∀ {l : List Int}, in5 l = true → (l.length : Int) ≤ 9 → bnd 5 l := fun hl hn y hy => by
    rw [in5, decide_eq_true_eq, List.take_of_length_le (by omega)] at hl
    have := hl y hy
    omega
  exact ⟨h1, ⟨key b1 (by omega), key b2 (by omega), key b3 (by omega), key b4 (by omega), key b5 (by omega)⟩, h3⟩

theorem ok11 (e1 e2 e3 e4 e5 : Bool) (n : Nat) (x root f g h : List Int) (r z : Int) (hn : 1 ≤ n ∧ n ≤ 3) (hx : x.length = n) (hr : root.length = n * n) :
    Ok Try.prog 11 [caseV e1 e2 e3 e4 e5 n x root f g h r z] (stV false false (frs (x.map (newF · 1))) n n (frs (sqF n (root.map (newF · 1))))) := by
  have s := side16 (n := n) (m := n) (by omega) (by omega)
  refine ok_fn mixed Try.func11 (code := ?_) (h := h11) ?_ k11 ?_
  rotate_left
  · exact rfl
  unfold h11 initS
  simp -implicitDefEqProofs (maxSteps := 10000000) only [wp_reg, wp_seq, seqK_normal, opsK_at, ops_nil, ops_cons, op_plain, step_call, step_load, step_fieldAddr, step_alloc, step_box, opt_some, ev_tmp, putT_some, st_tm, lk, upd, tov, stepA, cellsOf, ldA, ldT, fieldAddrA, tovs, newToks, St.newBox, St.newTok, St.mapTV, TV.killPtr, TV.killTok, zeroT, PV.cells, PV.ok, PV.cell, Option.getD_some, Option.getD_none, Option.map_some, Option.bind_some, List.getElem?_cons_zero, List.getElem?_cons_succ, List.set_cons_zero, List.set_cons_succ, List.map_cons, List.map_nil, List.foldl_cons, List.foldl_nil, List.all_cons, List.all_nil, List.length_cons, List.length_nil, List.take_succ_cons, List.take_zero, List.drop_succ_cons, List.drop_zero, List.cons_append, List.nil_append, List.toList_toArray, List.replicate_succ, List.replicate_zero, if_true, if_false, Bool.and_true, reduceCtorEq, and_self, Nat.zero_add, Nat.reduceAdd, Nat.reduceSub, Nat.reduceEqDiff, Nat.reduceLeDiff, Nat.reduceLT, Bool.false_eq_true, eq_self, Option.isNone_none, one_int, Try.ntmps11, Try.results11]
  have h12 := ok24 n n e2 root (by omega)
  rw [if_pos (right_nat (by omega) (by omega) hr)] at h12
  refine call_fn rfl rfl rfl (h12) ?_
  simp -implicitDefEqProofs (maxSteps := 10000000) only [wp_seq, seqK_normal, opsK_at, ops_nil, ops_cons, op_plain, step_call, step_move, step_assign, step_load, step_fieldAddr, step_extract, step_alloc, step_store, opt_some, ev_tmp, putT_some, putT_none, pv_eq, st_tm, lk, upd, tov, stepA, valA, storeA, cellsOf, ldA, ldT, fieldAddrA, tovs, newToks, St.newBox, St.newTok, St.mapTV, TV.killPtr, TV.killTok, zeroT, PV.cells, PV.ok, PV.cell, Option.getD_some, Option.getD_none, Option.map_some, Option.bind_some, List.getElem?_cons_zero, List.getElem?_cons_succ, List.set_cons_zero, List.set_cons_succ, List.map_cons, List.map_nil, List.foldl_cons, List.foldl_nil, List.all_cons, List.all_nil, List.length_cons, List.length_nil, List.take_succ_cons, List.take_zero, List.drop_succ_cons, List.drop_zero, List.drop_nil, List.nil_append, List.append_nil, if_true, if_false, Bool.not_false, Bool.and_true, reduceCtorEq, true_and, and_self, Nat.zero_add, Nat.reduceAdd, Nat.reduceEqDiff, Nat.reduceLeDiff, Nat.reduceLT, Nat.le_refl, Nat.reduceBEq, Nat.reduceBNe, Bool.false_eq_true, wp_regd, opsC_cons, opsCK_at, dsL_nil, dsL_cons, dsC, allocX, paOk, inPa, nsC, nsL_nil, nsL_cons, nonPs, freeAll, St.freeB, TV.freeB, eq_self, List.contains_cons, List.contains_nil, Bool.or_false, Option.isNone_none, one_int]
  refine call_fn rfl rfl rfl (ok12 e1 x (by omega)) ?_
  simp -implicitDefEqProofs (maxSteps := 10000000) only [op_plain, step_call, step_load, opt_some, ev_tmp, putT_some, lk, tov, ldA, ldT, tovs, Option.getD_some, Option.getD_none, Option.map_some, Option.bind_some, List.getElem?_cons_zero, List.getElem?_cons_succ, List.set_cons_zero, List.set_cons_succ, List.map_cons, List.map_nil, List.all_cons, List.all_nil, List.length_cons, List.length_nil, List.take_succ_cons, List.take_nil, List.drop_zero, if_true, if_false, Bool.not_false, Bool.and_true, reduceCtorEq, true_and, Nat.zero_add, Nat.reduceAdd, Nat.reduceEqDiff, Nat.le_refl, Nat.reduceBEq, Nat.reduceBNe, Bool.false_eq_true, opsC_cons, opsCK_at, dsL_nil, dsL_cons, dsC, allocX, paOk, inPa, nsC, nsL_nil, nsL_cons, nonPs, freeAll, St.freeB, TV.freeB, eq_self, List.contains_cons, List.contains_nil, Bool.or_false, Option.isNone_none]
  have h7 := ok43 false false (x.map (newF · 1)) (root.map (newF · 1)) n (by omega) (by rw [List.length_map, hr]) (by rw [List.length_map]; omega)
  rw [if_pos (by rw [List.length_map]; omega)] at h7
  refine call_fn rfl rfl rfl (h7) ?_
  simp -implicitDefEqProofs (maxSteps := 10000000) only [wp_reg, wp_seq, wp_ret, seqK_normal, opsK_at, ops_nil, ops_cons, op_plain, step_move, step_assign, step_load, step_extract, step_alloc, step_store, opt_some, ev_tmp, putT_some, putT_none, pv_eq, st_tm, lk, upd, tov, stepA, valA, storeA, cellsOf, ldA, ldT, tovs, newToks, St.newBox, St.newTok, St.mapTV, TV.killPtr, TV.killTok, zeroT, PV.cells, PV.ok, PV.cell, Option.getD_some, Option.getD_none, Option.map_some, Option.bind_some, List.getElem?_cons_zero, List.getElem?_cons_succ, List.set_cons_zero, List.set_cons_succ, List.map_cons, List.map_nil, List.foldl_cons, List.foldl_nil, List.all_cons, List.all_nil, List.length_cons, List.length_nil, List.take_succ_cons, List.take_zero, List.take_nil, List.drop_succ_cons, List.drop_zero, List.drop_nil, List.nil_append, List.append_nil, if_true, if_false, Bool.not_false, Bool.and_true, reduceCtorEq, and_self, Nat.zero_add, Nat.reduceAdd, Nat.reduceEqDiff, Nat.reduceLT, Nat.le_refl, Nat.reduceBEq, Nat.reduceBNe, Bool.false_eq_true, opsC_nil, opsC_cons, opsCK_at, dsL_nil, dsL_cons, dsC, allocX, paOk, inPa, nsC, nsL_nil, nsL_cons, nonPs, freeAll, St.freeB, TV.freeB, eq_self, List.contains_cons, List.contains_nil, Bool.or_false, Option.isNone_none, one_int, RetQ_ret, resAll, res1, packR]

/-! ### The function JosephStill -/
/-- What comes in. -/
abbrev caseSh : List CSh := [.int .i64, .sl false [.int .i64], .sl false [.int .i64], .sl false [.int .i64], .sl false [.int .i64], .sl false [.int .i64], .int .i64, .int .i64]
theorem case_fit {xs : List PV} (h : FitL caseSh xs) : ∃ N x root f g h r z, PV.agg xs = caseV false false false false false N x root f g h r z := by
  simp only [FitL] at h
  obtain ⟨y0, _, rfl, h0, y1, _, rfl, h1, y2, _, rfl, h2, y3, _, rfl, h3, y4, _, rfl, h4, y5, _, rfl, h5, y6, _, rfl, h6, y7, _, rfl, h7, rfl⟩ := h
  obtain ⟨n, rfl, _⟩ := h0
  obtain ⟨z1, rfl, _⟩ := FitC.ints h1
  obtain ⟨z2, rfl, _⟩ := FitC.ints h2
  obtain ⟨z3, rfl, _⟩ := FitC.ints h3
  obtain ⟨z4, rfl, _⟩ := FitC.ints h4
  obtain ⟨z5, rfl, _⟩ := FitC.ints h5
  obtain ⟨n6, rfl, _⟩ := h6
  obtain ⟨n7, rfl, _⟩ := h7
  exact ⟨n, z1, z2, z3, z4, z5, n6, n7, rfl⟩
end Go.Proofs.Ytadfcbpakfaaaaa.A
