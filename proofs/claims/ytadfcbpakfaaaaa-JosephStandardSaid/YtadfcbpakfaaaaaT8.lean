import Derived.Test.YtadfcbpakfaaaaaT7
set_option linter.unusedVariables false
set_option linter.unusedSimpArgs false
set_option maxRecDepth 100000
namespace Go.Proofs.Ytadfcbpakfaaaaa.A
open Go Go.RowKit Go.Shelf

/-- A contract for what is known better. -/
theorem Ok.args {P : Program} {f : FuncId} {xs ys : List PV} {r : PV} (k : Ok P f xs r) (h : ∀ I vs, Cs I ys vs → Cs I xs vs) : Ok P f ys r :=
  ⟨k.1, fun I w vs hg hc => k.2 I w vs hg (h I vs hc)⟩
theorem Cs.nil_of {I : Imm} {xs ys : List PV} {vs : List Value} {ex : Bool} (h : Cs I (.s (.slice none 0 0) :: xs) vs) (k : ∀ us, Cs I xs us → Cs I ys us) : Cs I (.sl ex [] :: ys) vs := by
  cases h with | cons h1 h2 => cases h1; exact .cons .sl0 (k _ h2)

def fewB (xs : List Int) : Bool := decide (xs.length ≤ 256 ∧ ∀ x ∈ xs, -100 ≤ x ∧ x ≤ 100)

theorem ok37 (ex : Bool) (xs : List Int) : Ok Try.prog 37 [.sl ex (xs.map num)] (tru (fewB xs)) := by
  refine ok_fn mixed Try.func37 (code := ?_) (h := h37) ?_ k37 ?_
  rotate_left
  · exact rfl
  unfold h37 initS
  simp -implicitDefEqProofs only [wp_reg0, wp_seq, wp_block, seqK_normal, opsK_at, ops_nil, ops_cons, op_plain, step_assign, opt_some, ev_const, putT_some, lk, stepA, valA, Option.getD_none, Option.map_some, List.set_cons_zero, List.set_cons_succ, List.map_cons, List.map_nil, List.length_cons, List.length_nil, List.cons_append, List.nil_append, List.toList_toArray, List.replicate_succ, List.replicate_zero, Nat.zero_add, Nat.reduceSub, Try.ntmps37, Try.results37]
  refine wp_loop (fun m s => ∃ i : Nat, i + m = xs.length ∧ i ≤ 257 ∧ (∀ x ∈ xs.take i, -100 ≤ x ∧ x ≤ 100) ∧ s = ⟨[.v (.sl ex (xs.map num)), jk, jk, nt i, jk, jk, jk, jk, jk, jk, jk, jk, jk, jk, jk, jk, jk, jk, jk, jk, jk, jk, jk, jk, jk, jk, jk, jk, jk], [], [], [], [], 0⟩) xs.length ?_ ?_
  · simp -implicitDefEqProofs only [opt_some, ghs, gh1, junkAll, Option.bind_some, List.set_cons_zero, List.set_cons_succ]
    exact ⟨0, by simp, by omega, by simp, rfl⟩
  rintro m s ⟨i, hi, hi7, hall, rfl⟩
  simp -implicitDefEqProofs only [wp_reg0, wp_seq, opsK_at, ops_cons, op_plain, op_guard, slotAt_zero, slotAt_succ, step_builtin, step_move, step_binOp, opt_some, ev_tmp, putT_some, pv_eq, lk, tov, stepA, valA, lenA, binA, num2, binV, Option.getD_none, Option.map_some, Option.bind_some, List.getElem?_cons_zero, List.getElem?_cons_succ, List.set_cons_zero, List.set_cons_succ, if_true, Nat.zero_add, Nat.reduceAdd, Nat.reduceBEq, eq_self]
  have hend : ¬ ((i : Int) < (xs.length : Int) ∧ (i : Int) ≤ 256) → decide (((xs.map num).length : Int) ≤ 256) = fewB xs := by
    intro hn
    have : (xs.length ≤ 256 ↔ (xs.length ≤ 256 ∧ ∀ x ∈ xs, -100 ≤ x ∧ x ≤ 100)) := by
      constructor
      · intro h1
        refine ⟨h1, ?_⟩
        rw [List.take_of_length_le (by omega)] at hall
        exact hall
      · exact fun h1 => h1.1
    simp only [fewB, List.length_map, decide_eq_decide, ← this]
    omega
  have hbad : ∀ hl : i < xs.length, ¬ (-100 ≤ xs[i] ∧ xs[i] ≤ 100) → fewB xs = false := fun hl hn => by
    simp only [fewB, decide_eq_false_iff_not]
    exact fun hk => hn (hk.2 _ (List.getElem_mem hl))
  refine gB_dec ?_ ?_ <;> intro hc <;> simp -implicitDefEqProofs only [hc, wp_reg0, wp_seq, wp_cond, wp_exit, wp_ret, wpK_at, execK_at, junkK_at, seqK_normal, seqK_exit, blockK_exit, loopK_exit, opsK_at, ops_nil, ops_cons, op_plain, op_guard, slotAt_zero, slotAt_succ, step_builtin, step_move, step_assign, step_pick, step_binOp, opt_some, gB_true, gB_false, ev_tmp, ev_const, putT_some, pv_eq, lk, tov, stepA, valA, lenA, binA, num2, binV, Option.getD_none, Option.map_some, Option.bind_some, List.getElem?_cons_zero, List.getElem?_cons_succ, List.set_cons_zero, List.set_cons_succ, if_true, if_false, Nat.zero_add, Nat.reduceAdd, Nat.reduceBEq, Bool.false_eq_true, decide_true, decide_false, eq_self, RetQ_ret, resAll, res1, packR, Option.some.injEq]
  · refine gB_dec ?_ ?_ <;> intro hc2 <;> simp -implicitDefEqProofs only [hc2, wp_skip, wp_reg0, wp_reg, wp_seq, wp_block, wp_exit, wp_ret, wpK_at, seqK_normal, seqK_exit, blockK_exit, loopK_exit, opsK_at, ops_nil, ops_cons, op_plain, step_builtin, step_move, step_assign, step_indexAddr, step_binOp, opt_some, ev_tmp, ev_const, putT_some, pv_eq, lk, tov, stepA, valA, idxAddrA, idxA, lenA, binA, num2, binV, PV.cells, Option.getD_some, Option.getD_none, Option.map_some, Option.bind_some, List.getElem?_cons_zero, List.getElem?_cons_succ, List.set_cons_zero, List.set_cons_succ, if_true, if_false, reduceCtorEq, Nat.zero_add, Nat.reduceAdd, Nat.reduceEqDiff, Nat.reduceBEq, decide_true, decide_false, eq_self, RetQ_ret, resAll, res1, packR, Option.some.injEq]
    · have hlt : i < xs.length := by simpa using hc
      have h0 : (0 : Int) ≤ (i : Int) := by omega
      have hg : (xs.map num)[i]? = some (num xs[i]) := by simp [hlt]
      simp -implicitDefEqProofs only [h0, Int.toNat_natCast, hg, opsK_at, ops_cons, op_plain, op_guardn, slotAt_zero, slotAt_succ, step_move, step_load, step_binOp, opt_some, ev_tmp, ev_const, putT_some, lk, valA, ldA, ldC, binA, num2, binV, Option.getD_some, Option.getD_none, Option.map_some, Option.bind_some, List.getElem?_cons_zero, List.getElem?_cons_succ, List.set_cons_zero, List.set_cons_succ, List.length_cons, List.length_nil, List.take_succ_cons, List.take_nil, if_true, if_false, Nat.zero_add, Nat.reduceAdd, Nat.reduceEqDiff, Nat.le_refl, Nat.reduceBEq, Bool.false_eq_true, eq_self]
      refine gB_dec ?_ ?_ <;> intro hc3 <;> simp -implicitDefEqProofs only [hc3, wp_reg0, wp_seq, wp_cond, wp_ret, wpK_at, execK_at, junkK_at, seqK_normal, seqK_ret, blockK_ret, loopK_ret, opsK_at, ops_nil, ops_cons, op_plain, op_guardn, slotAt_zero, slotAt_succ, step_move, step_assign, step_pick, step_indexAddr, opt_some, gB_true, gB_false, ev_tmp, ev_const, putT_some, pv_eq, lk, tov, stepA, valA, idxAddrA, idxA, PV.cells, Option.getD_some, Option.getD_none, Option.map_some, Option.bind_some, List.getElem?_cons_zero, List.getElem?_cons_succ, List.set_cons_zero, List.set_cons_succ, if_true, if_false, Nat.zero_add, Nat.reduceAdd, Nat.reduceEqDiff, decide_true, decide_false, eq_self, RetQ_ret, resAll, res1, packR, Option.some.injEq]
      · rw [hbad hlt (by omega)]
      · simp -implicitDefEqProofs only [h0, Int.toNat_natCast, hg, wp_cond, execK_at, seqK_normal, opsK_at, ops_nil, ops_cons, op_plain, op_guardn, slotAt_zero, slotAt_succ, step_pick, step_load, step_binOp, opt_some, gB_false, ev_tmp, ev_const, putT_some, pv_eq, lk, tov, valA, ldA, ldC, binA, num2, binV, Option.getD_some, Option.getD_none, Option.map_some, Option.bind_some, List.getElem?_cons_zero, List.getElem?_cons_succ, List.set_cons_zero, List.set_cons_succ, List.length_cons, List.length_nil, List.take_succ_cons, List.take_nil, if_true, if_false, Nat.zero_add, Nat.reduceAdd, Nat.reduceEqDiff, Nat.le_refl, Nat.reduceBEq, Bool.false_eq_true, eq_self]
        refine gB_dec ?_ ?_ <;> intro hc4 <;> simp -implicitDefEqProofs only [hc4, wp_skip, wp_reg0, wp_seq, wp_ret, wpK_at, seqK_normal, seqK_ret, blockK_normal, blockK_ret, loopK_ret, opsK_at, ops_nil, ops_cons, op_plain, step_move, step_assign, step_binOp, opt_some, ev_tmp, ev_const, putT_some, lk, tov, stepA, valA, binA, num2, binV, Option.getD_none, Option.map_some, Option.bind_some, List.getElem?_cons_zero, List.getElem?_cons_succ, List.set_cons_zero, List.set_cons_succ, if_true, Nat.zero_add, Nat.reduceAdd, Nat.reduceBEq, decide_true, decide_false, eq_self, RetQ_ret, resAll, res1, packR, Option.some.injEq]
        · rw [hbad hlt (by omega)]
        · have hw := wrapped (x := (i : Int) + 1) (by omega) (by omega)
          simp -implicitDefEqProofs only [hw]
          refine loopK_of (m' := m - 1) (by omega) ?_
          simp -implicitDefEqProofs only [opt_some, ghs, gh1, junkAll, Option.bind_some, List.set_cons_zero, List.set_cons_succ]
          refine ⟨i + 1, by omega, by omega, ?_, by simp only [Int.natCast_add, Int.natCast_one]⟩
          rw [List.take_succ_eq_append_getElem hlt]
          intro x hx
          rcases List.mem_append.1 hx with hx | hx
          · exact hall x hx
          · simp at hx; omega
    · rw [hend (by omega)]
  · rw [hend (by simp only [List.length_map] at hc; omega)]

theorem eq_fr (x y : Fr) : cellsEq [some .i64, some .i64, none] [num x.n, num x.d, tru x.bad] [num y.n, num y.d, tru y.bad] = some (decide (x = y)) := by
  obtain ⟨n, d, b⟩ := x
  obtain ⟨n', d', b'⟩ := y
  simp only [cellsEq, Fr.mk.injEq]
  cases b <;> cases b' <;> simp <;> rfl

theorem ok34 (ex ex' : Bool) (r c : Int) (l : List Fr) (xs : List Int) (h : xs.length ≤ 5864062014805) (hl : l = xs.map (newF · 1)) : Ok Try.prog 34 [matV ex r c (frs l), num r, num c, .sl ex' (xs.map num)] (tru true) := by
  refine ok_fn mixed Try.func34 (code := ?_) (h := h34) ?_ k34 ?_
  rotate_left
  · exact rfl
  unfold h34 initS
  simp -implicitDefEqProofs only [wp_reg, wp_seq, seqK_normal, opsK_at, ops_nil, ops_cons, op_plain, op_guardn, slotAt_zero, slotAt_succ, step_move, step_assign, step_load, step_fieldAddr, step_binOp, step_box, opt_some, ev_tmp, ev_const, putT_some, st_tm, lk, upd, tov, stepA, valA, cellsOf, ldA, ldT, fieldAddrA, binA, num2, binV, tovs, St.newBox, St.mapTV, TV.killPtr, PV.cells, PV.ok, PV.cell, Option.getD_some, Option.getD_none, Option.map_some, Option.bind_some, List.getElem?_cons_zero, List.getElem?_cons_succ, List.set_cons_zero, List.set_cons_succ, List.map_cons, List.map_nil, List.all_cons, List.all_nil, List.length_cons, List.length_nil, List.take_succ_cons, List.take_zero, List.drop_zero, List.cons_append, List.nil_append, List.toList_toArray, List.replicate_succ, List.replicate_zero, if_true, if_false, Bool.and_true, reduceCtorEq, and_self, Nat.zero_add, Nat.reduceAdd, Nat.reduceSub, Nat.reduceEqDiff, Nat.reduceLeDiff, Nat.reduceBEq, Bool.false_eq_true, eq_self, Option.isNone_none, one_int, Try.ntmps34, Try.results34]
  have e : (frs l).length = xs.length := by simp [hl]
  have hb : ∀ (b : Int), (b != b) = false := by simp
  simp only [hb]
  simp -implicitDefEqProofs only [execK_at, opsK_at, ops_cons, op_plain, op_guardn, slotAt_zero, slotAt_succ, step_move, step_pick, step_load, step_fieldAddr, step_binOp, opt_some, gB_false, ev_tmp, ev_const, putT_some, pv_eq, lk, tov, valA, ldA, ldT, fieldAddrA, binA, num2, binV, tovs, Option.getD_some, Option.getD_none, Option.map_some, Option.bind_some, List.getElem?_cons_zero, List.getElem?_cons_succ, List.set_cons_zero, List.set_cons_succ, List.length_cons, List.length_nil, List.take_succ_cons, List.take_zero, List.drop_succ_cons, List.drop_zero, if_true, if_false, reduceCtorEq, Nat.zero_add, Nat.reduceAdd, Nat.reduceEqDiff, Nat.reduceLeDiff, Nat.reduceBEq, Bool.false_eq_true, eq_self]
  simp only [hb]
  simp -implicitDefEqProofs only [wp_cond, execK_at, seqK_normal, opsK_at, ops_nil, ops_cons, op_plain, op_guardn, slotAt_zero, slotAt_succ, step_builtin, step_move, step_pick, step_load, step_fieldAddr, step_binOp, opt_some, gB_false, ev_tmp, ev_const, putT_some, pv_eq, lk, tov, stepA, valA, ldA, ldT, fieldAddrA, lenA, binA, num2, binV, tovs, Option.getD_some, Option.getD_none, Option.map_some, Option.bind_some, List.getElem?_cons_zero, List.getElem?_cons_succ, List.set_cons_zero, List.set_cons_succ, List.length_cons, List.length_nil, List.take_succ_cons, List.take_nil, List.drop_succ_cons, List.drop_zero, if_true, if_false, reduceCtorEq, Nat.zero_add, Nat.reduceAdd, Nat.reduceEqDiff, Nat.le_refl, Nat.reduceBEq, Bool.false_eq_true, eq_self]
  have e1 : (((frs l).length : Int) != ((xs.map num).length : Int)) = false := by simp [hl]
  simp only [e1]
  simp -implicitDefEqProofs only [wp_skip, wp_reg, wp_seq, wp_block, wpK_at, seqK_normal, opsK_at, ops_nil, ops_cons, op_plain, step_builtin, step_move, step_load, step_fieldAddr, opt_some, gB_false, ev_tmp, ev_const, putT_some, pv_eq, lk, tov, stepA, valA, ldA, ldT, fieldAddrA, lenA, tovs, Option.getD_some, Option.getD_none, Option.map_some, Option.bind_some, List.getElem?_cons_zero, List.getElem?_cons_succ, List.set_cons_zero, List.set_cons_succ, List.length_cons, List.length_nil, List.take_succ_cons, List.take_nil, List.drop_succ_cons, List.drop_zero, if_true, if_false, reduceCtorEq, Nat.zero_add, Nat.reduceAdd, Nat.reduceEqDiff, Nat.le_refl, Bool.false_eq_true, eq_self]
  refine wp_loop (fun m s => ∃ i : Nat, i + m = l.length ∧ s = ⟨[jk, jk, jk, .v (.sl ex' (xs.map num)), jk, jk, jk, jk, jk, jk, jk, jk, jk, jk, jk, jk, jk, jk, jk, jk, jk, jk, jk, jk, jk, jk, jk, jk, jk, jk, .v (.sl ex (frs l)), nt (frs l).length, nt i, jk, jk, jk, jk, jk, jk, jk, jk, jk, jk, jk, jk], [(4, [nt r, nt c, .v (.sl ex (frs l))])], [], [], [], 0⟩) l.length ?_ ?_
  · simp -implicitDefEqProofs only [opt_some, rm, ghs, gh1, junkAll, rmAll, Option.bind_some, List.set_cons_zero, List.set_cons_succ, if_false, Nat.reduceEqDiff]
    exact ⟨0, by simp, rfl⟩
  rintro m s ⟨i, hi, rfl⟩
  simp -implicitDefEqProofs only [wp_reg0, wp_seq, wp_cond, seqK_normal, opsK_at, ops_nil, ops_cons, op_plain, step_binOp, opt_some, ev_tmp, putT_some, lk, valA, binA, num2, binV, Option.getD_none, Option.map_some, List.getElem?_cons_zero, List.getElem?_cons_succ, List.set_cons_zero, List.set_cons_succ, if_true, Nat.zero_add, Nat.reduceBEq, eq_self]
  refine gB_dec ?_ ?_ <;> intro hc <;> simp -implicitDefEqProofs only [hc, wp_skip, wp_reg0, wp_reg, wp_seq, wp_block, wp_exit, wp_ret, wpK_at, seqK_normal, seqK_exit, blockK_exit, loopK_exit, opsK_at, ops_nil, ops_cons, op_plain, step_move, step_assign, step_indexAddr, opt_some, ev_tmp, ev_const, putT_some, pv_eq, lk, tov, stepA, valA, idxAddrA, idxA, PV.cells, Option.getD_some, Option.getD_none, Option.map_some, Option.bind_some, List.getElem?_cons_zero, List.getElem?_cons_succ, List.set_cons_zero, List.set_cons_succ, if_true, if_false, reduceCtorEq, Nat.zero_add, Nat.reduceAdd, Nat.reduceEqDiff, decide_true, decide_false, eq_self, RetQ_ret, resAll, res1, packR]
  · have hlt : i < l.length := by simpa using hc
    have hlx : i < xs.length := by simpa [hl] using hlt
    have h0 : (0 : Int) ≤ (i : Int) := by omega
    have hg : (frs l)[i]? = some (frV l[i]) := by simp [hlt]
    have hg2 : (xs.map num)[i]? = some (num xs[i]) := by simp [hlx]
    simp -implicitDefEqProofs only [h0, Int.toNat_natCast, hg, hg2, wp_draw, wp_seq, seqK_normal, opsK_at, ops_nil, ops_cons, op_plain, step_call, step_move, step_assign, step_load, step_indexAddr, step_alloc, step_store, opt_some, ev_tmp, putT_some, putT_none, pv_eq, st_tm, lk, upd, tov, stepA, valA, storeA, cellsOf, ldA, ldC, ldT, idxAddrA, idxA, tovs, newToks, St.newBox, St.mapTV, TV.killPtr, zeroT, PV.cells, PV.ok, PV.cell, Option.getD_some, Option.getD_none, Option.map_some, Option.bind_some, List.getElem?_cons_zero, List.getElem?_cons_succ, List.set_cons_zero, List.set_cons_succ, List.map_cons, List.map_nil, List.foldl_nil, List.all_cons, List.all_nil, List.length_cons, List.length_nil, List.take_succ_cons, List.take_zero, List.take_nil, List.drop_succ_cons, List.drop_zero, List.drop_nil, List.nil_append, List.append_nil, if_true, if_false, Bool.and_true, reduceCtorEq, and_self, Nat.zero_add, Nat.reduceAdd, Nat.reduceEqDiff, Nat.reduceLT, Nat.le_refl, Bool.false_eq_true, eq_self, Option.isNone_none, one_int, one_bool]
    refine call_fn rfl rfl rfl (ok14 xs[i] 1) ?_
    have hli : l[i] = newF xs[i] 1 := by simp [hl]
    have hw := wrapped (x := (i : Int) + 1) (by omega) (by omega)
    simp -implicitDefEqProofs only [hli, eq_fr, hw, wp_skip, wp_reg0, wp_cond, wpK_at, seqK_normal, blockK_normal, opsK_at, ops_nil, ops_cons, op_plain, step_move, step_binOp, opt_some, gB_false, ev_tmp, ev_const, putT_some, lk, valA, bl, binA, num2, binV, eqA, Option.getD_some, Option.getD_none, Option.map_some, List.getElem?_cons_zero, List.getElem?_cons_succ, List.set_cons_zero, List.set_cons_succ, if_true, if_false, Bool.not_true, reduceCtorEq, Nat.zero_add, Nat.reduceAdd, Nat.reduceEqDiff, Nat.reduceBEq, decide_true, eq_self]
    refine loopK_of (m' := m - 1) (by omega) ?_
    simp -implicitDefEqProofs only [opt_some, rm, ghs, gh1, junkAll, rmAll, Option.bind_some, List.set_cons_zero, List.set_cons_succ, if_true, if_false, Nat.reduceEqDiff, eq_self]
    exact ⟨i + 1, by omega, by simp only [Int.natCast_add, Int.natCast_one]⟩

end Go.Proofs.Ytadfcbpakfaaaaa.A
