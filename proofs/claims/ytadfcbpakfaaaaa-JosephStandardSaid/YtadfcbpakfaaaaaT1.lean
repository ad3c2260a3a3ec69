import Derived.Test.YtadfcbpakfaaaaaH
set_option linter.unusedVariables false
set_option linter.unusedSimpArgs false
set_option maxRecDepth 100000
namespace Go.Proofs.Ytadfcbpakfaaaaa.A
open Go Go.RowKit Go.Shelf

abbrev num (n : Int) : PV := .s (.int .i64 n)
abbrev tru (b : Bool) : PV := .s (.bool b)
abbrev nt (n : Int) : TV := .v (.s (.int .i64 n))
abbrev jk : TV := .v .junk

theorem wrapped {x : Int} (h1 : -9223372036854775808 ≤ x) (h2 : x ≤ 9223372036854775807) : IntKind.wrap .i64 x = x := by
  simp [IntKind.wrap, IntKind.bits, IntKind.signed]
  omega

theorem ok52 : Ok Try.prog 52 [] (.agg [num 0, num 0, tru true]) := by
  refine ok_fn mixed Try.func52 (code := ?_) (h := h52) ?_ k52 ?_
  rotate_left
  · exact rfl
  unfold h52 initS
  simp -implicitDefEqProofs only [wp_reg, wp_seq, wp_ret, seqK_normal, opsK_at, ops_nil, ops_cons, op_plain, step_build, step_alloc, step_store, opt_some, ev_tmp, ev_const, putT_some, putT_none, pv_eq, st_tm, lk, upd, tov, stepA, valA, storeA, cellsOf, ldA, ldT, pvs, tovs, newToks, St.newBox, St.mapTV, TV.killPtr, zeroT, PV.cells, PV.ok, PV.cell, fillA, setR, Option.getD_some, Option.map_some, Option.bind_some, List.getElem?_cons_zero, List.getElem?_cons_succ, List.set_cons_zero, List.set_cons_succ, List.map_cons, List.map_nil, List.foldl_nil, List.all_cons, List.all_nil, List.length_cons, List.length_nil, List.take_succ_cons, List.take_zero, List.take_nil, List.drop_succ_cons, List.drop_zero, List.drop_nil, List.nil_append, List.append_nil, List.zip_cons_cons, List.zip_nil_left, List.toList_toArray, List.replicate_succ, List.replicate_zero, if_true, if_false, Bool.and_true, reduceCtorEq, and_self, Nat.zero_add, Nat.reduceAdd, Nat.reduceSub, Nat.reduceLT, Nat.le_refl, eq_self, Option.isNone_none, one_int, one_bool, RetQ_ret, resAll, res1, packR, Try.ntmps52, Try.results52]

theorem ok75 (n : Int) : Ok Try.prog 75 [num n] (tru (decide (1 ≤ n ∧ n ≤ 16))) := by
  refine ok_fn mixed Try.func75 (code := ?_) (h := h75) ?_ k75 ?_
  rotate_left
  · exact rfl
  unfold h75 initS
  simp -implicitDefEqProofs only [wp_reg0, wp_seq, seqK_normal, opsK_at, ops_nil, ops_cons, op_plain, op_guard, slotAt_zero, slotAt_succ, step_move, step_assign, step_binOp, opt_some, ev_tmp, ev_const, putT_some, lk, stepA, valA, binA, num2, binV, Option.getD_none, Option.map_some, Option.bind_some, List.getElem?_cons_zero, List.getElem?_cons_succ, List.set_cons_zero, List.set_cons_succ, List.map_cons, List.map_nil, List.length_cons, List.length_nil, List.cons_append, List.nil_append, List.toList_toArray, List.replicate_succ, List.replicate_zero, if_true, Nat.zero_add, Nat.reduceAdd, Nat.reduceSub, Nat.reduceBEq, eq_self, Try.ntmps75, Try.results75]
  repeat' (refine gB_dec ?_ ?_ <;> intro hc <;> first | (exfalso; omega) | simp -implicitDefEqProofs only [hc, wp_ret, execK_at, junkK_at, seqK_normal, opsK_at, ops_nil, ops_cons, op_plain, op_guard, slotAt_zero, slotAt_succ, step_move, step_assign, step_pick, step_binOp, opt_some, gB_true, gB_false, ev_tmp, ev_const, putT_some, pv_eq, lk, tov, stepA, valA, binA, num2, binV, Option.getD_none, Option.map_some, Option.bind_some, List.getElem?_cons_zero, List.getElem?_cons_succ, List.set_cons_zero, List.set_cons_succ, if_true, if_false, true_and, false_and, Nat.zero_add, Nat.reduceAdd, Nat.reduceBEq, Bool.false_eq_true, decide_true, decide_false, eq_self, RetQ_ret, resAll, res1, packR])

theorem ok53 (a b : Int) (ha : -9223372036854775807 ≤ a ∧ a ≤ 9223372036854775807) (hb : -9223372036854775807 ≤ b ∧ b ≤ 9223372036854775807) : Ok Try.prog 53 [num a, num b] (num (Int.gcd a b)) := by
  refine ok_fn mixed Try.func53 (code := ?_) (h := h53) ?_ k53 ?_
  rotate_left
  · exact rfl
  unfold h53 initS
  simp -implicitDefEqProofs only [wp_reg0, wp_seq, wp_block, seqK_normal, opsK_at, ops_nil, ops_cons, op_plain, step_builtin, step_move, step_assign, step_unOp, opt_some, ev_tmp, ev_const, putT_some, pv_eq, lk, tov, stepA, valA, unA, pvs, Option.getD_none, Option.map_some, Option.bind_some, List.getElem?_cons_zero, List.getElem?_cons_succ, List.set_cons_zero, List.set_cons_succ, List.map_cons, List.map_nil, List.foldl_cons, List.foldl_nil, List.length_cons, List.length_nil, List.cons_append, List.nil_append, List.toList_toArray, List.replicate_succ, List.replicate_zero, if_true, Nat.zero_add, Nat.reduceAdd, Nat.reduceSub, eq_self, extremeA, ints, Try.ntmps53, Try.results53]
  simp -implicitDefEqProofs only [wrapped (x := 0 - a) (by omega) (by omega), wrapped (x := 0 - b) (by omega) (by omega)]
  have ea : (if a < 0 - a then 0 - a else a) = (a.natAbs : Int) := by split <;> omega
  have eb : (if b < 0 - b then 0 - b else b) = (b.natAbs : Int) := by split <;> omega
  simp only [ea, eb]
  refine wp_loop (fun m s => ∃ x y : Nat, y = m ∧ Nat.gcd x y = Int.gcd a b ∧ s = ⟨[nt x, nt y, jk, jk, jk, jk, jk, jk, jk, jk, jk, jk, jk, jk, jk, jk, jk, jk, jk, jk], [], [], [], [], 0⟩) b.natAbs ?_ ?_
  · simp -implicitDefEqProofs only [opt_some, ghs, gh1, junkAll, Option.bind_some, List.set_cons_zero, List.set_cons_succ]
    exact ⟨a.natAbs, b.natAbs, rfl, rfl, rfl⟩
  rintro m s ⟨x, y, rfl, hg, rfl⟩
  simp -implicitDefEqProofs only [wp_reg0, wp_seq, wp_cond, seqK_normal, opsK_at, ops_nil, ops_cons, op_plain, step_move, step_binOp, opt_some, ev_tmp, ev_const, putT_some, lk, valA, binA, num2, binV, Option.getD_none, Option.map_some, List.getElem?_cons_zero, List.getElem?_cons_succ, List.set_cons_zero, List.set_cons_succ, if_true, Nat.zero_add, Nat.reduceAdd, Nat.reduceBEq, eq_self]
  refine gB_dec ?_ ?_ <;> intro hy <;> simp -implicitDefEqProofs only [hy, wp_skip, wp_reg0, wp_draw0, wp_seq, wp_block, wp_exit, wp_ret, wpK_at, seqK_normal, seqK_exit, blockK_exit, loopK_exit, opsK_at, ops_nil, ops_cons, op_plain, step_move, step_assign, step_binOp, opt_some, ev_tmp, putT_some, lk, tov, stepA, valA, binA, num2, binV, Option.getD_none, Option.map_some, Option.bind_some, List.getElem?_cons_zero, List.getElem?_cons_succ, List.set_cons_zero, List.set_cons_succ, if_true, ne_eq, true_and, Nat.zero_add, Nat.reduceAdd, Nat.reduceBEq, decide_true, decide_false, eq_self, RetQ_ret, resAll, res1, packR, Option.some.injEq]
  · have hy0 : (y : Int) ≠ 0 := by omega
    simp -implicitDefEqProofs only [hy0, blockK_normal, opsK_at, ops_nil, ops_cons, op_plain, step_assign, opt_some, ev_tmp, putT_some, lk, stepA, valA, Option.getD_none, Option.map_some, List.getElem?_cons_zero, List.getElem?_cons_succ, List.set_cons_zero, List.set_cons_succ, if_true, not_false_eq_true, Nat.reduceAdd]
    refine loopK_of (m' := x % y) (Nat.mod_lt _ (by omega)) ?_
    simp -implicitDefEqProofs only [opt_some, ghs, gh1, junkAll, Option.bind_some, List.set_cons_zero, List.set_cons_succ]
    refine ⟨y, x % y, rfl, ?_, ?_⟩
    · rw [← hg, Nat.gcd_comm y, ← Nat.gcd_rec, Nat.gcd_comm]
    · simp [nt, jk, Int.tmod_eq_emod_of_nonneg]
  · have : y = 0 := by omega
    subst this
    simp at hg
    simp [hg]

/-! ### Fractions -/
structure Fr where
  n : Int
  d : Int
  bad : Bool
  deriving DecidableEq

abbrev frV (x : Fr) : PV := .agg [num x.n, num x.d, tru x.bad]
abbrev Fr.wrong : Fr := ⟨0, 0, true⟩
def newF (n d : Int) : Fr :=
  if n > 1152921504606846976 ∨ n < -1152921504606846976 ∨ d > 1152921504606846976 ∨ d < -1152921504606846976 ∨ d = 0 then .wrong else
    let m : Int := if d < 0 then -n else n
    let e : Int := if d < 0 then -d else d
    let k : Int := Int.gcd m e
    if m.tdiv k > 1073741824 ∨ m.tdiv k < -1073741824 ∨ e.tdiv k > 1073741824 then .wrong else ⟨m.tdiv k, e.tdiv k, false⟩

theorem tdiv_small {m k : Int} (h1 : -1152921504606846976 ≤ m) (h2 : m ≤ 1152921504606846976) (hk : 0 < k) : -1152921504606846976 ≤ m.tdiv k ∧ m.tdiv k ≤ 1152921504606846976 := by
  have e : (m.tdiv k).natAbs = m.natAbs / k.natAbs := Int.natAbs_tdiv m k
  have h3 : m.natAbs / k.natAbs ≤ m.natAbs := Nat.div_le_self _ _
  omega

theorem ok14 (n d : Int) : Ok Try.prog 14 [num n, num d] (frV (newF n d)) := by
  by_cases hbad : n > 1152921504606846976 ∨ n < -1152921504606846976 ∨ d > 1152921504606846976 ∨ d < -1152921504606846976 ∨ d = 0
  · have e : newF n d = .wrong := by unfold newF; rw [if_pos hbad]
    rw [e]
    refine ok_fn mixed Try.func14 (code := ?_) (h := h14) ?_ k14 ?_
    rotate_left
    · exact rfl
    unfold h14 initS
    simp -implicitDefEqProofs only [wp_reg0, wp_reg, wp_seq, seqK_normal, opsK_at, ops_nil, ops_cons, op_plain, op_guardn, slotAt_zero, slotAt_succ, step_move, step_binOp, step_alloc, opt_some, ev_tmp, ev_const, putT_some, st_tm, lk, upd, stepA, valA, binA, num2, binV, newToks, St.newBox, St.mapTV, TV.killPtr, zeroT, Option.getD_some, Option.getD_none, Option.map_some, Option.bind_some, List.getElem?_cons_zero, List.getElem?_cons_succ, List.set_cons_zero, List.set_cons_succ, List.map_cons, List.map_nil, List.foldl_nil, List.length_cons, List.length_nil, List.cons_append, List.nil_append, List.toList_toArray, List.replicate_succ, List.replicate_zero, if_true, Nat.zero_add, Nat.reduceAdd, Nat.reduceSub, Nat.reduceBEq, eq_self, Option.isNone_none, Try.ntmps14, Try.results14]
    repeat' (refine gB_dec ?_ ?_ <;> intro hc <;> first | (exfalso; omega) | simp -implicitDefEqProofs only [hc, wp_reg, wp_seq, wp_cond, wpK_at, execK_at, junkK_at, seqK_normal, opsK_at, ops_nil, ops_cons, op_plain, op_guardn, slotAt_zero, slotAt_succ, step_call, step_move, step_pick, step_binOp, opt_some, gB_true, gB_false, ev_tmp, ev_const, putT_some, pv_eq, lk, tov, valA, binA, num2, binV, Option.getD_none, Option.map_some, Option.bind_some, List.getElem?_cons_zero, List.getElem?_cons_succ, List.set_cons_zero, List.set_cons_succ, if_true, if_false, reduceCtorEq, Nat.zero_add, Nat.reduceAdd, Nat.reduceBEq, Bool.false_eq_true, decide_true, decide_false, eq_self])
    all_goals (refine call_fn rfl rfl rfl (ok52) ?_; simp -implicitDefEqProofs only [wp_ret, seqK_normal, seqK_ret, opsK_at, ops_nil, ops_cons, op_plain, step_store, opt_some, ev_tmp, putT_some, putT_none, lk, upd, tov, stepA, storeA, cellsOf, ldA, ldT, tovs, PV.cells, PV.ok, PV.cell, Option.getD_some, Option.map_some, Option.bind_some, List.getElem?_cons_zero, List.getElem?_cons_succ, List.set_cons_zero, List.set_cons_succ, List.map_cons, List.map_nil, List.all_cons, List.all_nil, List.length_cons, List.length_nil, List.take_succ_cons, List.take_zero, List.take_nil, List.drop_succ_cons, List.drop_zero, List.drop_nil, List.nil_append, List.append_nil, if_true, if_false, Bool.and_true, and_self, Nat.zero_add, Nat.reduceAdd, Nat.reduceLT, Nat.le_refl, eq_self, one_int, one_bool, RetQ_ret, resAll, res1, packR])
  · have e1 : ¬ n > 1152921504606846976 := fun h => hbad (.inl h)
    have e2 : ¬ n < -1152921504606846976 := fun h => hbad (.inr (.inl h))
    have e3 : ¬ d > 1152921504606846976 := fun h => hbad (.inr (.inr (.inl h)))
    have e4 : ¬ d < -1152921504606846976 := fun h => hbad (.inr (.inr (.inr (.inl h))))
    have e5 : ¬ d = 0 := fun h => hbad (.inr (.inr (.inr (.inr h))))
    have e6 : (d == 0) = false := by simpa using e5
    have key : ∀ m e : Int, (-1152921504606846976 ≤ m ∧ m ≤ 1152921504606846976) → (0 < e ∧ e ≤ 1152921504606846976) → (if d < 0 then -n else n) = m → (if d < 0 then -d else d) = e → Ok Try.prog 14 [num n, num d] (frV (newF n d)) := by
      intro m e hm he em ee
      have hk : 0 < (Int.gcd m e : Int) := by
        have : 0 < Int.gcd m e := Int.gcd_pos_of_ne_zero_right _ (by omega)
        omega
      have hk0 : ((Int.gcd m e : Int) = 0) = False := by simp; omega
      have hq : newF n d = if m.tdiv (Int.gcd m e) > 1073741824 ∨ m.tdiv (Int.gcd m e) < -1073741824 ∨ e.tdiv (Int.gcd m e) > 1073741824 then .wrong else ⟨m.tdiv (Int.gcd m e), e.tdiv (Int.gcd m e), false⟩ := by
        unfold newF
        rw [if_neg hbad]
        simp only [em, ee]
      have w1 := tdiv_small (m := m) (k := Int.gcd m e) hm.1 hm.2 hk
      have w2 := tdiv_small (m := e) (k := Int.gcd m e) (by omega) he.2 hk
      have v1 := wrapped (x := m.tdiv (Int.gcd m e)) (by omega) (by omega)
      have v2 := wrapped (x := e.tdiv (Int.gcd m e)) (by omega) (by omega)
      have h40 := ok53 m e (by omega) (by omega)
      refine ok_fn mixed Try.func14 (code := ?_) (h := h14) ?_ k14 ?_
      rotate_left
      · exact rfl
      unfold h14 initS
      simp -implicitDefEqProofs only [wp_reg0, wp_reg, wp_seq, seqK_normal, opsK_at, ops_nil, ops_cons, op_plain, op_guardn, slotAt_zero, slotAt_succ, step_move, step_binOp, step_alloc, opt_some, ev_tmp, ev_const, putT_some, st_tm, lk, upd, stepA, valA, binA, num2, binV, newToks, St.newBox, St.mapTV, TV.killPtr, zeroT, Option.getD_some, Option.getD_none, Option.map_some, Option.bind_some, List.getElem?_cons_zero, List.getElem?_cons_succ, List.set_cons_zero, List.set_cons_succ, List.map_cons, List.map_nil, List.foldl_nil, List.length_cons, List.length_nil, List.cons_append, List.nil_append, List.toList_toArray, List.replicate_succ, List.replicate_zero, if_true, Nat.zero_add, Nat.reduceAdd, Nat.reduceSub, Nat.reduceBEq, eq_self, Option.isNone_none, Try.ntmps14, Try.results14]
      simp -implicitDefEqProofs only [e1, e2, e3, e4, e6, wp_skip, wp_reg0, wp_seq, wp_cond, wpK_at, execK_at, seqK_normal, opsK_at, ops_nil, ops_cons, op_plain, op_guardn, slotAt_zero, slotAt_succ, step_move, step_pick, step_binOp, opt_some, gB_false, ev_tmp, ev_const, putT_some, pv_eq, lk, tov, valA, binA, num2, binV, Option.getD_none, Option.map_some, Option.bind_some, List.getElem?_cons_zero, List.getElem?_cons_succ, List.set_cons_zero, List.set_cons_succ, if_true, if_false, Nat.zero_add, Nat.reduceAdd, Nat.reduceBEq, Bool.false_eq_true, decide_false, eq_self]
      refine gB_dec ?_ ?_ <;> intro hd
      · rw [if_pos hd] at em ee
        have wn : IntKind.wrap .i64 (0 - n) = m := by rw [wrapped (by omega) (by omega)]; omega
        have wd : IntKind.wrap .i64 (0 - d) = e := by rw [wrapped (by omega) (by omega)]; omega
        simp -implicitDefEqProofs only [hd, wn, wd, wp_reg0, wp_seq, wpK_at, seqK_normal, opsK_at, ops_nil, ops_cons, op_plain, step_call, step_move, step_assign, step_unOp, opt_some, ev_tmp, putT_some, pv_eq, lk, tov, stepA, valA, unA, Option.getD_none, Option.map_some, Option.bind_some, List.getElem?_cons_zero, List.getElem?_cons_succ, List.set_cons_zero, List.set_cons_succ, Nat.zero_add, Nat.reduceAdd, decide_true]
        refine call_fn rfl rfl rfl (h40) ?_
        simp -implicitDefEqProofs only [hk0, v1, v2, wp_reg0, wp_draw0, wp_seq, seqK_normal, opsK_at, ops_nil, ops_cons, op_plain, op_guardn, slotAt_zero, slotAt_succ, step_move, step_assign, step_binOp, opt_some, ev_tmp, ev_const, putT_some, lk, stepA, valA, binA, num2, binV, Option.getD_none, Option.map_some, Option.bind_some, List.getElem?_cons_zero, List.getElem?_cons_succ, List.set_cons_zero, List.set_cons_succ, if_true, ne_eq, not_false_eq_true, and_self, Nat.zero_add, Nat.reduceAdd, Nat.reduceBEq, eq_self]
        repeat' (refine gB_dec ?_ ?_ <;> intro hc <;> first | (exfalso; omega) | simp -implicitDefEqProofs only [hc, wp_skip, wp_reg, wp_seq, wp_cond, wp_ret, wpK_at, execK_at, junkK_at, seqK_normal, opsK_at, ops_nil, ops_cons, op_plain, op_guardn, slotAt_zero, slotAt_succ, step_call, step_move, step_pick, step_binOp, step_build, step_store, opt_some, gB_true, gB_false, ev_tmp, ev_const, putT_some, putT_none, pv_eq, lk, upd, tov, stepA, valA, storeA, cellsOf, ldA, ldT, binA, num2, binV, pvs, tovs, PV.cells, PV.ok, PV.cell, fillA, setR, Option.getD_some, Option.getD_none, Option.map_some, Option.bind_some, List.getElem?_cons_zero, List.getElem?_cons_succ, List.set_cons_zero, List.set_cons_succ, List.map_cons, List.map_nil, List.all_cons, List.all_nil, List.length_cons, List.length_nil, List.take_succ_cons, List.take_zero, List.take_nil, List.drop_succ_cons, List.drop_zero, List.drop_nil, List.nil_append, List.append_nil, List.zip_cons_cons, List.zip_nil_left, if_true, if_false, Bool.and_true, reduceCtorEq, and_self, Nat.zero_add, Nat.reduceAdd, Nat.reduceEqDiff, Nat.reduceLeDiff, Nat.reduceLT, Nat.le_refl, Nat.reduceBEq, Bool.false_eq_true, decide_true, decide_false, eq_self, one_int, one_bool, RetQ_ret, resAll, res1, packR, Option.some.injEq])
        all_goals first
          | (have hr : newF n d = .wrong := by rw [hq]; exact if_pos (by omega)
             rw [hr]; refine call_fn rfl rfl rfl (ok52) ?_; simp -implicitDefEqProofs only [wp_ret, seqK_normal, seqK_ret, opsK_at, ops_nil, ops_cons, op_plain, step_store, opt_some, ev_tmp, putT_some, putT_none, lk, upd, tov, stepA, storeA, cellsOf, ldA, ldT, tovs, PV.cells, PV.ok, PV.cell, Option.getD_some, Option.map_some, Option.bind_some, List.getElem?_cons_zero, List.getElem?_cons_succ, List.set_cons_zero, List.set_cons_succ, List.map_cons, List.map_nil, List.all_cons, List.all_nil, List.length_cons, List.length_nil, List.take_succ_cons, List.take_zero, List.take_nil, List.drop_succ_cons, List.drop_zero, List.drop_nil, List.nil_append, List.append_nil, if_true, if_false, Bool.and_true, and_self, Nat.zero_add, Nat.reduceAdd, Nat.reduceLT, Nat.le_refl, eq_self, one_int, one_bool, RetQ_ret, resAll, res1, packR])
          | (have hr := hq; rw [if_neg (by omega)] at hr; rw [hr])
      · rw [if_neg hd] at em ee
        subst em ee
        simp -implicitDefEqProofs only [hd, wp_skip, wp_reg0, wp_seq, wpK_at, seqK_normal, opsK_at, ops_cons, op_plain, step_call, step_move, opt_some, ev_tmp, putT_some, lk, Option.getD_none, Option.map_some, List.getElem?_cons_zero, List.getElem?_cons_succ, List.set_cons_zero, List.set_cons_succ, Nat.zero_add, Nat.reduceAdd, decide_false]
        refine call_fn rfl rfl rfl (h40) ?_
        simp -implicitDefEqProofs only [hk0, v1, v2, wp_reg0, wp_draw0, wp_seq, seqK_normal, opsK_at, ops_nil, ops_cons, op_plain, op_guardn, slotAt_zero, slotAt_succ, step_move, step_assign, step_binOp, opt_some, ev_tmp, ev_const, putT_some, lk, stepA, valA, binA, num2, binV, Option.getD_none, Option.map_some, Option.bind_some, List.getElem?_cons_zero, List.getElem?_cons_succ, List.set_cons_zero, List.set_cons_succ, if_true, ne_eq, not_false_eq_true, and_self, Nat.zero_add, Nat.reduceAdd, Nat.reduceBEq, eq_self]
        repeat' (refine gB_dec ?_ ?_ <;> intro hc <;> first | (exfalso; omega) | simp -implicitDefEqProofs only [hc, wp_skip, wp_reg, wp_seq, wp_cond, wp_ret, wpK_at, execK_at, junkK_at, seqK_normal, opsK_at, ops_nil, ops_cons, op_plain, op_guardn, slotAt_zero, slotAt_succ, step_call, step_move, step_pick, step_binOp, step_build, step_store, opt_some, gB_true, gB_false, ev_tmp, ev_const, putT_some, putT_none, pv_eq, lk, upd, tov, stepA, valA, storeA, cellsOf, ldA, ldT, binA, num2, binV, pvs, tovs, PV.cells, PV.ok, PV.cell, fillA, setR, Option.getD_some, Option.getD_none, Option.map_some, Option.bind_some, List.getElem?_cons_zero, List.getElem?_cons_succ, List.set_cons_zero, List.set_cons_succ, List.map_cons, List.map_nil, List.all_cons, List.all_nil, List.length_cons, List.length_nil, List.take_succ_cons, List.take_zero, List.take_nil, List.drop_succ_cons, List.drop_zero, List.drop_nil, List.nil_append, List.append_nil, List.zip_cons_cons, List.zip_nil_left, if_true, if_false, Bool.and_true, reduceCtorEq, and_self, Nat.zero_add, Nat.reduceAdd, Nat.reduceEqDiff, Nat.reduceLeDiff, Nat.reduceLT, Nat.le_refl, Nat.reduceBEq, Bool.false_eq_true, decide_true, decide_false, eq_self, one_int, one_bool, RetQ_ret, resAll, res1, packR, Option.some.injEq])
        all_goals first
          | (have hr : newF n d = .wrong := by rw [hq]; exact if_pos (by omega)
             rw [hr]; refine call_fn rfl rfl rfl (ok52) ?_; simp -implicitDefEqProofs only [wp_ret, seqK_normal, seqK_ret, opsK_at, ops_nil, ops_cons, op_plain, step_store, opt_some, ev_tmp, putT_some, putT_none, lk, upd, tov, stepA, storeA, cellsOf, ldA, ldT, tovs, PV.cells, PV.ok, PV.cell, Option.getD_some, Option.map_some, Option.bind_some, List.getElem?_cons_zero, List.getElem?_cons_succ, List.set_cons_zero, List.set_cons_succ, List.map_cons, List.map_nil, List.all_cons, List.all_nil, List.length_cons, List.length_nil, List.take_succ_cons, List.take_zero, List.take_nil, List.drop_succ_cons, List.drop_zero, List.drop_nil, List.nil_append, List.append_nil, if_true, if_false, Bool.and_true, and_self, Nat.zero_add, Nat.reduceAdd, Nat.reduceLT, Nat.le_refl, eq_self, one_int, one_bool, RetQ_ret, resAll, res1, packR])
          | (have hr := hq; rw [if_neg (by omega)] at hr; rw [hr])
    by_cases hd : d < 0
    · exact key (-n) (-d) (by omega) (by omega) (if_pos hd) (if_pos hd)
    · exact key n d (by omega) (by omega) (if_neg hd) (if_neg hd)
end Go.Proofs.Ytadfcbpakfaaaaa.A
