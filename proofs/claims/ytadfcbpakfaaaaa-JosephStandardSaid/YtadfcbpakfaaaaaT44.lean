import Derived.Test.YtadfcbpakfaaaaaT43

set_option linter.unusedVariables false
set_option linter.unusedSimpArgs false
set_option maxRecDepth 100000
namespace Go.Proofs.Ytadfcbpakfaaaaa.A
open Go Go.RowKit Go.Shelf

/-! ### The function JosephStandard -/
theorem std_x {n : Nat} (hn : 1 ≤ n ∧ n ≤ 16) {X P H : List Fr} {R Z : Fr} (lX : X.length = n) (lP : P.length = n * n) (lH : H.length = n) {i : Nat} (hi : i < n)
    (h1 : (addF (X.getD i dz) (divF (mulF ((uF n P H).getD i dz) (surpriseF X H Z)) (spreadF n P H R))).bad = false) (h2 : ((upX n X P H R Z).getD i dz).bad = false) :
    addF (X.getD i dz) (divF (mulF ((uF n P H).getD i dz) (surpriseF X H Z)) (spreadF n P H R)) = (upX n X P H R Z).getD i dz := by
  have lk := kF_len n P H R
  have e : (upX n X P H R Z).getD i dz = addF (X.getD i dz) (mulF ((kF n P H R).getD i dz) (surpriseF X H Z)) := by
    unfold upX
    rw [zip_at (by omega) (by rw [List.length_map]; omega), map_at (by omega)]
  rw [e] at h2 ⊢
  have ek : (kF n P H R).getD i dz = divF ((uF n P H).getD i dz) (spreadF n P H R) := by
    unfold kF
    rw [map_at (by rw [u_len]; exact hi)]
  rw [ek] at h2 ⊢
  obtain ⟨a1, a2, a3⟩ := addF_is h1
  obtain ⟨b1, b2, b3⟩ := addF_is h2
  obtain ⟨c1, c2, c3, c4⟩ := divF_is (fine_bad a2)
  obtain ⟨d1, d2, d3⟩ := mulF_is (fine_bad b2)
  obtain ⟨f1, f2, f3⟩ := mulF_is (fine_bad c1)
  obtain ⟨g1, g2, g3, g4⟩ := divF_is (fine_bad d1)
  refine a3.inj ⟨b3.1, b3.2.trans ?_⟩
  rw [d3.2, c4.2, f3.2, g4.2]
  grind
theorem std_p {n : Nat} (hn : 1 ≤ n ∧ n ≤ 16) {P H : List Fr} {R : Fr} (lP : P.length = n * n) (lH : H.length = n) (hs : ∀ i k, i < n → k < n → P.getD (i * n + k) dz = P.getD (k * n + i) dz) {i k : Nat} (hi : i < n) (hk : k < n)
    (h1 : (subF (P.getD (i * n + k) dz) (divF (mulF ((uF n P H).getD i dz) ((uF n P H).getD k dz)) (spreadF n P H R))).bad = false) (h2 : ((upP n P H R).getD (i * n + k) dz).bad = false) :
    subF (P.getD (i * n + k) dz) (divF (mulF ((uF n P H).getD i dz) ((uF n P H).getD k dz)) (spreadF n P H R)) = (upP n P H R).getD (i * n + k) dz := by
  obtain ⟨b1, b2, b3, b4⟩ := up_at hn lP lH hs hi hk h2
  obtain ⟨_, _, s3⟩ := spread_is hn lP lH (fine_bad b3.1)
  obtain ⟨a1, a2, a3⟩ := subF_is h1
  obtain ⟨c1, c2, c3, c4⟩ := divF_is (fine_bad a2)
  obtain ⟨d1, d2, d3⟩ := mulF_is (fine_bad c1)
  refine a3.inj ⟨b4.1, b4.2.trans ?_⟩
  rw [c4.2, d3.2, (s3 i hi).2, (s3 k hk).2, b3.2]
  rfl
theorem at_nat {n : Nat} (hn : 1 ≤ n ∧ n ≤ 16) {l : List Fr} (hl : l.length = n * n) {i k : Nat} (hi : i < n) (hk : k < n) : atF n n l i k = l.getD (i * n + k) dz := by
  rw [atF_eq (right_nat hn hn hl) (by simpa using hi) (by simpa using hk), Int.toNat_natCast]
set_option maxHeartbeats 4000000 in
theorem ok3 (e1 e2 e3 e4 e5 : Bool) (N : Int) (x root f g h : List Int) (r z : Int) : Ok Try.prog 3 [caseV e1 e2 e3 e4 e5 N x root f g h r z] (tru true) := by
  have h914 := ok9 e1 e2 e3 e4 e5 N x root f g h r z
  refine ok_fn mixed Try.func3 (code := ?_) (h := h3) ?_ k3 ?_
  rotate_left
  · exact rfl
  unfold h3 initS
  simp -implicitDefEqProofs (maxSteps := 10000000) only [wp_reg, wp_seq, seqK_normal, opsK_at, ops_nil, ops_cons, op_plain, step_call, step_assign, step_load, step_box, opt_some, ev_tmp, ev_const, putT_some, st_tm, lk, upd, tov, stepA, valA, cellsOf, ldA, ldT, tovs, St.newBox, St.mapTV, TV.killPtr, PV.cells, PV.ok, PV.cell, Option.getD_some, Option.getD_none, Option.map_some, Option.bind_some, List.getElem?_cons_zero, List.getElem?_cons_succ, List.set_cons_zero, List.set_cons_succ, List.map_cons, List.map_nil, List.all_cons, List.all_nil, List.length_cons, List.length_nil, List.take_succ_cons, List.take_nil, List.drop_zero, List.cons_append, List.nil_append, List.toList_toArray, List.replicate_succ, List.replicate_zero, if_true, if_false, Bool.and_true, reduceCtorEq, and_self, Nat.zero_add, Nat.reduceAdd, Nat.reduceSub, Nat.le_refl, eq_self, Option.isNone_none, one_int, Try.ntmps3, Try.results3]
  refine call_fn rfl rfl rfl (h914) ?_
  cases hf : few9 N x root f g h r z with
  | false =>
    simp -implicitDefEqProofs (maxSteps := 10000000) only [wp_reg0, wp_seq, wp_cond, wpK_at, seqK_normal, opsK_at, ops_nil, ops_cons, op_plain, step_call, step_unOp, opt_some, gB_true, ev_tmp, putT_some, pv_eq, lk, tov, unA, bl, Option.getD_none, Option.map_some, Option.bind_some, List.getElem?_cons_zero, List.getElem?_cons_succ, List.set_cons_zero, List.set_cons_succ, if_false, Bool.not_false, reduceCtorEq, Nat.zero_add, Nat.reduceAdd]
    refine call_fn rfl rfl rfl (ok10) ?_
    simp -implicitDefEqProofs (maxSteps := 10000000) only [wp_ret, seqK_normal, seqK_ret, opsK_at, ops_nil, ops_cons, op_plain, step_assign, opt_some, ev_tmp, putT_some, lk, tov, stepA, valA, Option.getD_none, Option.map_some, Option.bind_some, List.getElem?_cons_zero, List.getElem?_cons_succ, List.set_cons_zero, List.set_cons_succ, Nat.reduceAdd, eq_self, RetQ_ret, resAll, res1, packR]
  | true =>
    obtain ⟨⟨n1, n2, lx, lh, r1, r2, z1, z2⟩, ⟨bx, bh, br, bf, bg⟩, lr, lf, lg⟩ := few9_spec hf
    obtain ⟨n, rfl⟩ := Int.eq_ofNat_of_zero_le (show 0 ≤ N by omega)
    have hn : 1 ≤ n ∧ n ≤ 3 := by omega
    have hn' : 1 ≤ n ∧ n ≤ 16 := by omega
    have cN : (n : Int) * (n : Int) = ((n * n : Nat) : Int) := by simp
    have lx' : x.length = n := by omega
    have lr' : root.length = n * n := by omega
    obtain ⟨p, lp, bp, mp, ep⟩ := sqF_whole hn lr' br
    have h915 := ok11 e1 e2 e3 e4 e5 n x root f g h r z hn lx' lr'
    rw [ep] at h915
    have hs := fun i k (hi : i < n) (hk : k < n) => first_sym hn' lp mp hi hk
    simp -implicitDefEqProofs (maxSteps := 10000000) only [wp_skip, wp_reg, wp_seq, wp_cond, wpK_at, seqK_normal, opsK_at, ops_nil, ops_cons, op_plain, step_call, step_load, step_unOp, opt_some, gB_false, ev_tmp, putT_some, pv_eq, lk, tov, ldA, ldT, unA, bl, tovs, Option.getD_some, Option.getD_none, Option.map_some, Option.bind_some, List.getElem?_cons_zero, List.getElem?_cons_succ, List.set_cons_zero, List.set_cons_succ, List.length_cons, List.length_nil, List.take_succ_cons, List.take_nil, List.drop_zero, if_true, if_false, Bool.not_true, reduceCtorEq, Nat.zero_add, Nat.reduceAdd, Nat.reduceEqDiff, Nat.le_refl, eq_self]
    refine call_fn rfl rfl rfl (h915) ?_
    simp -implicitDefEqProofs (maxSteps := 10000000) only [wp_reg, wp_seq, seqK_normal, opsK_at, ops_nil, ops_cons, op_plain, step_call, step_load, step_fieldAddr, step_alloc, step_store, opt_some, ev_tmp, putT_some, putT_none, st_tm, lk, upd, tov, stepA, storeA, cellsOf, ldA, ldT, fieldAddrA, tovs, newToks, St.newBox, St.newTok, St.mapTV, TV.killPtr, TV.killTok, zeroT, PV.cells, PV.ok, PV.cell, Option.getD_some, Option.getD_none, Option.map_some, Option.bind_some, List.getElem?_cons_zero, List.getElem?_cons_succ, List.set_cons_zero, List.set_cons_succ, List.map_cons, List.map_nil, List.foldl_cons, List.foldl_nil, List.all_cons, List.all_nil, List.length_cons, List.length_nil, List.take_succ_cons, List.take_zero, List.drop_succ_cons, List.drop_zero, List.drop_nil, List.nil_append, List.append_nil, if_true, if_false, Bool.and_true, reduceCtorEq, and_self, Nat.zero_add, Nat.reduceAdd, Nat.reduceEqDiff, Nat.reduceLeDiff, Nat.reduceLT, Nat.le_refl, Bool.false_eq_true, eq_self, Option.isNone_none, one_int]
    refine call_fn rfl rfl rfl (ok12 e5 h (by omega)) ?_
    simp -implicitDefEqProofs (maxSteps := 10000000) only [wp_seq, seqK_normal, opsK_at, ops_nil, ops_cons, op_plain, step_call, step_move, step_assign, step_load, step_fieldAddr, opt_some, ev_tmp, putT_some, lk, tov, stepA, valA, ldA, ldT, fieldAddrA, tovs, Option.getD_some, Option.getD_none, Option.map_some, Option.bind_some, List.getElem?_cons_zero, List.getElem?_cons_succ, List.set_cons_zero, List.set_cons_succ, List.map_cons, List.map_nil, List.all_cons, List.all_nil, List.length_cons, List.length_nil, List.take_succ_cons, List.take_zero, List.take_nil, List.drop_succ_cons, List.drop_zero, if_true, if_false, Bool.and_true, reduceCtorEq, true_and, Nat.zero_add, Nat.reduceAdd, Nat.reduceEqDiff, Nat.reduceLeDiff, Nat.le_refl, Nat.reduceBNe, Bool.false_eq_true, wp_regd, opsC_cons, opsCK_at, dsL_nil, dsL_cons, dsC, allocX, paOk, inPa, nsC, nsL_nil, nsL_cons, nonPs, freeAll, St.freeB, TV.freeB, eq_self, Option.isNone_none]
    refine call_fn rfl rfl rfl (ok14 r 1) ?_
    simp -implicitDefEqProofs (maxSteps := 10000000) only [op_plain, step_call, step_load, step_fieldAddr, opt_some, ev_tmp, putT_some, lk, tov, ldA, ldT, fieldAddrA, tovs, Option.getD_some, Option.getD_none, Option.map_some, Option.bind_some, List.getElem?_cons_zero, List.getElem?_cons_succ, List.set_cons_zero, List.set_cons_succ, List.map_cons, List.map_nil, List.all_cons, List.all_nil, List.length_cons, List.length_nil, List.take_succ_cons, List.take_nil, List.drop_succ_cons, List.drop_zero, if_true, if_false, Bool.and_true, reduceCtorEq, true_and, Nat.zero_add, Nat.reduceAdd, Nat.reduceEqDiff, Nat.le_refl, Nat.reduceBNe, Bool.false_eq_true, opsC_cons, opsCK_at, dsL_nil, dsL_cons, dsC, allocX, paOk, inPa, nsC, nsL_nil, nsL_cons, nonPs, freeAll, St.freeB, TV.freeB, eq_self, Option.isNone_none]
    refine call_fn rfl rfl rfl (ok14 z 1) ?_
    simp -implicitDefEqProofs (maxSteps := 10000000) only [op_plain, step_call, putT_some, lk, Option.getD_some, Option.getD_none, List.set_cons_zero, List.set_cons_succ, List.map_cons, List.map_nil, List.all_cons, List.all_nil, if_true, if_false, Bool.and_true, reduceCtorEq, true_and, Nat.reduceAdd, Nat.reduceEqDiff, Nat.reduceBNe, Bool.false_eq_true, opsC_cons, opsCK_at, dsL_nil, dsL_cons, dsC, allocX, paOk, inPa, nsC, nsL_nil, nsL_cons, nonPs, freeAll, St.freeB, TV.freeB, eq_self, Option.isNone_none]
    have lX : (x.map (newF · 1)).length = n := by rw [List.length_map, lx']
    have lP : (p.map (newF · 1)).length = n * n := by rw [List.length_map, lp]
    have lH : (h.map (newF · 1)).length = n := by rw [List.length_map]; omega
    have h21r := ok14 r 1
    have h21z := ok14 z 1
    generalize x.map (newF · 1) = X at *
    generalize p.map (newF · 1) = P at *
    generalize h.map (newF · 1) = H at *
    generalize newF r 1 = R at *
    generalize newF z 1 = Z at *
    have hn4 : 1 ≤ n ∧ n ≤ 4 := by omega
    have lxx : (upX n X P H R Z).length = n := by
      rw [upX, List.length_zipWith, List.length_map, kF_len, lX, Nat.min_self]
    refine call_fn rfl rfl rfl (ok13 false false false n X P H R Z hn4 lX lP lH) ?_
    simp -implicitDefEqProofs (maxSteps := 10000000) only [wp_reg, wp_seq, seqK_normal, opsK_at, ops_cons, op_plain, step_call, step_move, step_assign, step_load, step_fieldAddr, step_extract, step_alloc, step_store, opt_some, ev_tmp, putT_some, putT_none, pv_eq, st_tm, lk, upd, tov, stepA, valA, storeA, cellsOf, ldA, ldT, fieldAddrA, tovs, newToks, St.newBox, St.newTok, St.mapTV, TV.killPtr, TV.killTok, zeroT, PV.cells, PV.ok, PV.cell, Option.getD_some, Option.getD_none, Option.map_some, Option.bind_some, List.getElem?_cons_zero, List.getElem?_cons_succ, List.set_cons_zero, List.set_cons_succ, List.map_cons, List.map_nil, List.foldl_cons, List.foldl_nil, List.all_cons, List.all_nil, List.length_cons, List.length_nil, List.take_succ_cons, List.take_zero, List.take_nil, List.drop_succ_cons, List.drop_zero, List.drop_nil, List.nil_append, List.append_nil, if_true, if_false, Bool.not_false, Bool.and_true, reduceCtorEq, true_and, and_self, Nat.zero_add, Nat.reduceAdd, Nat.reduceEqDiff, Nat.reduceLT, Nat.le_refl, Nat.reduceBNe, Bool.false_eq_true, opsC_nil, opsC_cons, opsCK_at, dsL_nil, dsL_cons, dsC, allocX, paOk, inPa, nsC, nsL_nil, nsL_cons, nonPs, freeAll, St.freeB, TV.freeB, eq_self, List.contains_nil, Option.isNone_none, one_int, one_bool]
    have h22 := ok15 false false n n P H (by omega)
    rw [if_pos ⟨right_sq hn' lP, by simp [lH]⟩] at h22
    refine call_fn rfl rfl rfl (h22) ?_
    have lu : (frs (applyF n n P H)).length = n := by simp [applyF_len]
    have lx2 : (frs (upX n X P H R Z)).length = n := by simp [lxx]
    simp -implicitDefEqProofs (maxSteps := 10000000) only [lu, lx2, bne_self_eq_false, wp_skip, wp_reg, wp_seq, wp_cond, wpK_at, execK_at, seqK_normal, opsK_at, ops_nil, ops_cons, op_plain, op_guardn, slotAt_zero, slotAt_succ, step_call, step_builtin, step_move, step_assign, step_pick, step_load, step_fieldAddr, step_binOp, step_unOp, step_extract, opt_some, gB_false, ev_tmp, ev_const, putT_some, pv_eq, lk, tov, stepA, valA, ldA, ldT, fieldAddrA, lenA, unA, bl, binA, num2, binV, tovs, Option.getD_some, Option.getD_none, Option.map_some, Option.bind_some, List.getElem?_cons_zero, List.getElem?_cons_succ, List.set_cons_zero, List.set_cons_succ, List.map_nil, List.all_cons, List.all_nil, List.length_cons, List.length_nil, List.take_succ_cons, List.take_zero, List.take_nil, List.drop_succ_cons, List.drop_zero, if_true, if_false, Bool.not_true, Bool.and_true, reduceCtorEq, true_and, Nat.zero_add, Nat.reduceAdd, Nat.reduceEqDiff, Nat.reduceLeDiff, Nat.le_refl, Nat.reduceBEq, Nat.reduceBNe, Bool.false_eq_true, wp_regd, opsC_cons, opsCK_at, dsL_nil, dsL_cons, dsC, allocX, paOk, inPa, nsC, nsL_nil, nsL_cons, nonPs, freeAll, St.freeB, TV.freeB, eq_self, Option.isNone_none]
    refine call_fn rfl rfl rfl (h21z) ?_
    simp -implicitDefEqProofs (maxSteps := 10000000) only [op_plain, step_call, step_move, step_load, step_fieldAddr, opt_some, ev_tmp, putT_some, lk, tov, ldA, ldT, fieldAddrA, tovs, Option.getD_some, Option.getD_none, Option.map_some, Option.bind_some, List.getElem?_cons_zero, List.getElem?_cons_succ, List.set_cons_zero, List.set_cons_succ, List.map_nil, List.all_cons, List.all_nil, List.length_cons, List.length_nil, List.take_succ_cons, List.take_zero, List.drop_zero, if_true, if_false, Bool.and_true, reduceCtorEq, true_and, Nat.zero_add, Nat.reduceAdd, Nat.reduceEqDiff, Nat.reduceLeDiff, Nat.reduceBNe, Bool.false_eq_true, opsC_cons, opsCK_at, dsL_nil, dsL_cons, dsC, allocX, paOk, inPa, nsC, nsL_nil, nsL_cons, nonPs, freeAll, St.freeB, TV.freeB, eq_self, Option.isNone_none]
    refine call_fn rfl rfl rfl (ok17 false false H X (by omega) (by omega)) ?_
    simp -implicitDefEqProofs (maxSteps := 10000000) only [op_plain, step_call, putT_some, lk, Option.getD_some, Option.getD_none, List.set_cons_zero, List.set_cons_succ, List.map_nil, List.all_cons, List.all_nil, if_true, if_false, Bool.and_true, reduceCtorEq, true_and, Nat.reduceAdd, Nat.reduceEqDiff, Nat.reduceBNe, Bool.false_eq_true, opsC_cons, opsCK_at, dsL_nil, dsL_cons, dsC, allocX, paOk, inPa, nsC, nsL_nil, nsL_cons, nonPs, freeAll, St.freeB, TV.freeB, eq_self, Option.isNone_none]
    refine call_fn rfl rfl rfl (ok16 Z (dotF H X)) ?_
    simp -implicitDefEqProofs (maxSteps := 10000000) only [wp_seq, seqK_normal, op_plain, step_call, step_move, step_alloc, step_store, opt_some, ev_tmp, putT_some, putT_none, st_tm, lk, upd, stepA, storeA, cellsOf, newToks, St.newBox, St.mapTV, TV.killPtr, zeroT, PV.cells, PV.ok, PV.cell, Option.getD_some, Option.getD_none, Option.map_some, List.getElem?_cons_zero, List.getElem?_cons_succ, List.set_cons_zero, List.set_cons_succ, List.map_cons, List.map_nil, List.foldl_nil, List.all_cons, List.all_nil, List.length_cons, List.length_nil, List.take_zero, List.drop_succ_cons, List.drop_nil, List.nil_append, List.append_nil, if_true, if_false, Bool.and_true, reduceCtorEq, true_and, and_self, Nat.zero_add, Nat.reduceAdd, Nat.reduceEqDiff, Nat.reduceLT, Nat.le_refl, Nat.reduceBNe, Bool.false_eq_true, wp_regd, opsC_nil, opsC_cons, opsCK_at, dsL_nil, dsL_cons, dsC, allocX, paOk, inPa, nsC, nsL_nil, nsL_cons, nonPs, freeAll, St.freeB, TV.freeB, eq_self, Option.isNone_none, one_int, one_bool]
    refine call_fn rfl rfl rfl (ok17 false false H (applyF n n P H) (by omega) (by rw [applyF_len]; omega)) ?_
    simp -implicitDefEqProofs (maxSteps := 10000000) only [op_plain, step_call, step_load, step_fieldAddr, opt_some, ev_tmp, putT_some, lk, tov, ldA, ldT, fieldAddrA, tovs, Option.getD_some, Option.getD_none, Option.map_some, Option.bind_some, List.getElem?_cons_zero, List.getElem?_cons_succ, List.set_cons_zero, List.set_cons_succ, List.map_nil, List.all_cons, List.all_nil, List.length_cons, List.length_nil, List.take_succ_cons, List.take_zero, List.drop_succ_cons, List.drop_zero, if_true, if_false, Bool.and_true, true_and, Nat.zero_add, Nat.reduceAdd, Nat.reduceEqDiff, Nat.reduceLeDiff, Nat.reduceBNe, Bool.false_eq_true, opsC_cons, opsCK_at, dsL_nil, dsL_cons, dsC, allocX, paOk, inPa, nsC, nsL_nil, nsL_cons, nonPs, freeAll, St.freeB, TV.freeB, eq_self, Option.isNone_none]
    refine call_fn rfl rfl rfl (h21r) ?_
    simp -implicitDefEqProofs (maxSteps := 10000000) only [op_plain, step_call, putT_some, lk, Option.getD_some, Option.getD_none, List.set_cons_zero, List.set_cons_succ, List.map_nil, List.all_cons, List.all_nil, if_true, if_false, Bool.and_true, true_and, Nat.reduceAdd, Nat.reduceEqDiff, Nat.reduceBNe, Bool.false_eq_true, opsC_cons, opsCK_at, dsL_nil, dsL_cons, dsC, allocX, paOk, inPa, nsC, nsL_nil, nsL_cons, nonPs, freeAll, St.freeB, TV.freeB, eq_self, Option.isNone_none]
    refine call_fn rfl rfl rfl (ok18 (dotF H (applyF n n P H)) R) ?_
    simp -implicitDefEqProofs (maxSteps := 10000000) only [wp_reg, wp_seq, wp_block, seqK_normal, opsK_at, ops_nil, ops_cons, op_plain, step_move, step_load, step_fieldAddr, step_alloc, step_store, opt_some, ev_tmp, ev_const, putT_some, putT_none, st_tm, lk, upd, tov, stepA, storeA, cellsOf, ldA, ldT, fieldAddrA, tovs, newToks, St.newBox, St.mapTV, TV.killPtr, zeroT, PV.cells, PV.ok, PV.cell, Option.getD_some, Option.getD_none, Option.map_some, Option.bind_some, List.getElem?_cons_zero, List.getElem?_cons_succ, List.set_cons_zero, List.set_cons_succ, List.map_cons, List.map_nil, List.foldl_nil, List.all_cons, List.all_nil, List.length_cons, List.length_nil, List.take_succ_cons, List.take_zero, List.drop_succ_cons, List.drop_zero, List.drop_nil, List.nil_append, List.append_nil, if_true, if_false, Bool.and_true, reduceCtorEq, true_and, and_self, Nat.zero_add, Nat.reduceAdd, Nat.reduceEqDiff, Nat.reduceLeDiff, Nat.reduceLT, Nat.le_refl, Nat.reduceBNe, Bool.false_eq_true, opsC_nil, opsC_cons, opsCK_at, dsL_nil, dsL_cons, dsC, allocX, paOk, inPa, nsC, nsL_nil, nsL_cons, nonPs, freeAll, St.freeB, TV.freeB, eq_self, Option.isNone_none, one_int, one_bool]
    have hx := fun i (hi : i < n) => std_x (R := R) (Z := Z) hn' lX lP lH hi
    have hp := fun i k (hi : i < n) (hk : k < n) => std_p (R := R) hn' lP lH hs hi hk
    have hu : (uF n P H).length = n := u_len n P H
    have hQ : (upP n P H R).length = n * n := up_len _ _ _ _
    have eu : applyF n n P H = uF n P H := rfl
    have ea : addF (dotF H (uF n P H)) R = spreadF n P H R := rfl
    have ee : subF Z (dotF H X) = surpriseF X H Z := rfl
    simp only [eu, ea, ee]
    clear eu ea ee h22
    generalize upX n X P H R Z = T at *
    generalize upP n P H R = Q at *
    generalize uF n P H = u at *
    generalize spreadF n P H R = a at *
    generalize surpriseF X H Z = e at *
    obtain ⟨b1, hb1⟩ : ∃ b1, b1 = [TV.v (num n), .v (.sl e1 (x.map num)), .v (.sl e2 (root.map num)), .v (.sl e3 (f.map num)), .v (.sl e4 (g.map num)), .v (.sl e5 (h.map num)), .v (num r), .v (num z)] := ⟨_, rfl⟩
    refine wp_loop (fun m s => ∃ i : Nat, i + m = n ∧ s = ⟨[jk, .ptr 1 0, jk, .ptr 3 0, jk, .ptr 5 0, .ptr 6 0, jk, .v (.sl false (frs u)), jk, .ptr 10 0, .ptr 11 0, jk, jk, jk, jk, jk, jk, jk, jk, jk, jk, jk, jk, jk, jk, jk, jk, jk, jk, jk, jk, jk, jk, jk, jk, jk, jk, jk, jk, jk, jk, jk, jk, jk, jk, jk, jk, jk, jk, jk, jk, jk, jk, jk, jk, jk, jk, jk, jk, jk, jk, jk, jk, jk, jk, jk, jk, jk, jk, jk, jk, jk, jk, jk, jk, jk, jk, nt n, nt i, jk, jk, jk, jk, jk, jk, jk, jk, jk, jk, jk, jk, jk, jk, jk, jk, jk, jk, jk, jk, jk, jk, jk, jk, jk, jk, jk, jk, jk, jk, jk, jk, jk, jk, jk, jk, jk, jk, jk, jk, jk, jk, jk, jk, jk, jk, jk, jk, jk, jk, jk, jk, jk, jk, jk, jk, jk, jk, jk, jk, jk, jk, jk, jk, jk, jk, jk, jk, jk, jk, jk, jk, jk, jk, jk, jk, jk, jk, jk, jk, jk, jk, jk, jk, jk, jk, jk, jk, jk, jk, jk, jk, jk, jk, jk],
      [(1, [.v (num n), .v (.sl e1 (x.map num)), .v (.sl e2 (root.map num)), .v (.sl e3 (f.map num)), .v (.sl e4 (g.map num)), .v (.sl e5 (h.map num)), .v (num r), .v (num z)]),
       (3, [.v (.sl false (frs X)), .v (num n), .v (num n), .v (.sl false (frs P))]), (5, [.v (.sl false (frs T)), .v (num n), .v (num n), .v (.sl false (frs Q))]),
       (6, [nt e.n, nt e.d, .v (tru e.bad), nt a.n, nt a.d, .v (tru a.bad)]), (10, [nt e.n, nt e.d, .v (tru e.bad)]), (11, [nt a.n, nt a.d, .v (tru a.bad)])], [], [(1003, 0), (1005, 0), (4003, 0), (4005, 0)], [], 0⟩) n ?_ ?_
    · simp -implicitDefEqProofs (maxSteps := 10000000) only [opt_some, rm, ghs, gh1, junkAll, rmAll, Option.bind_some, List.set_cons_zero, List.set_cons_succ, if_false, Nat.reduceEqDiff]
      exact ⟨0, by simp, rfl⟩
    rintro m s' ⟨i, hi, rfl⟩
    simp -implicitDefEqProofs (maxSteps := 10000000) only [wp_reg0, wp_seq, wp_cond, seqK_normal, opsK_at, ops_nil, ops_cons, op_plain, step_binOp, opt_some, ev_tmp, putT_some, lk, valA, binA, num2, binV, Option.getD_none, Option.map_some, List.getElem?_cons_zero, List.getElem?_cons_succ, List.set_cons_zero, List.set_cons_succ, if_true, Nat.zero_add, Nat.reduceBEq, eq_self]
    refine gB_dec ?_ ?_ <;> intro hc <;> simp -implicitDefEqProofs (maxSteps := 10000000) only [hc, wp_skip, wp_reg0, wp_reg, wp_seq, wp_block, wp_exit, wpK_at, seqK_normal, seqK_exit, blockK_exit, loopK_exit, opsK_at, ops_nil, ops_cons, op_plain, step_move, step_assign, step_load, step_fieldAddr, step_indexAddr, step_binOp, opt_some, ev_tmp, putT_some, pv_eq, lk, tov, stepA, valA, ldA, ldT, fieldAddrA, idxAddrA, idxA, binA, num2, eqA, tovs, PV.cells, Option.getD_some, Option.getD_none, Option.map_some, Option.bind_some, List.getElem?_cons_zero, List.getElem?_cons_succ, List.set_cons_zero, List.set_cons_succ, List.map_nil, List.all_cons, List.all_nil, List.length_cons, List.length_nil, List.take_succ_cons, List.take_zero, List.take_nil, List.drop_zero, if_true, if_false, Bool.and_true, reduceCtorEq, true_and, Nat.zero_add, Nat.reduceAdd, Nat.reduceEqDiff, Nat.reduceLeDiff, Nat.le_refl, Nat.reduceBEq, Nat.reduceBNe, Bool.false_eq_true, decide_true, decide_false, wp_regd, opsC_cons, opsCK_at, dsL_nil, dsL_cons, dsC, allocX, paOk, inPa, nsC, nsL_nil, nsL_cons, nonPs, freeAll, St.freeB, TV.freeB, eq_self, Option.isNone_none]
    · have hlt : i < n := by omega
      have h0 : (0 : Int) ≤ (i : Int) := by omega
      have gets : ∀ {l : List Fr} {j : Nat}, j < l.length → (frs l)[j]? = some (frV (l.getD j dz)) := fun {l j} hj => by rw [frs, List.getElem?_map, List.getD_eq_getElem?_getD, List.getElem?_eq_getElem hj]; rfl
      have hgX := gets (l := X) (j := i) (by omega)
      have hgT := gets (l := T) (j := i) (by omega)
      have hgu := gets (l := u) (j := i) (by omega)
      have hw := wrapped (x := (i : Int) + 1) (by omega) (by omega)
      have hxi := hx i hlt
      have hpi := hp i
      generalize X.getD i dz = xi at *
      generalize T.getD i dz = ti at *
      generalize hui : u.getD i dz = ui at *
      simp -implicitDefEqProofs (maxSteps := 10000000) only [h0, Int.toNat_natCast, hgX, hgu, op_plain, step_call, step_move, step_load, step_indexAddr, opt_some, ev_tmp, putT_some, pv_eq, lk, tov, valA, ldA, ldC, ldT, idxAddrA, idxA, tovs, PV.cells, Option.getD_some, Option.getD_none, Option.map_some, Option.bind_some, List.getElem?_cons_zero, List.getElem?_cons_succ, List.set_cons_zero, List.set_cons_succ, List.map_nil, List.all_cons, List.all_nil, List.length_cons, List.length_nil, List.take_succ_cons, List.take_nil, List.drop_zero, if_true, if_false, Bool.and_true, reduceCtorEq, true_and, Nat.zero_add, Nat.reduceAdd, Nat.reduceEqDiff, Nat.le_refl, Nat.reduceBNe, Bool.false_eq_true, opsC_cons, opsCK_at, dsL_nil, dsL_cons, dsC, allocX, paOk, inPa, nsC, nsL_nil, nsL_cons, nonPs, freeAll, St.freeB, TV.freeB, eq_self, Option.isNone_none]
      refine call_fn rfl rfl rfl (ok19 ui e) ?_
      simp -implicitDefEqProofs (maxSteps := 10000000) only [op_plain, step_call, step_load, opt_some, ev_tmp, putT_some, lk, tov, ldA, ldT, tovs, Option.getD_some, Option.getD_none, Option.map_some, Option.bind_some, List.getElem?_cons_zero, List.getElem?_cons_succ, List.set_cons_zero, List.set_cons_succ, List.map_nil, List.all_cons, List.all_nil, List.length_cons, List.length_nil, List.take_succ_cons, List.take_nil, List.drop_zero, if_true, if_false, Bool.and_true, reduceCtorEq, true_and, Nat.zero_add, Nat.reduceAdd, Nat.reduceEqDiff, Nat.le_refl, Nat.reduceBNe, Bool.false_eq_true, opsC_cons, opsCK_at, dsL_nil, dsL_cons, dsC, allocX, paOk, inPa, nsC, nsL_nil, nsL_cons, nonPs, freeAll, St.freeB, TV.freeB, eq_self, Option.isNone_none]
      refine call_fn rfl rfl rfl (ok20 (mulF ui e) a) ?_
      simp -implicitDefEqProofs (maxSteps := 10000000) only [op_plain, step_call, putT_some, lk, Option.getD_some, Option.getD_none, List.set_cons_zero, List.set_cons_succ, List.map_nil, List.all_cons, List.all_nil, if_true, if_false, Bool.and_true, reduceCtorEq, true_and, Nat.reduceAdd, Nat.reduceEqDiff, Nat.reduceBNe, Bool.false_eq_true, opsC_cons, opsCK_at, dsL_nil, dsL_cons, dsC, allocX, paOk, inPa, nsC, nsL_nil, nsL_cons, nonPs, freeAll, St.freeB, TV.freeB, eq_self, Option.isNone_none]
      refine call_fn rfl rfl rfl (ok18 xi (divF (mulF ui e) a)) ?_
      simp -implicitDefEqProofs (maxSteps := 10000000) only [wp_draw, wp_seq, seqK_normal, opsK_at, ops_cons, op_plain, op_guard, slotAt_zero, slotAt_succ, step_move, step_load, step_fieldAddr, step_unOp, step_alloc, step_store, opt_some, ev_tmp, putT_some, putT_none, pv_eq, st_tm, lk, upd, tov, stepA, storeA, cellsOf, ldA, ldT, fieldAddrA, unA, bl, tovs, newToks, St.newBox, St.mapTV, TV.killPtr, zeroT, PV.cells, PV.ok, PV.cell, Option.getD_some, Option.getD_none, Option.map_some, Option.bind_some, List.getElem?_cons_zero, List.getElem?_cons_succ, List.set_cons_zero, List.set_cons_succ, List.map_cons, List.map_nil, List.foldl_nil, List.all_cons, List.all_nil, List.length_cons, List.length_nil, List.take_succ_cons, List.take_zero, List.take_nil, List.drop_succ_cons, List.drop_zero, List.drop_nil, List.nil_append, List.append_nil, if_true, if_false, Bool.and_true, reduceCtorEq, true_and, and_self, Nat.zero_add, Nat.reduceAdd, Nat.reduceEqDiff, Nat.reduceLT, Nat.le_refl, Nat.reduceBNe, Bool.false_eq_true, opsC_nil, opsC_cons, opsCK_at, dsL_nil, dsL_cons, dsC, allocX, paOk, inPa, nsC, nsL_nil, nsL_cons, nonPs, freeAll, St.freeB, TV.freeB, eq_self, Option.isNone_none, one_int, one_bool]
      generalize addF xi (divF (mulF ui e) a) = y at *
      have dec : y.bad = true ∨ (y.bad = false ∧ ti.bad = true) ∨ (y.bad = false ∧ ti.bad = false ∧ y = ti) := by
        cases hy : y.bad with
        | true => exact .inl rfl
        | false =>
          cases ht : ti.bad with
          | true => exact .inr (.inl ⟨rfl, rfl⟩)
          | false => exact .inr (.inr ⟨rfl, rfl, hxi hy ht⟩)
      clear hxi
      rcases dec with hy | ⟨hy, ht⟩ | ⟨hy, ht, rfl⟩
      simp -implicitDefEqProofs (maxSteps := 10000000) only [hy, wp_skip, wp_reg, wp_seq, wp_cond, wp_block, wpK_at, junkK_at, seqK_normal, opsK_at, ops_nil, ops_cons, op_plain, op_guard, slotAt_zero, slotAt_succ, step_move, step_pick, step_load, step_fieldAddr, opt_some, gB_false, ev_tmp, ev_const, putT_some, pv_eq, lk, tov, valA, ldA, ldT, fieldAddrA, tovs, Option.getD_some, Option.getD_none, Option.map_some, Option.bind_some, List.getElem?_cons_zero, List.getElem?_cons_succ, List.set_cons_zero, List.set_cons_succ, List.length_cons, List.length_nil, List.take_succ_cons, List.take_zero, List.drop_zero, if_true, if_false, Bool.not_true, reduceCtorEq, Nat.zero_add, Nat.reduceAdd, Nat.reduceEqDiff, Nat.reduceLeDiff, Bool.false_eq_true, eq_self]
      rotate_left
      simp -implicitDefEqProofs (maxSteps := 10000000) only [hy, h0, Int.toNat_natCast, hgT, execK_at, opsK_at, ops_cons, op_plain, op_guard, slotAt_zero, slotAt_succ, step_move, step_pick, step_load, step_fieldAddr, step_indexAddr, step_unOp, opt_some, gB_true, ev_tmp, ev_const, putT_some, pv_eq, lk, tov, valA, ldA, ldC, ldT, fieldAddrA, idxAddrA, idxA, unA, bl, tovs, PV.cells, Option.getD_some, Option.getD_none, Option.map_some, Option.bind_some, List.getElem?_cons_zero, List.getElem?_cons_succ, List.set_cons_zero, List.set_cons_succ, List.length_cons, List.length_nil, List.take_succ_cons, List.take_zero, List.take_nil, List.drop_succ_cons, List.drop_zero, if_true, if_false, Bool.not_false, reduceCtorEq, Nat.zero_add, Nat.reduceAdd, Nat.reduceEqDiff, Nat.reduceLeDiff, Nat.le_refl, Bool.false_eq_true, eq_self]
      simp -implicitDefEqProofs (maxSteps := 10000000) only [ht, wp_skip, wp_reg, wp_seq, wp_cond, wp_block, wpK_at, junkK_at, seqK_normal, opsK_at, ops_nil, ops_cons, op_plain, op_guard, slotAt_zero, slotAt_succ, step_move, step_pick, step_load, step_fieldAddr, opt_some, gB_false, ev_tmp, ev_const, putT_some, pv_eq, lk, tov, valA, ldA, ldT, fieldAddrA, tovs, Option.getD_some, Option.getD_none, Option.map_some, Option.bind_some, List.getElem?_cons_zero, List.getElem?_cons_succ, List.set_cons_zero, List.set_cons_succ, List.length_cons, List.length_nil, List.take_succ_cons, List.take_zero, List.drop_zero, if_true, if_false, Bool.not_true, reduceCtorEq, Nat.zero_add, Nat.reduceAdd, Nat.reduceEqDiff, Nat.reduceLeDiff, Bool.false_eq_true, eq_self]
      rotate_left
      simp -implicitDefEqProofs (maxSteps := 10000000) only [hy, h0, Int.toNat_natCast, hgT, execK_at, opsK_at, ops_cons, op_plain, op_guard, slotAt_zero, slotAt_succ, step_move, step_pick, step_load, step_fieldAddr, step_indexAddr, step_binOp, step_unOp, opt_some, gB_true, ev_tmp, ev_const, putT_some, pv_eq, lk, tov, valA, ldA, ldC, ldT, fieldAddrA, idxAddrA, idxA, unA, bl, binA, num2, eqA, tovs, PV.cells, Option.getD_some, Option.getD_none, Option.map_some, Option.bind_some, List.getElem?_cons_zero, List.getElem?_cons_succ, List.set_cons_zero, List.set_cons_succ, List.length_cons, List.length_nil, List.take_succ_cons, List.take_zero, List.take_nil, List.drop_succ_cons, List.drop_zero, if_true, if_false, Bool.not_false, reduceCtorEq, Nat.zero_add, Nat.reduceAdd, Nat.reduceEqDiff, Nat.reduceLeDiff, Nat.le_refl, Nat.reduceBEq, Bool.false_eq_true, eq_self]
      simp -implicitDefEqProofs (maxSteps := 10000000) only [eq_fr3, wp_skip, wp_reg, wp_seq, wp_cond, wp_block, wpK_at, seqK_normal, opsK_at, ops_nil, ops_cons, op_plain, step_move, step_pick, step_load, step_fieldAddr, opt_some, gB_false, ev_tmp, ev_const, putT_some, pv_eq, lk, tov, valA, ldA, ldT, fieldAddrA, tovs, Option.getD_some, Option.getD_none, Option.map_some, Option.bind_some, List.getElem?_cons_zero, List.getElem?_cons_succ, List.set_cons_zero, List.set_cons_succ, List.length_cons, List.length_nil, List.take_succ_cons, List.take_zero, List.drop_zero, if_true, if_false, Bool.not_true, reduceCtorEq, Nat.zero_add, Nat.reduceAdd, Nat.reduceEqDiff, Nat.reduceLeDiff, Bool.false_eq_true, eq_self]
      rotate_left
      all_goals
        refine wp_loop (fun m s => ∃ k : Nat, k + m = n ∧ s = ⟨[jk, .ptr 1 0, jk, .ptr 3 0, jk, .ptr 5 0, .ptr 6 0, jk, .v (.sl false (frs u)), jk, .ptr 10 0, .ptr 11 0, nt i, jk, jk, jk, jk, jk, jk, jk, jk, jk, jk, jk, jk, jk, jk, jk, jk, jk, jk, jk, jk, jk, jk, jk, jk, jk, jk, jk, jk, jk, jk, jk, jk, jk, jk, jk, jk, jk, jk, jk, jk, jk, jk, jk, jk, jk, jk, jk, jk, jk, jk, jk, jk, jk, jk, jk, jk, jk, jk, jk, jk, jk, jk, jk, jk, jk, nt n, nt i, jk, jk, jk, jk, jk, jk, jk, jk, jk, jk, jk, jk, jk, jk, jk, jk, jk, jk, jk, jk, jk, jk, jk, jk, jk, jk, jk, jk, jk, jk, jk, jk, jk, jk, jk, jk, jk, jk, nt n, nt k, jk, jk, jk, jk, jk, jk, jk, jk, jk, jk, jk, jk, jk, jk, jk, jk, jk, jk, jk, jk, jk, jk, jk, jk, jk, jk, jk, jk, jk, jk, jk, jk, jk, jk, jk, jk, jk, jk, jk, jk, jk, jk, jk, jk, jk, jk, jk, jk, jk, jk, jk, jk, jk, jk, jk],
      [(1, [.v (num n), .v (.sl e1 (x.map num)), .v (.sl e2 (root.map num)), .v (.sl e3 (f.map num)), .v (.sl e4 (g.map num)), .v (.sl e5 (h.map num)), .v (num r), .v (num z)]),
       (3, [.v (.sl false (frs X)), .v (num n), .v (num n), .v (.sl false (frs P))]), (5, [.v (.sl false (frs T)), .v (num n), .v (num n), .v (.sl false (frs Q))]),
       (6, [nt e.n, nt e.d, .v (tru e.bad), nt a.n, nt a.d, .v (tru a.bad)]), (10, [nt e.n, nt e.d, .v (tru e.bad)]), (11, [nt a.n, nt a.d, .v (tru a.bad)])], [], [(1003, 0), (1005, 0), (4003, 0), (4005, 0)], [], 0⟩) n ?_ ?_
        · simp -implicitDefEqProofs (maxSteps := 10000000) only [opt_some, rm, ghs, gh1, junkAll, rmAll, Option.bind_some, List.set_cons_zero, List.set_cons_succ, if_true, if_false, Nat.reduceEqDiff, eq_self]
          exact ⟨0, by simp, rfl⟩
        rintro m' s' ⟨k, hk, rfl⟩
        simp -implicitDefEqProofs (maxSteps := 10000000) only [wp_reg0, wp_seq, wp_cond, seqK_normal, opsK_at, ops_nil, ops_cons, op_plain, step_binOp, opt_some, ev_tmp, putT_some, lk, valA, binA, num2, binV, Option.getD_none, Option.map_some, List.getElem?_cons_zero, List.getElem?_cons_succ, List.set_cons_zero, List.set_cons_succ, if_true, Nat.zero_add, Nat.reduceBEq, eq_self]
        refine gB_dec ?_ ?_ <;> intro hc2 <;> simp -implicitDefEqProofs (maxSteps := 10000000) only [hc2, wp_skip, wp_reg0, wp_reg, wp_seq, wp_block, wp_exit, wpK_at, seqK_normal, seqK_exit, blockK_normal, blockK_exit, loopK_exit, opsK_at, ops_nil, ops_cons, op_plain, step_call, step_move, step_assign, step_load, step_fieldAddr, step_binOp, opt_some, ev_tmp, ev_const, putT_some, lk, tov, stepA, valA, ldA, ldT, fieldAddrA, binA, num2, binV, eqA, tovs, Option.getD_some, Option.getD_none, Option.map_some, Option.bind_some, List.getElem?_cons_zero, List.getElem?_cons_succ, List.set_cons_zero, List.set_cons_succ, List.map_nil, List.all_cons, List.all_nil, List.length_cons, List.length_nil, List.take_succ_cons, List.take_zero, List.take_nil, List.drop_succ_cons, List.drop_zero, if_true, if_false, Bool.and_true, reduceCtorEq, true_and, Nat.zero_add, Nat.reduceAdd, Nat.reduceEqDiff, Nat.reduceLeDiff, Nat.le_refl, Nat.reduceBEq, Nat.reduceBNe, Bool.false_eq_true, decide_true, decide_false, wp_regd, opsC_cons, opsCK_at, dsL_nil, dsL_cons, dsC, allocX, paOk, inPa, nsC, nsL_nil, nsL_cons, nonPs, freeAll, St.freeB, TV.freeB, eq_self, Option.isNone_none]
        · have hlk : k < n := by omega
          have k0 : (0 : Int) ≤ (k : Int) := by omega
          have hgk := gets (l := u) (j := k) (by omega)
          have hw2 := wrapped (x := (k : Int) + 1) (by omega) (by omega)
          have hpk := hpi k hlt hlk
          have h20 := ok21 false n n i k P
          have h20q := ok21 false n n i k Q
          rw [at_nat hn' lP hlt hlk] at h20
          rw [at_nat hn' hQ hlt hlk] at h20q
          generalize P.getD (i * n + k) dz = pik at *
          generalize Q.getD (i * n + k) dz = qik at *
          generalize u.getD k dz = uk at *
          refine call_fn rfl rfl rfl (h20) ?_
          simp -implicitDefEqProofs (maxSteps := 10000000) only [h0, k0, Int.toNat_natCast, hgu, hgk, op_plain, step_call, step_move, step_load, step_indexAddr, opt_some, ev_tmp, putT_some, pv_eq, lk, tov, valA, ldA, ldC, idxAddrA, idxA, PV.cells, Option.getD_some, Option.getD_none, Option.map_some, Option.bind_some, List.getElem?_cons_zero, List.getElem?_cons_succ, List.set_cons_zero, List.set_cons_succ, List.map_nil, List.all_cons, List.all_nil, List.length_cons, List.length_nil, List.take_succ_cons, List.take_nil, if_true, if_false, Bool.and_true, reduceCtorEq, true_and, Nat.zero_add, Nat.reduceAdd, Nat.reduceEqDiff, Nat.le_refl, Nat.reduceBNe, Bool.false_eq_true, opsC_cons, opsCK_at, dsL_nil, dsL_cons, dsC, allocX, paOk, inPa, nsC, nsL_nil, nsL_cons, nonPs, freeAll, St.freeB, TV.freeB, eq_self, Option.isNone_none]
          refine call_fn rfl rfl rfl (ok19 ui uk) ?_
          simp -implicitDefEqProofs (maxSteps := 10000000) only [op_plain, step_call, step_load, opt_some, ev_tmp, putT_some, lk, tov, ldA, ldT, tovs, Option.getD_some, Option.getD_none, Option.map_some, Option.bind_some, List.getElem?_cons_zero, List.getElem?_cons_succ, List.set_cons_zero, List.set_cons_succ, List.map_nil, List.all_cons, List.all_nil, List.length_cons, List.length_nil, List.take_succ_cons, List.take_nil, List.drop_zero, if_true, if_false, Bool.and_true, reduceCtorEq, true_and, Nat.zero_add, Nat.reduceAdd, Nat.reduceEqDiff, Nat.le_refl, Nat.reduceBNe, Bool.false_eq_true, opsC_cons, opsCK_at, dsL_nil, dsL_cons, dsC, allocX, paOk, inPa, nsC, nsL_nil, nsL_cons, nonPs, freeAll, St.freeB, TV.freeB, eq_self, Option.isNone_none]
          refine call_fn rfl rfl rfl (ok20 (mulF ui uk) a) ?_
          simp -implicitDefEqProofs (maxSteps := 10000000) only [op_plain, step_call, putT_some, lk, Option.getD_some, Option.getD_none, List.set_cons_zero, List.set_cons_succ, List.map_nil, List.all_cons, List.all_nil, if_true, if_false, Bool.and_true, reduceCtorEq, true_and, Nat.reduceAdd, Nat.reduceEqDiff, Nat.reduceBNe, Bool.false_eq_true, opsC_cons, opsCK_at, dsL_nil, dsL_cons, dsC, allocX, paOk, inPa, nsC, nsL_nil, nsL_cons, nonPs, freeAll, St.freeB, TV.freeB, eq_self, Option.isNone_none]
          refine call_fn rfl rfl rfl (ok16 pik (divF (mulF ui uk) a)) ?_
          simp -implicitDefEqProofs (maxSteps := 10000000) only [wp_draw, wp_seq, seqK_normal, opsK_at, ops_cons, op_plain, op_guard, slotAt_zero, slotAt_succ, step_move, step_load, step_fieldAddr, step_unOp, step_alloc, step_store, opt_some, ev_tmp, putT_some, putT_none, pv_eq, st_tm, lk, upd, tov, stepA, storeA, cellsOf, ldA, ldT, fieldAddrA, unA, bl, tovs, newToks, St.newBox, St.mapTV, TV.killPtr, zeroT, PV.cells, PV.ok, PV.cell, Option.getD_some, Option.getD_none, Option.map_some, Option.bind_some, List.getElem?_cons_zero, List.getElem?_cons_succ, List.set_cons_zero, List.set_cons_succ, List.map_cons, List.map_nil, List.foldl_nil, List.all_cons, List.all_nil, List.length_cons, List.length_nil, List.take_succ_cons, List.take_zero, List.take_nil, List.drop_succ_cons, List.drop_zero, List.drop_nil, List.nil_append, List.append_nil, if_true, if_false, Bool.and_true, reduceCtorEq, true_and, and_self, Nat.zero_add, Nat.reduceAdd, Nat.reduceEqDiff, Nat.reduceLT, Nat.le_refl, Nat.reduceBNe, Bool.false_eq_true, opsC_nil, opsC_cons, opsCK_at, dsL_nil, dsL_cons, dsC, allocX, paOk, inPa, nsC, nsL_nil, nsL_cons, nonPs, freeAll, St.freeB, TV.freeB, eq_self, Option.isNone_none, one_int, one_bool]
          generalize subF pik (divF (mulF ui uk) a) = v at *
          have dec : v.bad = true ∨ (v.bad = false ∧ qik.bad = true) ∨ (v.bad = false ∧ qik.bad = false ∧ v = qik) := by
            cases hy : v.bad with
            | true => exact .inl rfl
            | false =>
              cases ht : qik.bad with
              | true => exact .inr (.inl ⟨rfl, rfl⟩)
              | false => exact .inr (.inr ⟨rfl, rfl, hpk hy ht⟩)
          clear hpk
          rcases dec with hy | ⟨hy, ht⟩ | ⟨hy, ht, rfl⟩
          · simp -implicitDefEqProofs (maxSteps := 10000000) only [hy, wp_skip, wp_reg0, wp_cond, wpK_at, junkK_at, seqK_normal, blockK_normal, opsK_at, ops_nil, ops_cons, op_plain, op_guard, slotAt_zero, slotAt_succ, step_move, step_pick, step_binOp, opt_some, gB_false, ev_tmp, ev_const, putT_some, pv_eq, lk, tov, valA, binA, num2, binV, Option.getD_some, Option.getD_none, Option.map_some, Option.bind_some, List.getElem?_cons_zero, List.getElem?_cons_succ, List.set_cons_zero, List.set_cons_succ, if_true, if_false, Bool.not_true, reduceCtorEq, Nat.zero_add, Nat.reduceAdd, Nat.reduceEqDiff, Nat.reduceBEq, Bool.false_eq_true, eq_self]
            simp -implicitDefEqProofs (maxSteps := 10000000) only [hw2]
            refine loopK_of (m' := m' - 1) (by omega) ?_
            simp -implicitDefEqProofs (maxSteps := 10000000) only [opt_some, rm, ghs, gh1, junkAll, rmAll, Option.bind_some, List.set_cons_zero, List.set_cons_succ, if_true, if_false, Nat.reduceEqDiff, eq_self]
            exact ⟨k + 1, by omega, by simp only [Int.natCast_add, Int.natCast_one]⟩
          · simp -implicitDefEqProofs (maxSteps := 10000000) only [hy, execK_at, opsK_at, ops_cons, op_guard, slotAt_zero, slotAt_succ, step_call, step_move, step_load, step_fieldAddr, opt_some, gB_true, ev_tmp, putT_some, lk, tov, ldA, ldT, fieldAddrA, tovs, Option.getD_some, Option.getD_none, Option.map_some, Option.bind_some, List.getElem?_cons_zero, List.getElem?_cons_succ, List.set_cons_zero, List.set_cons_succ, List.length_cons, List.length_nil, List.take_succ_cons, List.take_nil, List.drop_succ_cons, List.drop_zero, if_true, if_false, Bool.not_false, reduceCtorEq, Nat.zero_add, Nat.reduceAdd, Nat.reduceEqDiff, Nat.le_refl, eq_self]
            refine call_fn rfl rfl rfl (h20q) ?_
            simp -implicitDefEqProofs (maxSteps := 10000000) only [ht, wp_skip, wp_reg0, wp_cond, wpK_at, execK_at, junkK_at, seqK_normal, blockK_normal, opsK_at, ops_nil, ops_cons, op_plain, op_guard, slotAt_zero, slotAt_succ, step_move, step_pick, step_field, step_binOp, step_unOp, opt_some, gB_true, gB_false, ev_tmp, ev_const, putT_some, pv_eq, lk, tov, valA, fieldA, unA, bl, binA, num2, binV, Option.getD_some, Option.getD_none, Option.map_some, Option.bind_some, List.getElem?_cons_zero, List.getElem?_cons_succ, List.set_cons_zero, List.set_cons_succ, List.length_cons, List.length_nil, List.take_succ_cons, List.take_nil, List.drop_succ_cons, List.drop_zero, if_true, if_false, Bool.not_true, reduceCtorEq, Nat.zero_add, Nat.reduceAdd, Nat.reduceEqDiff, Nat.le_refl, Nat.reduceBEq, Bool.false_eq_true, eq_self]
            simp -implicitDefEqProofs (maxSteps := 10000000) only [hw2]
            refine loopK_of (m' := m' - 1) (by omega) ?_
            simp -implicitDefEqProofs (maxSteps := 10000000) only [opt_some, rm, ghs, gh1, junkAll, rmAll, Option.bind_some, List.set_cons_zero, List.set_cons_succ, if_true, if_false, Nat.reduceEqDiff, eq_self]
            exact ⟨k + 1, by omega, by simp only [Int.natCast_add, Int.natCast_one]⟩
          · simp -implicitDefEqProofs (maxSteps := 10000000) only [hy, execK_at, opsK_at, ops_cons, op_guard, slotAt_zero, slotAt_succ, step_call, step_move, step_load, step_fieldAddr, opt_some, gB_true, ev_tmp, putT_some, lk, tov, ldA, ldT, fieldAddrA, tovs, Option.getD_some, Option.getD_none, Option.map_some, Option.bind_some, List.getElem?_cons_zero, List.getElem?_cons_succ, List.set_cons_zero, List.set_cons_succ, List.length_cons, List.length_nil, List.take_succ_cons, List.take_nil, List.drop_succ_cons, List.drop_zero, if_true, if_false, Bool.not_false, reduceCtorEq, Nat.zero_add, Nat.reduceAdd, Nat.reduceEqDiff, Nat.le_refl, eq_self]
            refine call_fn rfl rfl rfl (h20q) ?_
            simp -implicitDefEqProofs (maxSteps := 10000000) only [hy, execK_at, opsK_at, ops_cons, op_plain, op_guard, slotAt_zero, slotAt_succ, step_call, step_move, step_pick, step_load, step_fieldAddr, step_field, step_unOp, opt_some, gB_true, ev_tmp, ev_const, putT_some, pv_eq, lk, tov, valA, ldA, ldT, fieldAddrA, fieldA, unA, bl, tovs, Option.getD_some, Option.getD_none, Option.map_some, Option.bind_some, List.getElem?_cons_zero, List.getElem?_cons_succ, List.set_cons_zero, List.set_cons_succ, List.length_cons, List.length_nil, List.take_succ_cons, List.take_nil, List.drop_succ_cons, List.drop_zero, if_true, if_false, Bool.not_false, reduceCtorEq, Nat.zero_add, Nat.reduceAdd, Nat.reduceEqDiff, Nat.le_refl, Bool.false_eq_true, eq_self]
            refine call_fn rfl rfl rfl (h20q) ?_
            simp -implicitDefEqProofs (maxSteps := 10000000) only [hy, eq_fr3, wp_skip, wp_reg0, wp_cond, wpK_at, execK_at, seqK_normal, blockK_normal, opsK_at, ops_nil, ops_cons, op_plain, op_guard, slotAt_zero, slotAt_succ, step_move, step_pick, step_binOp, opt_some, gB_true, gB_false, ev_tmp, ev_const, putT_some, pv_eq, lk, tov, valA, bl, binA, num2, binV, eqA, Option.getD_some, Option.getD_none, Option.map_some, Option.bind_some, List.getElem?_cons_zero, List.getElem?_cons_succ, List.set_cons_zero, List.set_cons_succ, if_true, if_false, Bool.not_true, reduceCtorEq, Nat.zero_add, Nat.reduceAdd, Nat.reduceEqDiff, Nat.reduceBEq, eq_self]
            simp -implicitDefEqProofs (maxSteps := 10000000) only [hw2]
            refine loopK_of (m' := m' - 1) (by omega) ?_
            simp -implicitDefEqProofs (maxSteps := 10000000) only [opt_some, rm, ghs, gh1, junkAll, rmAll, Option.bind_some, List.set_cons_zero, List.set_cons_succ, if_true, if_false, Nat.reduceEqDiff, eq_self]
            exact ⟨k + 1, by omega, by simp only [Int.natCast_add, Int.natCast_one]⟩
        · simp -implicitDefEqProofs (maxSteps := 10000000) only [hw]
          refine loopK_of (m' := m - 1) (by omega) ?_
          simp -implicitDefEqProofs (maxSteps := 10000000) only [opt_some, rm, ghs, gh1, junkAll, rmAll, Option.bind_some, List.set_cons_zero, List.set_cons_succ, if_false, Nat.reduceEqDiff]
          exact ⟨i + 1, by omega, by simp only [Int.natCast_add, Int.natCast_one]⟩
    · simp -implicitDefEqProofs (maxSteps := 10000000) only [eq_fr3, execK_at, opsK_at, ops_cons, op_plain, op_guard, slotAt_zero, slotAt_succ, step_call, step_move, step_pick, step_load, step_fieldAddr, step_binOp, opt_some, gB_true, ev_tmp, ev_const, putT_some, pv_eq, lk, tov, valA, ldA, ldT, fieldAddrA, bl, binA, num2, eqA, tovs, Option.getD_some, Option.getD_none, Option.map_some, Option.bind_some, List.getElem?_cons_zero, List.getElem?_cons_succ, List.set_cons_zero, List.set_cons_succ, List.length_cons, List.length_nil, List.take_succ_cons, List.take_nil, List.drop_succ_cons, List.drop_zero, if_true, if_false, reduceCtorEq, Nat.zero_add, Nat.reduceAdd, Nat.reduceEqDiff, Nat.le_refl, Nat.reduceBEq, eq_self]
      refine call_fn rfl rfl rfl (ok10) ?_
      simp -implicitDefEqProofs (maxSteps := 10000000) only [wp_ret, seqK_normal, opsK_at, ops_nil, ops_cons, op_plain, step_assign, step_pick, opt_some, ev_tmp, ev_const, putT_some, pv_eq, lk, tov, stepA, valA, Option.getD_none, Option.map_some, Option.bind_some, List.getElem?_cons_zero, List.getElem?_cons_succ, List.set_cons_zero, List.set_cons_succ, if_true, if_false, reduceCtorEq, Nat.reduceAdd, Nat.reduceEqDiff, eq_self, RetQ_ret, resAll, res1, packR]
theorem JosephStandard_ok {xs : List PV} (h : FitL caseSh xs) : Ok Try.prog 3 [.agg xs] (tru true) := by
  obtain ⟨N, x, root, f, g, h, r, z, e⟩ := case_fit h
  rw [e]
  exact ok3 _ _ _ _ _ _ _ _ _ _ _ _ _
end Go.Proofs.Ytadfcbpakfaaaaa.A
