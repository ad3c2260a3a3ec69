import Derived.Test.YtbflmeomkfjikaaGreatM6
set_option linter.unusedVariables false
set_option linter.unusedSimpArgs false
set_option maxRecDepth 100000
namespace Go.Proofs.YtbflmeomkfjikaaGreat.A.E
open Go Go.RowKit Go.Shelf

/-! ### The function RootStill -/
set_option maxHeartbeats 2000000 in
theorem ok11 (e1 e2 e3 e4 e5 : Bool) (N : Int) (x root f g h : List Int) (r z : Int) : Ok Tryz.prog 11 [caseV e1 e2 e3 e4 e5 N x root f g h r z] (tru true) := by
  have h914 := ok52 e1 e2 e3 e4 e5 N x root f g h r z
  refine ok_fn mixed Tryz.func11 (code := ?_) (h := h11) ?_ k11 ?_
  rotate_left
  · exact rfl
  unfold h11 initS
  simp -implicitDefEqProofs (maxSteps := 10000000) only [rkA, rkB, stepA, valA, simprocAttr, Tryz.ntmps11, Tryz.results11]
  refine call_fn rfl rfl rfl (h914) ?_
  cases hf : few9 N x root f g h r z with
  | false =>
    simp -implicitDefEqProofs (maxSteps := 10000000) only [rkA, rkB, stepA, valA, simprocAttr]
    refine call_fn rfl rfl rfl (ok48) ?_
    simp -implicitDefEqProofs (maxSteps := 10000000) only [rkA, rkB, stepA, valA, simprocAttr]
  | true =>
    obtain ⟨⟨n1, n2, lx, lh, r1, r2, z1, z2⟩, ⟨bx, bh, br, bf, bg⟩, lr, lf, lg⟩ := few9_spec hf
    obtain ⟨n, rfl⟩ := Int.eq_ofNat_of_zero_le (show 0 ≤ N by omega)
    have hn : 1 ≤ n ∧ n ≤ 4 := by omega
    have hn' : 1 ≤ n ∧ n ≤ 16 := by omega
    have cN : (n : Int) * (n : Int) = ((n * n : Nat) : Int) := by simp
    have s := side16 (n := n) (m := n) (by omega) (by omega)
    have lx' : x.length = n := by omega
    have lr' : root.length = n * n := by omega
    have g1 : ¬ (n : Int) < 1 := by omega
    have g2 : ¬ (n : Int) > 3 := by omega
    have n0 : (0 : Int) ≤ (n : Int) := by omega
    have n8 : (n : Int) * 8 ≤ 140737488355328 := by omega
    have n6 : (n : Int) ≤ 16777216 := by omega
    obtain ⟨k1, k2, k3⟩ := stillS (n := n) (root := root) (r := r) hn lr' br ⟨r1, r2⟩
    obtain ⟨k4, k5⟩ := stillX (n := n) (root := root) (r := r) (x := x) (z := z) hn lr' br ⟨r1, r2⟩ lx' bx ⟨z1, z2⟩
    simp -implicitDefEqProofs (maxSteps := 10000000) only [g1, g2, rkA, rkB, stepA, valA, simprocAttr]
    have hA := ok22 n n e2 root (by omega)
    rw [if_pos (right_nat hn' hn' lr')] at hA
    refine call_fn rfl rfl rfl (hA) ?_
    simp -implicitDefEqProofs (maxSteps := 10000000) only [rkA, rkB, stepA, valA, simprocAttr]
    refine call_fn rfl rfl rfl (ok53 0) ?_
    simp -implicitDefEqProofs (maxSteps := 10000000) only [rkA, rkB, stepA, valA, simprocAttr]
    refine call_fn rfl rfl rfl (ok43 e1 x (by omega)) ?_
    simp -implicitDefEqProofs (maxSteps := 10000000) only [rkA, rkB, stepA, valA, simprocAttr]
    have h7 := ok54 false false (x.map (newF · 1)) (root.map (newF · 1)) n hn' (by rw [List.length_map, lr']) (by rw [List.length_map]; omega)
    rw [if_pos (by rw [List.length_map]; omega)] at h7
    refine call_fn rfl rfl rfl (h7) ?_
    simp -implicitDefEqProofs (maxSteps := 10000000) only [Int.toNat_natCast, n0, n8, n6, rkA, rkB, stepA, valA, simprocAttr]
    have h35 := ok43 true (List.replicate n 0) (by simp; omega)
    rw [List.map_replicate, List.map_replicate] at h35
    refine call_fn rfl rfl rfl (h35) ?_
    simp -implicitDefEqProofs (maxSteps := 10000000) only [rkA, rkB, stepA, valA, simprocAttr]
    refine call_fn rfl rfl rfl (ok56 (point 0) r) ?_
    simp -implicitDefEqProofs (maxSteps := 10000000) only [rkA, rkB, stepA, valA, simprocAttr]
    refine call_fn rfl rfl rfl (ok56 (point 0) z) ?_
    simp -implicitDefEqProofs (maxSteps := 10000000) only [rkA, rkB, stepA, valA, simprocAttr]
    have h10 := ok55 false false false n (x.map (newF · 1)) (clearF n (root.map (newF · 1))) (List.replicate n (newF 0 1)) (newF r 1) (newF z 1) hn (by rw [List.length_map, lx']) (clearF_len _ _) (by simp)
    rw [k1, k4, k5] at h10
    refine call_fn rfl rfl rfl (h10) ?_
    have lX : (frs (x.map (newF · 1))).length = n := by simp [lx']
    have lS : (frs (clearF n (root.map (newF · 1)))).length = n * n := by rw [List.length_map, clearF_len]
    have lS' := clearF_len n (root.map (newF · 1))
    have lX' : (x.map (newF · 1)).length = n := by simp [lx']
    have ek3 : (upR n (clearF n (root.map (newF · 1))) (List.replicate n (newF 0 1)) (newF r 1)).2.2 = newF r 1 := k3.trans (newF_whole (few5 (by omega))).symm
    rw [ek3]
    clear k1 k2 k3 k4 k5 ek3 h10 h7
    generalize clearF n (root.map (newF · 1)) = S at *
    generalize x.map (newF · 1) = X at *
    generalize hzz : newF z 1 = Z
    generalize hrr : newF r 1 = R
    simp -implicitDefEqProofs (maxSteps := 10000000) only [lX, lS, bne_self_eq_false, rkA, rkB, stepA, valA, simprocAttr]
    refine wp_loop (fun m s => ∃ (i : Nat), i + m = n * n ∧
      s = ⟨[jk, .ptr 1 0, jk, jk, jk, .ptr 5 0, .ptr 6 0, jk, .ptr 8 0, .ptr 9 0, jk, jk, jk, jk, jk, jk, jk, jk, jk, jk, jk, jk, jk, jk, jk, jk, jk, jk, jk, jk, jk, jk, jk, jk, jk, jk, jk, jk, jk, jk, jk, jk, jk, jk, jk, jk, jk, jk, jk, jk, jk, jk, jk, jk, jk, jk, jk, jk, jk, jk, jk, jk, jk, jk, jk, jk, jk, jk, jk, jk, jk, jk, jk, jk, jk, jk, jk, jk, jk, jk, jk, jk, jk, jk, jk, jk, jk, jk, jk, jk, jk, jk, nt (n * n : Nat), nt i, jk, jk, jk, jk, jk, jk, jk, jk, jk, jk, jk, jk, jk, jk, jk, jk, jk, jk, jk, jk, jk, jk, jk, jk, jk, jk, jk, jk, jk, jk, jk, jk, jk, jk, jk, jk, jk, jk, jk, jk, jk, jk, jk, jk, jk, jk, jk, jk, jk, jk, jk, jk, jk], [(1, [nt n, .v (.sl e1 (x.map num)), .v (.sl e2 (root.map num)), .v (.sl e3 (f.map num)), .v (.sl e4 (g.map num)), .v (.sl e5 (h.map num)), nt r, nt z]), (3, [nt n, nt n, .v (.sl false (frs (root.map (newF · 1))))]), (5, [nt (point 0).v, nt (point 0).lo, nt (point 0).hi, .v (tru (point 0).bad)]), (6, [.v (.sl false (frs X)), nt n, nt n, .v (.sl false (frs S))]), (8, [.v (.sl false (frs X)), nt n, nt n, .v (.sl false (frs S))]), (9, [nt Z.v, nt Z.lo, nt Z.hi, .v (tru Z.bad), nt R.v, nt R.lo, nt R.hi, .v (tru R.bad)])], [], [(1006, 0), (1008, 0), (3003, 0), (4006, 0), (4008, 0)], [], 0, nomem⟩) (n * n) ?_ ?_
    · simp -implicitDefEqProofs (maxSteps := 10000000) only [rkA, rkB, stepA, valA, simprocAttr]
      exact ⟨0, by omega, rfl⟩
    rintro m s ⟨i, him, rfl⟩
    simp -implicitDefEqProofs (maxSteps := 10000000) only [rkA, rkB, stepA, valA, simprocAttr]
    refine gB_dec ?_ ?_ <;> intro hc <;> simp -implicitDefEqProofs (maxSteps := 10000000) only [hc, rkA, rkB, stepA, valA, simprocAttr]
    · have hi : i < S.length := by omega
      have h0i : (0 : Int) ≤ (i : Int) := by omega
      have hg : (frs S)[i]? = some (frV S[i]) := by simp [hi]
      have hw := wrapped (x := (i : Int) + 1) (by omega) (by omega)
      simp -implicitDefEqProofs (maxSteps := 10000000) only [h0i, Int.toNat_natCast, hg, eq_frE, decide_true, hw, rkA, rkB, stepA, valA, simprocAttr]
      refine loopK_of (m' := m - 1) (by omega) ?_
      simp -implicitDefEqProofs (maxSteps := 10000000) only [rkA, rkB, stepA, valA, simprocAttr]
      exact ⟨i + 1, by omega, by simp only [Int.natCast_add, Int.natCast_one]⟩
    simp -implicitDefEqProofs (maxSteps := 10000000) only [lX, rkA, rkB, stepA, valA, simprocAttr]
    refine wp_loop (fun m s => ∃ (i : Nat), i + m = n ∧
      s = ⟨[jk, .ptr 1 0, jk, jk, jk, .ptr 5 0, .ptr 6 0, jk, .ptr 8 0, .ptr 9 0, jk, jk, jk, jk, jk, jk, jk, jk, jk, jk, jk, jk, jk, jk, jk, jk, jk, jk, jk, jk, jk, jk, jk, jk, jk, jk, jk, jk, jk, jk, jk, jk, jk, jk, jk, jk, jk, jk, jk, jk, jk, jk, jk, jk, jk, jk, jk, jk, jk, jk, jk, jk, jk, jk, jk, jk, jk, jk, jk, jk, jk, jk, jk, jk, jk, jk, jk, jk, jk, jk, jk, jk, jk, jk, jk, jk, jk, jk, jk, jk, jk, jk, jk, jk, jk, jk, jk, jk, jk, jk, jk, jk, jk, jk, jk, jk, jk, jk, jk, jk, jk, jk, nt n, nt i, jk, jk, jk, jk, jk, jk, jk, jk, jk, jk, jk, jk, jk, jk, jk, jk, jk, jk, jk, jk, jk, jk, jk, jk, jk, jk, jk, jk, jk, jk, jk, jk, jk], [(1, [nt n, .v (.sl e1 (x.map num)), .v (.sl e2 (root.map num)), .v (.sl e3 (f.map num)), .v (.sl e4 (g.map num)), .v (.sl e5 (h.map num)), nt r, nt z]), (3, [nt n, nt n, .v (.sl false (frs (root.map (newF · 1))))]), (5, [nt (point 0).v, nt (point 0).lo, nt (point 0).hi, .v (tru (point 0).bad)]), (6, [.v (.sl false (frs X)), nt n, nt n, .v (.sl false (frs S))]), (8, [.v (.sl false (frs X)), nt n, nt n, .v (.sl false (frs S))]), (9, [nt Z.v, nt Z.lo, nt Z.hi, .v (tru Z.bad), nt R.v, nt R.lo, nt R.hi, .v (tru R.bad)])], [], [(1006, 0), (1008, 0), (3003, 0), (4006, 0), (4008, 0)], [], 0, nomem⟩) n ?_ ?_
    · simp -implicitDefEqProofs (maxSteps := 10000000) only [rkA, rkB, stepA, valA, simprocAttr]
      exact ⟨0, by omega, rfl⟩
    rintro m s ⟨i, him, rfl⟩
    simp -implicitDefEqProofs (maxSteps := 10000000) only [rkA, rkB, stepA, valA, simprocAttr]
    refine gB_dec ?_ ?_ <;> intro hc <;> simp -implicitDefEqProofs (maxSteps := 10000000) only [hc, rkA, rkB, stepA, valA, simprocAttr]
    · have hi : i < X.length := by omega
      have h0i : (0 : Int) ≤ (i : Int) := by omega
      have hg : (frs X)[i]? = some (frV X[i]) := by simp [hi]
      have hw := wrapped (x := (i : Int) + 1) (by omega) (by omega)
      simp -implicitDefEqProofs (maxSteps := 10000000) only [h0i, Int.toNat_natCast, hg, eq_frE, decide_true, hw, rkA, rkB, stepA, valA, simprocAttr]
      refine loopK_of (m' := m - 1) (by omega) ?_
      simp -implicitDefEqProofs (maxSteps := 10000000) only [rkA, rkB, stepA, valA, simprocAttr]
      exact ⟨i + 1, by omega, by simp only [Int.natCast_add, Int.natCast_one]⟩
    refine call_fn rfl rfl rfl (ok56 (point 0) r) ?_
    simp -implicitDefEqProofs (maxSteps := 10000000) only [hrr, eq_frE, decide_true, rkA, rkB, stepA, valA, simprocAttr]
    refine call_fn rfl rfl rfl (ok56 (point 0) z) ?_
    simp -implicitDefEqProofs (maxSteps := 10000000) only [hzz, eq_frE, decide_true, rkA, rkB, stepA, valA, simprocAttr]
    refine call_fn rfl rfl rfl (ok48) ?_
    simp -implicitDefEqProofs (maxSteps := 10000000) only [rkA, rkB, stepA, valA, simprocAttr]
theorem RootStill_ok {xs : List PV} (h : FitL caseSh xs) : Ok Tryz.prog 11 [.agg xs] (tru true) := by
  obtain ⟨N, x, root, f, g, h, r, z, e⟩ := case_fit h
  rw [e]
  exact ok11 _ _ _ _ _ _ _ _ _ _ _ _ _
end Go.Proofs.YtbflmeomkfjikaaGreat.A.E


