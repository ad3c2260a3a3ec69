import Derived.Test.YtbflmeomkfjikaaGreatM6
set_option linter.unusedVariables false
set_option linter.unusedSimpArgs false
set_option maxRecDepth 100000
namespace Go.Proofs.YtbflmeomkfjikaaGreat.A.E
open Go Go.RowKit Go.Shelf

/-! ### Behind an update: what stands above the diagonal -/
theorem upRS_grid (n : Nat) (l h : List Fr) (r : Fr) : upRS n l h r = gridP (upR n l h r).1 n n 0 := by
  rw [gridP_zero, upRS, List.flatMap_def]
  rfl
theorem upK_up {n : Nat} (M : Nat → Nat → Fr) (W : Nat → Fr) (r : Fr) {i k : Nat} (hik : i < k) : ∀ t, (upK n M W r t).1 i k = M i k
  | 0 => rfl
  | t + 1 => by
    rw [upK_succ M W r rfl]
    show colM _ _ _ _ _ _ i k = _
    unfold colM
    rw [if_neg (by omega)]
    exact upK_up M W r hik t
theorem grid_sqE {g : Nat → Nat → Fr} {n : Nat} (hn : 1 ≤ n ∧ n ≤ 16) : right (n : Int) (n : Int) (gridP g n n 0).length = true := right_sq hn (by rw [gridP_length, Nat.add_zero])
theorem atF_gridE {g : Nat → Nat → Fr} {n i k : Nat} (hn : 1 ≤ n ∧ n ≤ 16) (hi : i < n) (hk : k < n) : atF n n (gridP g n n 0) i k = g i k := by
  have h1 := atF_eq (grid_sqE (g := g) hn) (i := i) (k := k) (by simpa using hi) (by simpa using hk)
  rw [h1, Int.toNat_natCast]
  exact grid_at (g := g) hi hk
theorem clear_up {n : Nat} (hn : 1 ≤ n ∧ n ≤ 16) (l : List Fr) {i k : Nat} (hi : i < n) (hk : k < n) (hik : i < k) : atF n n (clearF n l) i k = newF 0 1 := by
  rw [clearF, atF_gridE hn hi hk, clearG, if_pos hik]
theorem upRS_up {n : Nat} (hn : 1 ≤ n ∧ n ≤ 16) {l : List Fr} (h : List Fr) (r : Fr) {i k : Nat} (hi : i < n) (hk : k < n) (hik : i < k) : atF n n (upRS n l h r) i k = atF n n l i k := by
  rw [upRS_grid, atF_gridE hn hi hk, upR, upK_up _ _ _ hik, startF]

/-! ### Both steps of a problem -/
section
variable (n : Nat) (x root f g h : List Int) (r z : Int)
def laX : List Fr := applyF n n (f.map (newF · 1)) (x.map (newF · 1))
def laS : List Fr := preS n (clearF n (root.map (newF · 1))) (f.map (newF · 1)) (g.map (newF · 1))
def lbX : List Fr := upRX n (laX n x f) (laS n root f g) (h.map (newF · 1)) (newF r 1) (newF z 1)
def lbS : List Fr := upRS n (laS n root f g) (h.map (newF · 1)) (newF r 1)
def lbE : Fr := subF (newF z 1) (dotF (h.map (newF · 1)) (laX n x f))
def lbA : Fr := (upR n (laS n root f g) (h.map (newF · 1)) (newF r 1)).2.2
end
set_option maxHeartbeats 2000000 in
theorem ok61 (e1 e2 e3 e4 e5 : Bool) (n : Nat) (x root f g h : List Int) (r z : Int) (hn : 1 ≤ n ∧ n ≤ 4) (lx : x.length = n) (lr : root.length = n * n) (lf : f.length = n * n) (lg : g.length = n * n) (lh : h.length = n) :
    Ok Tryz.prog 61 [caseV e1 e2 e3 e4 e5 n x root f g h r z] (.tup [stV false false (frs (lbX n x root f g h r z)) n n (frs (lbS n root f g h r)), newsV' (lbE n x f h z) (lbA n root f g h r), tru true]) := by
  have hn' : 1 ≤ n ∧ n ≤ 16 := by omega
  have s := side16 (n := n) (m := n) (by omega) (by omega)
  refine ok_fn mixed Tryz.func61 (code := ?_) (h := h61) ?_ k61 ?_
  rotate_left
  · exact rfl
  unfold h61 initS
  simp -implicitDefEqProofs (maxSteps := 10000000) only [rkA, rkB, stepA, valA, simprocAttr, Tryz.ntmps61, Tryz.results61]
  refine call_fn rfl rfl rfl (ok53 0) ?_
  simp -implicitDefEqProofs (maxSteps := 10000000) only [rkA, rkB, stepA, valA, simprocAttr]
  have hA := ok22 n n e2 root (by omega)
  rw [if_pos (right_nat hn' hn' lr)] at hA
  refine call_fn rfl rfl rfl (hA) ?_
  simp -implicitDefEqProofs (maxSteps := 10000000) only [rkA, rkB, stepA, valA, simprocAttr]
  have hB := ok22 n n e3 f (by omega)
  rw [if_pos (right_nat hn' hn' lf)] at hB
  refine call_fn rfl rfl rfl (hB) ?_
  simp -implicitDefEqProofs (maxSteps := 10000000) only [rkA, rkB, stepA, valA, simprocAttr]
  have hC := ok22 n n e4 g (by omega)
  rw [if_pos (right_nat hn' hn' lg)] at hC
  refine call_fn rfl rfl rfl (hC) ?_
  simp -implicitDefEqProofs (maxSteps := 10000000) only [rkA, rkB, stepA, valA, simprocAttr]
  refine call_fn rfl rfl rfl (ok43 e1 x (by omega)) ?_
  simp -implicitDefEqProofs (maxSteps := 10000000) only [rkA, rkB, stepA, valA, simprocAttr]
  have h7 := ok54 false false (x.map (newF · 1)) (root.map (newF · 1)) n hn' (by rw [List.length_map, lr]) (by rw [List.length_map]; omega)
  rw [if_pos (by rw [List.length_map]; omega)] at h7
  refine call_fn rfl rfl rfl (h7) ?_
  simp -implicitDefEqProofs (maxSteps := 10000000) only [rkA, rkB, stepA, valA, simprocAttr]
  have h9 := ok128 false false false false (x.map (newF · 1)) (clearF n (root.map (newF · 1))) (f.map (newF · 1)) (g.map (newF · 1)) n hn (by rw [List.length_map, lx]) (clearF_len _ _) (by rw [List.length_map, lf]) (by rw [List.length_map, lg])
  refine call_fn rfl rfl rfl (h9) ?_
  simp -implicitDefEqProofs (maxSteps := 10000000) only [rkA, rkB, stepA, valA, simprocAttr]
  refine call_fn rfl rfl rfl (ok43 e5 h (by omega)) ?_
  simp -implicitDefEqProofs (maxSteps := 10000000) only [rkA, rkB, stepA, valA, simprocAttr]
  refine call_fn rfl rfl rfl (ok56 (point 0) r) ?_
  simp -implicitDefEqProofs (maxSteps := 10000000) only [rkA, rkB, stepA, valA, simprocAttr]
  refine call_fn rfl rfl rfl (ok56 (point 0) z) ?_
  simp -implicitDefEqProofs (maxSteps := 10000000) only [rkA, rkB, stepA, valA, simprocAttr]
  have h10 := ok55 false false false n (laX n x f) (laS n root f g) (h.map (newF · 1)) (newF r 1) (newF z 1) hn (applyF_len _ _ _) (preS_len _ _ _ _) (by rw [List.length_map, lh])
  rw [← laX, ← laS]
  refine call_fn rfl rfl rfl (h10) ?_
  simp -implicitDefEqProofs (maxSteps := 10000000) only [rkA, rkB, stepA, valA, simprocAttr]
  rw [lbX, lbS, lbE, lbA]
end Go.Proofs.YtbflmeomkfjikaaGreat.A.E



set_option linter.unusedVariables false
set_option linter.unusedSimpArgs false
set_option maxRecDepth 100000
namespace Go.Proofs.YtbflmeomkfjikaaGreat.A.E
open Go Go.RowKit Go.Shelf

theorem eq_frE (x y : Fr) : cellsEq [some .i64, some .i64, some .i64, none] [num x.v, num x.lo, num x.hi, tru x.bad] [num y.v, num y.lo, num y.hi, tru y.bad] = some (decide (x = y)) := by
  obtain ⟨n, d, e, b⟩ := x
  obtain ⟨n', d', e', b'⟩ := y
  simp only [cellsEq, Fr.mk.injEq]
  cases b <;> cases b' <;> simp <;> rfl

/-! ### The function RootStays -/
theorem ok64 (x : Fr) : Ok Tryz.prog 64 [frV x] (tru (decide (x = point 0))) := by
  refine ok_fn mixed Tryz.func64 (code := ?_) (h := h64) ?_ k64 ?_
  rotate_left
  · exact rfl
  unfold h64 initS
  simp -implicitDefEqProofs (maxSteps := 10000000) only [rkA, rkB, stepA, valA, simprocAttr, Tryz.ntmps64, Tryz.results64]
  refine call_fn rfl rfl rfl (ok53 0) ?_
  simp -implicitDefEqProofs (maxSteps := 10000000) only [eq_frE, rkA, rkB, stepA, valA, simprocAttr]
set_option maxHeartbeats 2000000 in
theorem ok14 (e1 e2 e3 e4 e5 : Bool) (N : Int) (x root f g h : List Int) (r z : Int) : Ok Tryz.prog 14 [caseV e1 e2 e3 e4 e5 N x root f g h r z] (tru true) := by
  have h914 := ok52 e1 e2 e3 e4 e5 N x root f g h r z
  refine ok_fn mixed Tryz.func14 (code := ?_) (h := h14) ?_ k14 ?_
  rotate_left
  · exact rfl
  unfold h14 initS
  simp -implicitDefEqProofs (maxSteps := 10000000) only [rkA, rkB, stepA, valA, simprocAttr, Tryz.ntmps14, Tryz.results14]
  refine call_fn rfl rfl rfl (h914) ?_
  cases hf : few9 N x root f g h r z with
  | false =>
    simp -implicitDefEqProofs (maxSteps := 10000000) only [rkA, rkB, stepA, valA, simprocAttr]
    refine call_fn rfl rfl rfl (ok48) ?_
    simp -implicitDefEqProofs (maxSteps := 10000000) only [rkA, rkB, stepA, valA, simprocAttr]
  | true =>
    obtain ⟨⟨n1, n2, lx, lh, r1, r2, z1, z2⟩, ⟨bx, bh, br, bf, bg⟩, lr, lf, lg⟩ := few9_spec hf
    obtain ⟨n, rfl⟩ := Int.eq_ofNat_of_zero_le (show 0 ≤ N by omega)
    have hn : 1 ≤ n ∧ n ≤ 4 := by omega
    have hn' : 1 ≤ n ∧ n ≤ 16 := by omega
    have cN : (n : Int) * (n : Int) = ((n * n : Nat) : Int) := by simp
    have lS : (lbS n root f g h r).length = n * n := upRS_len _ _ _ _
    have lX : (lbX n x root f g h r z).length = n := by
      rw [lbX, upRX, List.length_zipWith, List.length_map, laX, applyF_len, upRK]
      simp
    simp -implicitDefEqProofs (maxSteps := 10000000) only [rkA, rkB, stepA, valA, simprocAttr]
    refine call_fn rfl rfl rfl (ok61 e1 e2 e3 e4 e5 n x root f g h r z hn (by omega) (by omega) (by omega) (by omega) (by omega)) ?_
    simp -implicitDefEqProofs (maxSteps := 10000000) only [rkA, rkB, stepA, valA, simprocAttr]
    have h6 := ok62 false false (lbX n x root f g h r z) (lbS n root f g h r) n n
    rw [stRight_nat lS, lX, decide_eq_true (show 1 ≤ n ∧ n ≤ 4 ∧ n = n by omega)] at h6
    refine call_fn rfl rfl rfl (h6) ?_
    simp -implicitDefEqProofs (maxSteps := 10000000) only [rkA, rkB, stepA, valA, simprocAttr]
    have hIs : (true : Bool) = true ↔ right (n : Int) (n : Int) (lbS n root f g h r).length = true ∧ (n : Int) = n ∧ ∀ i k : Nat, i < (n : Int).toNat → k < (n : Int).toNat → i < k → decide (atF n n (lbS n root f g h r) i k = point 0) = true := ⟨fun _ => ⟨right_sq hn' lS, rfl, fun i k hi hk hik => by
      rw [Int.toNat_natCast] at hi hk
      rw [lbS, upRS_up hn' _ _ hi hk hik, laS, preS, triF, clear_up hn' _ hi hk hik]
      decide⟩, fun _ => rfl⟩
    refine call_fn rfl rfl rfl (ok63 false n n (lbS n root f g h r) _ [] (fun x => decide (x = point 0)) true ok64 hIs) ?_
    simp -implicitDefEqProofs (maxSteps := 10000000) only [rkA, rkB, stepA, valA, simprocAttr]
    refine call_fn rfl rfl rfl (ok48) ?_
    simp -implicitDefEqProofs (maxSteps := 10000000) only [rkA, rkB, stepA, valA, simprocAttr]
theorem RootStays_ok {xs : List PV} (h : FitL caseSh xs) : Ok Tryz.prog 14 [.agg xs] (tru true) := by
  obtain ⟨N, x, root, f, g, h, r, z, e⟩ := case_fit h
  rw [e]
  exact ok14 _ _ _ _ _ _ _ _ _ _ _ _ _
end Go.Proofs.YtbflmeomkfjikaaGreat.A.E


