import Derived.Test.YtipchjfcjbghnaaGreatM5
set_option linter.unusedVariables false
set_option linter.unusedSimpArgs false
set_option maxRecDepth 100000
namespace Go.Proofs.YtipchjfcjbghnaaGreat.A.E
open Go Go.RowKit Go.Shelf

/-! ### Enclosed numbers -/
structure Fr where
  v : Int
  lo : Int
  hi : Int
  bad : Bool
  deriving DecidableEq
abbrev frV (x : Fr) : PV := .agg [num x.v, num x.lo, num x.hi, tru x.bad]
abbrev Fr.wrong : Fr := ⟨0, 0, 0, true⟩
def Fr.fine (x : Fr) : Bool := !x.bad && (rightX x.lo && (rightX x.hi && (decide (x.lo ≤ x.v) && decide (x.v ≤ x.hi))))
theorem ok100 (x : Fr) : Ok Tryz.prog 100 [frV x] (tru x.fine) := by
  refine ok_fn mixed Tryz.func100 (code := ?_) (h := h100) ?_ k100 ?_
  rotate_left
  · exact rfl
  unfold h100 initS
  simp -implicitDefEqProofs (maxSteps := 10000000) only [rkA, stepA, valA, storeA, ldA, fieldAddrA, fieldA, idxAddrA, idxA, idxArr, lenA, unA, binA, num2, binV, eqA, rowOf, PV.cells, PV.cell, bndA, appA, reduceIte, reduceCtorEq, Nat.reduceAdd, Nat.reduceSub, Nat.reduceEqDiff, Nat.reduceLeDiff, Nat.reduceLT, Nat.reduceMul, Nat.reduceBEq, Nat.reduceBNe, Int.reduceToNat, Int.reduceLE, Int.reduceLT, allocX, setPs, extremeA, ints, resAll, rinfOk, packR, Tryz.ntmps100, Tryz.results100]
  cases hb : x.bad with
  | true => simp -implicitDefEqProofs (maxSteps := 10000000) only [Fr.fine, hb, rkA, stepA, valA, storeA, ldA, fieldAddrA, fieldA, idxAddrA, idxA, idxArr, lenA, unA, binA, num2, binV, eqA, rowOf, PV.cells, PV.cell, bndA, appA, reduceIte, reduceCtorEq, Nat.reduceAdd, Nat.reduceSub, Nat.reduceEqDiff, Nat.reduceLeDiff, Nat.reduceLT, Nat.reduceMul, Nat.reduceBEq, Nat.reduceBNe, Int.reduceToNat, Int.reduceLE, Int.reduceLT, allocX, setPs, extremeA, ints, resAll, rinfOk, packR]
  | false =>
    simp -implicitDefEqProofs (maxSteps := 10000000) only [rkA, stepA, valA, storeA, ldA, fieldAddrA, fieldA, idxAddrA, idxA, idxArr, lenA, unA, binA, num2, binV, eqA, rowOf, PV.cells, PV.cell, bndA, appA, reduceIte, reduceCtorEq, Nat.reduceAdd, Nat.reduceSub, Nat.reduceEqDiff, Nat.reduceLeDiff, Nat.reduceLT, Nat.reduceMul, Nat.reduceBEq, Nat.reduceBNe, Int.reduceToNat, Int.reduceLE, Int.reduceLT, allocX, setPs, extremeA, ints, resAll, rinfOk, packR]
    refine call_fn rfl rfl rfl (ok56 x.lo) ?_
    cases h1 : rightX x.lo with
    | false => simp -implicitDefEqProofs (maxSteps := 10000000) only [Fr.fine, hb, h1, rkA, stepA, valA, storeA, ldA, fieldAddrA, fieldA, idxAddrA, idxA, idxArr, lenA, unA, binA, num2, binV, eqA, rowOf, PV.cells, PV.cell, bndA, appA, reduceIte, reduceCtorEq, Nat.reduceAdd, Nat.reduceSub, Nat.reduceEqDiff, Nat.reduceLeDiff, Nat.reduceLT, Nat.reduceMul, Nat.reduceBEq, Nat.reduceBNe, Int.reduceToNat, Int.reduceLE, Int.reduceLT, allocX, setPs, extremeA, ints, resAll, rinfOk, packR]
    | true =>
      simp -implicitDefEqProofs (maxSteps := 10000000) only [rkA, stepA, valA, storeA, ldA, fieldAddrA, fieldA, idxAddrA, idxA, idxArr, lenA, unA, binA, num2, binV, eqA, rowOf, PV.cells, PV.cell, bndA, appA, reduceIte, reduceCtorEq, Nat.reduceAdd, Nat.reduceSub, Nat.reduceEqDiff, Nat.reduceLeDiff, Nat.reduceLT, Nat.reduceMul, Nat.reduceBEq, Nat.reduceBNe, Int.reduceToNat, Int.reduceLE, Int.reduceLT, allocX, setPs, extremeA, ints, resAll, rinfOk, packR]
      refine call_fn rfl rfl rfl (ok56 x.hi) ?_
      cases h2 : rightX x.hi with
      | false => simp -implicitDefEqProofs (maxSteps := 10000000) only [Fr.fine, hb, h1, h2, rkA, stepA, valA, storeA, ldA, fieldAddrA, fieldA, idxAddrA, idxA, idxArr, lenA, unA, binA, num2, binV, eqA, rowOf, PV.cells, PV.cell, bndA, appA, reduceIte, reduceCtorEq, Nat.reduceAdd, Nat.reduceSub, Nat.reduceEqDiff, Nat.reduceLeDiff, Nat.reduceLT, Nat.reduceMul, Nat.reduceBEq, Nat.reduceBNe, Int.reduceToNat, Int.reduceLE, Int.reduceLT, allocX, setPs, extremeA, ints, resAll, rinfOk, packR]
      | true =>
        simp -implicitDefEqProofs (maxSteps := 10000000) only [rkA, stepA, valA, storeA, ldA, fieldAddrA, fieldA, idxAddrA, idxA, idxArr, lenA, unA, binA, num2, binV, eqA, rowOf, PV.cells, PV.cell, bndA, appA, reduceIte, reduceCtorEq, Nat.reduceAdd, Nat.reduceSub, Nat.reduceEqDiff, Nat.reduceLeDiff, Nat.reduceLT, Nat.reduceMul, Nat.reduceBEq, Nat.reduceBNe, Int.reduceToNat, Int.reduceLE, Int.reduceLT, allocX, setPs, extremeA, ints, resAll, rinfOk, packR]
        by_cases h3 : x.lo ≤ x.v
        · simp -implicitDefEqProofs (maxSteps := 10000000) only [Fr.fine, hb, h1, h2, h3, rkA, stepA, valA, storeA, ldA, fieldAddrA, fieldA, idxAddrA, idxA, idxArr, lenA, unA, binA, num2, binV, eqA, rowOf, PV.cells, PV.cell, bndA, appA, reduceIte, reduceCtorEq, Nat.reduceAdd, Nat.reduceSub, Nat.reduceEqDiff, Nat.reduceLeDiff, Nat.reduceLT, Nat.reduceMul, Nat.reduceBEq, Nat.reduceBNe, Int.reduceToNat, Int.reduceLE, Int.reduceLT, allocX, setPs, extremeA, ints, resAll, rinfOk, packR]
        · simp -implicitDefEqProofs (maxSteps := 10000000) only [Fr.fine, hb, h1, h2, h3, rkA, stepA, valA, storeA, ldA, fieldAddrA, fieldA, idxAddrA, idxA, idxArr, lenA, unA, binA, num2, binV, eqA, rowOf, PV.cells, PV.cell, bndA, appA, reduceIte, reduceCtorEq, Nat.reduceAdd, Nat.reduceSub, Nat.reduceEqDiff, Nat.reduceLeDiff, Nat.reduceLT, Nat.reduceMul, Nat.reduceBEq, Nat.reduceBNe, Int.reduceToNat, Int.reduceLE, Int.reduceLT, allocX, setPs, extremeA, ints, resAll, rinfOk, packR]
theorem ok57 : Ok Tryz.prog 57 [] (frV .wrong) := by
  refine ok_fn mixed Tryz.func57 (code := ?_) (h := h57) ?_ k57 ?_
  rotate_left
  · exact rfl
  unfold h57 initS
  simp -implicitDefEqProofs (maxSteps := 10000000) only [rkA, stepA, valA, storeA, ldA, fieldAddrA, fieldA, idxAddrA, idxA, idxArr, lenA, unA, binA, num2, binV, eqA, rowOf, PV.cells, PV.cell, bndA, appA, reduceIte, reduceCtorEq, Nat.reduceAdd, Nat.reduceSub, Nat.reduceEqDiff, Nat.reduceLeDiff, Nat.reduceLT, Nat.reduceMul, Nat.reduceBEq, Nat.reduceBNe, Int.reduceToNat, Int.reduceLE, Int.reduceLT, allocX, setPs, extremeA, ints, resAll, rinfOk, packR, Tryz.ntmps57, Tryz.results57]
def point (n : Int) : Fr := if rightX n = true then ⟨n, n, n, false⟩ else .wrong
theorem ok22 (n : Int) : Ok Tryz.prog 22 [num n] (frV (point n)) := by
  refine ok_fn mixed Tryz.func22 (code := ?_) (h := h22) ?_ k22 ?_
  rotate_left
  · exact rfl
  unfold h22 initS
  simp -implicitDefEqProofs (maxSteps := 10000000) only [rkA, stepA, valA, storeA, ldA, fieldAddrA, fieldA, idxAddrA, idxA, idxArr, lenA, unA, binA, num2, binV, eqA, rowOf, PV.cells, PV.cell, bndA, appA, reduceIte, reduceCtorEq, Nat.reduceAdd, Nat.reduceSub, Nat.reduceEqDiff, Nat.reduceLeDiff, Nat.reduceLT, Nat.reduceMul, Nat.reduceBEq, Nat.reduceBNe, Int.reduceToNat, Int.reduceLE, Int.reduceLT, allocX, setPs, extremeA, ints, resAll, rinfOk, packR, Tryz.ntmps22, Tryz.results22]
  refine call_fn rfl rfl rfl (ok56 n) ?_
  cases h : rightX n with
  | false =>
    simp -implicitDefEqProofs (maxSteps := 10000000) only [rkA, stepA, valA, storeA, ldA, fieldAddrA, fieldA, idxAddrA, idxA, idxArr, lenA, unA, binA, num2, binV, eqA, rowOf, PV.cells, PV.cell, bndA, appA, reduceIte, reduceCtorEq, Nat.reduceAdd, Nat.reduceSub, Nat.reduceEqDiff, Nat.reduceLeDiff, Nat.reduceLT, Nat.reduceMul, Nat.reduceBEq, Nat.reduceBNe, Int.reduceToNat, Int.reduceLE, Int.reduceLT, allocX, setPs, extremeA, ints, resAll, rinfOk, packR]
    refine call_fn rfl rfl rfl (ok57) ?_
    simp -implicitDefEqProofs (maxSteps := 10000000) only [point, h, rkA, stepA, valA, storeA, ldA, fieldAddrA, fieldA, idxAddrA, idxA, idxArr, lenA, unA, binA, num2, binV, eqA, rowOf, PV.cells, PV.cell, bndA, appA, reduceIte, reduceCtorEq, Nat.reduceAdd, Nat.reduceSub, Nat.reduceEqDiff, Nat.reduceLeDiff, Nat.reduceLT, Nat.reduceMul, Nat.reduceBEq, Nat.reduceBNe, Int.reduceToNat, Int.reduceLE, Int.reduceLT, allocX, setPs, extremeA, ints, resAll, rinfOk, packR]
  | true => simp -implicitDefEqProofs (maxSteps := 10000000) only [point, h, rkA, stepA, valA, storeA, ldA, fieldAddrA, fieldA, idxAddrA, idxA, idxArr, lenA, unA, binA, num2, binV, eqA, rowOf, PV.cells, PV.cell, bndA, appA, reduceIte, reduceCtorEq, Nat.reduceAdd, Nat.reduceSub, Nat.reduceEqDiff, Nat.reduceLeDiff, Nat.reduceLT, Nat.reduceMul, Nat.reduceBEq, Nat.reduceBNe, Int.reduceToNat, Int.reduceLE, Int.reduceLT, allocX, setPs, extremeA, ints, resAll, rinfOk, packR]
/-- A whole number. -/
def newF (n _d : Int) : Fr := if (ofX n).2 = true then point (ofX n).1 else .wrong
theorem ok23 (a : Fr) (n : Int) : Ok Tryz.prog 23 [frV a, num n] (frV (newF n 1)) := by
  refine ok_fn mixed Tryz.func23 (code := ?_) (h := h23) ?_ k23 ?_
  rotate_left
  · exact rfl
  unfold h23 initS
  simp -implicitDefEqProofs (maxSteps := 10000000) only [rkA, stepA, valA, storeA, ldA, fieldAddrA, fieldA, idxAddrA, idxA, idxArr, lenA, unA, binA, num2, binV, eqA, rowOf, PV.cells, PV.cell, bndA, appA, reduceIte, reduceCtorEq, Nat.reduceAdd, Nat.reduceSub, Nat.reduceEqDiff, Nat.reduceLeDiff, Nat.reduceLT, Nat.reduceMul, Nat.reduceBEq, Nat.reduceBNe, Int.reduceToNat, Int.reduceLE, Int.reduceLT, allocX, setPs, extremeA, ints, resAll, rinfOk, packR, Tryz.ntmps23, Tryz.results23]
  refine call_fn rfl rfl rfl (ok58 n) ?_
  simp -implicitDefEqProofs (maxSteps := 10000000) only [rkA, stepA, valA, storeA, ldA, fieldAddrA, fieldA, idxAddrA, idxA, idxArr, lenA, unA, binA, num2, binV, eqA, rowOf, PV.cells, PV.cell, bndA, appA, reduceIte, reduceCtorEq, Nat.reduceAdd, Nat.reduceSub, Nat.reduceEqDiff, Nat.reduceLeDiff, Nat.reduceLT, Nat.reduceMul, Nat.reduceBEq, Nat.reduceBNe, Int.reduceToNat, Int.reduceLE, Int.reduceLT, allocX, setPs, extremeA, ints, resAll, rinfOk, packR]
  cases h : (ofX n).2 with
  | false =>
    simp -implicitDefEqProofs (maxSteps := 10000000) only [rkA, stepA, valA, storeA, ldA, fieldAddrA, fieldA, idxAddrA, idxA, idxArr, lenA, unA, binA, num2, binV, eqA, rowOf, PV.cells, PV.cell, bndA, appA, reduceIte, reduceCtorEq, Nat.reduceAdd, Nat.reduceSub, Nat.reduceEqDiff, Nat.reduceLeDiff, Nat.reduceLT, Nat.reduceMul, Nat.reduceBEq, Nat.reduceBNe, Int.reduceToNat, Int.reduceLE, Int.reduceLT, allocX, setPs, extremeA, ints, resAll, rinfOk, packR]
    refine call_fn rfl rfl rfl (ok57) ?_
    simp -implicitDefEqProofs (maxSteps := 10000000) only [newF, h, rkA, stepA, valA, storeA, ldA, fieldAddrA, fieldA, idxAddrA, idxA, idxArr, lenA, unA, binA, num2, binV, eqA, rowOf, PV.cells, PV.cell, bndA, appA, reduceIte, reduceCtorEq, Nat.reduceAdd, Nat.reduceSub, Nat.reduceEqDiff, Nat.reduceLeDiff, Nat.reduceLT, Nat.reduceMul, Nat.reduceBEq, Nat.reduceBNe, Int.reduceToNat, Int.reduceLE, Int.reduceLT, allocX, setPs, extremeA, ints, resAll, rinfOk, packR]
  | true =>
    simp -implicitDefEqProofs (maxSteps := 10000000) only [rkA, stepA, valA, storeA, ldA, fieldAddrA, fieldA, idxAddrA, idxA, idxArr, lenA, unA, binA, num2, binV, eqA, rowOf, PV.cells, PV.cell, bndA, appA, reduceIte, reduceCtorEq, Nat.reduceAdd, Nat.reduceSub, Nat.reduceEqDiff, Nat.reduceLeDiff, Nat.reduceLT, Nat.reduceMul, Nat.reduceBEq, Nat.reduceBNe, Int.reduceToNat, Int.reduceLE, Int.reduceLT, allocX, setPs, extremeA, ints, resAll, rinfOk, packR]
    refine call_fn rfl rfl rfl (ok22 (ofX n).1) ?_
    simp -implicitDefEqProofs (maxSteps := 10000000) only [newF, h, rkA, stepA, valA, storeA, ldA, fieldAddrA, fieldA, idxAddrA, idxA, idxArr, lenA, unA, binA, num2, binV, eqA, rowOf, PV.cells, PV.cell, bndA, appA, reduceIte, reduceCtorEq, Nat.reduceAdd, Nat.reduceSub, Nat.reduceEqDiff, Nat.reduceLeDiff, Nat.reduceLT, Nat.reduceMul, Nat.reduceBEq, Nat.reduceBNe, Int.reduceToNat, Int.reduceLE, Int.reduceLT, allocX, setPs, extremeA, ints, resAll, rinfOk, packR]

def minL : List Int → Int
  | [] => 0
  | x :: l => l.foldl (fun m y => if y < m then y else m) x
def maxL : List Int → Int
  | [] => 0
  | x :: l => l.foldl (fun m y => if m < y then y else m) x
theorem ok166 (ex : Bool) (l : List Int) (h : l ≠ []) (hl : l.length ≤ 1000) : Ok Tryz.prog 166 [.sl ex (l.map num)] (num (minL l)) := by
  obtain ⟨x, l, rfl⟩ : ∃ x t, l = x :: t := by cases l with | nil => exact absurd rfl h | cons x t => exact ⟨x, t, rfl⟩
  simp only [List.length_cons] at hl
  have c : ¬ (((l.length + 1 : Nat) : Int) < 1) := by omega
  have hlen : ((x :: l).map num).length = l.length + 1 := by simp
  have g0 : ((x :: l).map num)[0]? = some (num x) := rfl
  have hres : minL (x :: l) = l.foldl (fun m y => if y < m then y else m) x := rfl
  generalize hL : (x :: l).map num = L at *
  refine ok_fn mixed Tryz.func166 (code := ?_) (h := h166) ?_ k166 ?_
  rotate_left
  · exact rfl
  unfold h166 initS
  simp -implicitDefEqProofs (maxSteps := 10000000) only [rkA, stepA, valA, storeA, ldA, fieldAddrA, fieldA, idxAddrA, idxA, idxArr, lenA, unA, binA, num2, binV, eqA, rowOf, PV.cells, PV.cell, bndA, appA, reduceIte, reduceCtorEq, Nat.reduceAdd, Nat.reduceSub, Nat.reduceEqDiff, Nat.reduceLeDiff, Nat.reduceLT, Nat.reduceMul, Nat.reduceBEq, Nat.reduceBNe, Int.reduceToNat, Int.reduceLE, Int.reduceLT, allocX, setPs, extremeA, ints, resAll, rinfOk, packR, Tryz.ntmps166, Tryz.results166]
  simp -implicitDefEqProofs (maxSteps := 10000000) only [hlen, c, g0, rkA, stepA, valA, storeA, ldA, fieldAddrA, fieldA, idxAddrA, idxA, idxArr, lenA, unA, binA, num2, binV, eqA, rowOf, PV.cells, PV.cell, bndA, appA, reduceIte, reduceCtorEq, Nat.reduceAdd, Nat.reduceSub, Nat.reduceEqDiff, Nat.reduceLeDiff, Nat.reduceLT, Nat.reduceMul, Nat.reduceBEq, Nat.reduceBNe, Int.reduceToNat, Int.reduceLE, Int.reduceLT, allocX, setPs, extremeA, ints, resAll, rinfOk, packR]
  refine wp_loop (fun m s => ∃ i : Nat, i + m = l.length ∧ s = ⟨[.v (.sl ex L), jk, jk, nt ((l.take i).foldl (fun m y => if y < m then y else m) x), nt ((i + 1 : Nat) : Int), jk, jk, jk, jk, jk, jk, jk, jk, jk, jk, jk, jk, jk, jk, jk, jk, jk, jk, jk, jk], [], [], [], [], 0, nomem⟩) l.length ?_ ?_
  · simp -implicitDefEqProofs (maxSteps := 10000000) only [rkA, stepA, valA, storeA, ldA, fieldAddrA, fieldA, idxAddrA, idxA, idxArr, lenA, unA, binA, num2, binV, eqA, rowOf, PV.cells, PV.cell, bndA, appA, reduceIte, reduceCtorEq, Nat.reduceAdd, Nat.reduceSub, Nat.reduceEqDiff, Nat.reduceLeDiff, Nat.reduceLT, Nat.reduceMul, Nat.reduceBEq, Nat.reduceBNe, Int.reduceToNat, Int.reduceLE, Int.reduceLT, allocX, setPs, extremeA, ints, resAll, rinfOk, packR]
    exact ⟨0, by simp, rfl⟩
  rintro m s ⟨i, hi, rfl⟩
  simp -implicitDefEqProofs (maxSteps := 10000000) only [hlen, rkA, stepA, valA, storeA, ldA, fieldAddrA, fieldA, idxAddrA, idxA, idxArr, lenA, unA, binA, num2, binV, eqA, rowOf, PV.cells, PV.cell, bndA, appA, reduceIte, reduceCtorEq, Nat.reduceAdd, Nat.reduceSub, Nat.reduceEqDiff, Nat.reduceLeDiff, Nat.reduceLT, Nat.reduceMul, Nat.reduceBEq, Nat.reduceBNe, Int.reduceToNat, Int.reduceLE, Int.reduceLT, allocX, setPs, extremeA, ints, resAll, rinfOk, packR]
  refine gB_dec ?_ ?_ <;> intro hc <;> simp -implicitDefEqProofs (maxSteps := 10000000) only [hc, rkA, stepA, valA, storeA, ldA, fieldAddrA, fieldA, idxAddrA, idxA, idxArr, lenA, unA, binA, num2, binV, eqA, rowOf, PV.cells, PV.cell, bndA, appA, reduceIte, reduceCtorEq, Nat.reduceAdd, Nat.reduceSub, Nat.reduceEqDiff, Nat.reduceLeDiff, Nat.reduceLT, Nat.reduceMul, Nat.reduceBEq, Nat.reduceBNe, Int.reduceToNat, Int.reduceLE, Int.reduceLT, allocX, setPs, extremeA, ints, resAll, rinfOk, packR]
  · have hlt : i < l.length := by omega
    have h0 : (0 : Int) ≤ ((i + 1 : Nat) : Int) := by omega
    have hg : L[i + 1]? = some (num l[i]) := by rw [← hL]; simp [hlt]
    have hw := wrapped (x := ((i + 1 : Nat) : Int) + 1) (by omega) (by omega)
    simp -implicitDefEqProofs (maxSteps := 10000000) only [h0, Int.toNat_natCast, hg, rkA, stepA, valA, storeA, ldA, fieldAddrA, fieldA, idxAddrA, idxA, idxArr, lenA, unA, binA, num2, binV, eqA, rowOf, PV.cells, PV.cell, bndA, appA, reduceIte, reduceCtorEq, Nat.reduceAdd, Nat.reduceSub, Nat.reduceEqDiff, Nat.reduceLeDiff, Nat.reduceLT, Nat.reduceMul, Nat.reduceBEq, Nat.reduceBNe, Int.reduceToNat, Int.reduceLE, Int.reduceLT, allocX, setPs, extremeA, ints, resAll, rinfOk, packR]
    simp -implicitDefEqProofs (maxSteps := 10000000) only [hw, rkA, stepA, valA, storeA, ldA, fieldAddrA, fieldA, idxAddrA, idxA, idxArr, lenA, unA, binA, num2, binV, eqA, rowOf, PV.cells, PV.cell, bndA, appA, reduceIte, reduceCtorEq, Nat.reduceAdd, Nat.reduceSub, Nat.reduceEqDiff, Nat.reduceLeDiff, Nat.reduceLT, Nat.reduceMul, Nat.reduceBEq, Nat.reduceBNe, Int.reduceToNat, Int.reduceLE, Int.reduceLT, allocX, setPs, extremeA, ints, resAll, rinfOk, packR]
    refine loopK_of (m' := m - 1) (by omega) ?_
    simp -implicitDefEqProofs (maxSteps := 10000000) only [rkA, stepA, valA, storeA, ldA, fieldAddrA, fieldA, idxAddrA, idxA, idxArr, lenA, unA, binA, num2, binV, eqA, rowOf, PV.cells, PV.cell, bndA, appA, reduceIte, reduceCtorEq, Nat.reduceAdd, Nat.reduceSub, Nat.reduceEqDiff, Nat.reduceLeDiff, Nat.reduceLT, Nat.reduceMul, Nat.reduceBEq, Nat.reduceBNe, Int.reduceToNat, Int.reduceLE, Int.reduceLT, allocX, setPs, extremeA, ints, resAll, rinfOk, packR]
    refine ⟨i + 1, by omega, ?_⟩
    rw [List.take_succ_eq_append_getElem hlt, List.foldl_append]
    simp only [List.foldl_cons, List.foldl_nil, Int.natCast_add, Int.natCast_one]
  · have hin : l.length ≤ i := by omega
    rw [List.take_of_length_le hin, hres]
theorem ok167 (ex : Bool) (l : List Int) (h : l ≠ []) (hl : l.length ≤ 1000) : Ok Tryz.prog 167 [.sl ex (l.map num)] (num (maxL l)) := by
  obtain ⟨x, l, rfl⟩ : ∃ x t, l = x :: t := by cases l with | nil => exact absurd rfl h | cons x t => exact ⟨x, t, rfl⟩
  simp only [List.length_cons] at hl
  have c : ¬ (((l.length + 1 : Nat) : Int) < 1) := by omega
  have hlen : ((x :: l).map num).length = l.length + 1 := by simp
  have g0 : ((x :: l).map num)[0]? = some (num x) := rfl
  have hres : maxL (x :: l) = l.foldl (fun m y => if m < y then y else m) x := rfl
  generalize hL : (x :: l).map num = L at *
  refine ok_fn mixed Tryz.func167 (code := ?_) (h := h167) ?_ k167 ?_
  rotate_left
  · exact rfl
  unfold h167 initS
  simp -implicitDefEqProofs (maxSteps := 10000000) only [rkA, stepA, valA, storeA, ldA, fieldAddrA, fieldA, idxAddrA, idxA, idxArr, lenA, unA, binA, num2, binV, eqA, rowOf, PV.cells, PV.cell, bndA, appA, reduceIte, reduceCtorEq, Nat.reduceAdd, Nat.reduceSub, Nat.reduceEqDiff, Nat.reduceLeDiff, Nat.reduceLT, Nat.reduceMul, Nat.reduceBEq, Nat.reduceBNe, Int.reduceToNat, Int.reduceLE, Int.reduceLT, allocX, setPs, extremeA, ints, resAll, rinfOk, packR, Tryz.ntmps167, Tryz.results167]
  simp -implicitDefEqProofs (maxSteps := 10000000) only [hlen, c, g0, rkA, stepA, valA, storeA, ldA, fieldAddrA, fieldA, idxAddrA, idxA, idxArr, lenA, unA, binA, num2, binV, eqA, rowOf, PV.cells, PV.cell, bndA, appA, reduceIte, reduceCtorEq, Nat.reduceAdd, Nat.reduceSub, Nat.reduceEqDiff, Nat.reduceLeDiff, Nat.reduceLT, Nat.reduceMul, Nat.reduceBEq, Nat.reduceBNe, Int.reduceToNat, Int.reduceLE, Int.reduceLT, allocX, setPs, extremeA, ints, resAll, rinfOk, packR]
  refine wp_loop (fun m s => ∃ i : Nat, i + m = l.length ∧ s = ⟨[.v (.sl ex L), jk, jk, nt ((l.take i).foldl (fun m y => if m < y then y else m) x), nt ((i + 1 : Nat) : Int), jk, jk, jk, jk, jk, jk, jk, jk, jk, jk, jk, jk, jk, jk, jk, jk, jk, jk, jk, jk], [], [], [], [], 0, nomem⟩) l.length ?_ ?_
  · simp -implicitDefEqProofs (maxSteps := 10000000) only [rkA, stepA, valA, storeA, ldA, fieldAddrA, fieldA, idxAddrA, idxA, idxArr, lenA, unA, binA, num2, binV, eqA, rowOf, PV.cells, PV.cell, bndA, appA, reduceIte, reduceCtorEq, Nat.reduceAdd, Nat.reduceSub, Nat.reduceEqDiff, Nat.reduceLeDiff, Nat.reduceLT, Nat.reduceMul, Nat.reduceBEq, Nat.reduceBNe, Int.reduceToNat, Int.reduceLE, Int.reduceLT, allocX, setPs, extremeA, ints, resAll, rinfOk, packR]
    exact ⟨0, by simp, rfl⟩
  rintro m s ⟨i, hi, rfl⟩
  simp -implicitDefEqProofs (maxSteps := 10000000) only [hlen, rkA, stepA, valA, storeA, ldA, fieldAddrA, fieldA, idxAddrA, idxA, idxArr, lenA, unA, binA, num2, binV, eqA, rowOf, PV.cells, PV.cell, bndA, appA, reduceIte, reduceCtorEq, Nat.reduceAdd, Nat.reduceSub, Nat.reduceEqDiff, Nat.reduceLeDiff, Nat.reduceLT, Nat.reduceMul, Nat.reduceBEq, Nat.reduceBNe, Int.reduceToNat, Int.reduceLE, Int.reduceLT, allocX, setPs, extremeA, ints, resAll, rinfOk, packR]
  refine gB_dec ?_ ?_ <;> intro hc <;> simp -implicitDefEqProofs (maxSteps := 10000000) only [hc, rkA, stepA, valA, storeA, ldA, fieldAddrA, fieldA, idxAddrA, idxA, idxArr, lenA, unA, binA, num2, binV, eqA, rowOf, PV.cells, PV.cell, bndA, appA, reduceIte, reduceCtorEq, Nat.reduceAdd, Nat.reduceSub, Nat.reduceEqDiff, Nat.reduceLeDiff, Nat.reduceLT, Nat.reduceMul, Nat.reduceBEq, Nat.reduceBNe, Int.reduceToNat, Int.reduceLE, Int.reduceLT, allocX, setPs, extremeA, ints, resAll, rinfOk, packR]
  · have hlt : i < l.length := by omega
    have h0 : (0 : Int) ≤ ((i + 1 : Nat) : Int) := by omega
    have hg : L[i + 1]? = some (num l[i]) := by rw [← hL]; simp [hlt]
    have hw := wrapped (x := ((i + 1 : Nat) : Int) + 1) (by omega) (by omega)
    simp -implicitDefEqProofs (maxSteps := 10000000) only [h0, Int.toNat_natCast, hg, rkA, stepA, valA, storeA, ldA, fieldAddrA, fieldA, idxAddrA, idxA, idxArr, lenA, unA, binA, num2, binV, eqA, rowOf, PV.cells, PV.cell, bndA, appA, reduceIte, reduceCtorEq, Nat.reduceAdd, Nat.reduceSub, Nat.reduceEqDiff, Nat.reduceLeDiff, Nat.reduceLT, Nat.reduceMul, Nat.reduceBEq, Nat.reduceBNe, Int.reduceToNat, Int.reduceLE, Int.reduceLT, allocX, setPs, extremeA, ints, resAll, rinfOk, packR]
    simp -implicitDefEqProofs (maxSteps := 10000000) only [hw, rkA, stepA, valA, storeA, ldA, fieldAddrA, fieldA, idxAddrA, idxA, idxArr, lenA, unA, binA, num2, binV, eqA, rowOf, PV.cells, PV.cell, bndA, appA, reduceIte, reduceCtorEq, Nat.reduceAdd, Nat.reduceSub, Nat.reduceEqDiff, Nat.reduceLeDiff, Nat.reduceLT, Nat.reduceMul, Nat.reduceBEq, Nat.reduceBNe, Int.reduceToNat, Int.reduceLE, Int.reduceLT, allocX, setPs, extremeA, ints, resAll, rinfOk, packR]
    refine loopK_of (m' := m - 1) (by omega) ?_
    simp -implicitDefEqProofs (maxSteps := 10000000) only [rkA, stepA, valA, storeA, ldA, fieldAddrA, fieldA, idxAddrA, idxA, idxArr, lenA, unA, binA, num2, binV, eqA, rowOf, PV.cells, PV.cell, bndA, appA, reduceIte, reduceCtorEq, Nat.reduceAdd, Nat.reduceSub, Nat.reduceEqDiff, Nat.reduceLeDiff, Nat.reduceLT, Nat.reduceMul, Nat.reduceBEq, Nat.reduceBNe, Int.reduceToNat, Int.reduceLE, Int.reduceLT, allocX, setPs, extremeA, ints, resAll, rinfOk, packR]
    refine ⟨i + 1, by omega, ?_⟩
    rw [List.take_succ_eq_append_getElem hlt, List.foldl_append]
    simp only [List.foldl_cons, List.foldl_nil, Int.natCast_add, Int.natCast_one]
  · have hin : l.length ≤ i := by omega
    rw [List.take_of_length_le hin, hres]

/-! ### What is told of values, and of pairs of bounds -/
abbrev prV (p : Int × Int) : PV := .agg [num p.1, num p.2]
def okP (F : Int → Int → Int → Int × Bool) (p : Int × Int) : Bool := (F p.1 p.2 1).2 && (F p.1 p.2 2).2
def madeE (F : Int → Int → Int → Int × Bool) (a b : Fr) (ps : List (Int × Int)) : Fr :=
  if ((F a.v b.v 0).2 && ps.all (okP F)) = true ∧ a.fine = true ∧ b.fine = true then ⟨(F a.v b.v 0).1, minL (ps.map fun p => (F p.1 p.2 1).1), maxL (ps.map fun p => (F p.1 p.2 2).1), false⟩ else .wrong
theorem ok160 (k : Nat) (F : Int → Int → Int → Int × Bool) (hF : ∀ x y m, Ok Tryz.prog k [num x, num y, num m] (.tup [num (F x y m).1, tru (F x y m).2])) (a b : Fr) (ex : Bool) (ps : List (Int × Int)) (h1 : ps ≠ []) (h2 : ps.length ≤ 4) :
    Ok Tryz.prog 160 [frV a, frV b, .fn (.func k) [], .sl ex (ps.map prV)] (frV (madeE F a b ps)) := by
  have hl : (ps.map prV).length = ps.length := by simp
  refine ok_fn mixed Tryz.func160 (code := ?_) (h := h160) ?_ k160 ?_
  rotate_left
  · exact rfl
  unfold h160 initS
  simp -implicitDefEqProofs (maxSteps := 10000000) only [rkA, stepA, valA, storeA, ldA, fieldAddrA, fieldA, idxAddrA, idxA, idxArr, lenA, unA, binA, num2, binV, eqA, rowOf, PV.cells, PV.cell, bndA, appA, reduceIte, reduceCtorEq, Nat.reduceAdd, Nat.reduceSub, Nat.reduceEqDiff, Nat.reduceLeDiff, Nat.reduceLT, Nat.reduceMul, Nat.reduceBEq, Nat.reduceBNe, Int.reduceToNat, Int.reduceLE, Int.reduceLT, allocX, setPs, extremeA, ints, resAll, rinfOk, packR, Tryz.ntmps160, Tryz.results160]
  refine call_fn rfl rfl rfl (hF a.v b.v 0) ?_
  simp -implicitDefEqProofs (maxSteps := 10000000) only [rkA, stepA, valA, storeA, ldA, fieldAddrA, fieldA, idxAddrA, idxA, idxArr, lenA, unA, binA, num2, binV, eqA, rowOf, PV.cells, PV.cell, bndA, appA, reduceIte, reduceCtorEq, Nat.reduceAdd, Nat.reduceSub, Nat.reduceEqDiff, Nat.reduceLeDiff, Nat.reduceLT, Nat.reduceMul, Nat.reduceBEq, Nat.reduceBNe, Int.reduceToNat, Int.reduceLE, Int.reduceLT, allocX, setPs, extremeA, ints, resAll, rinfOk, packR]
  refine wp_loop (fun m s => ∃ i : Nat, i + m = ps.length ∧ s = ⟨[jk, jk, .v (.fn (.func k) []), jk, .ptr 4 0, .ptr 5 0, jk, jk, .ptr 8 0, nt (F a.v b.v 0).1, .v (tru ((F a.v b.v 0).2 && (ps.take i).all (okP F))), .acc 11 ((ps.take i).map fun p => num (F p.1 p.2 1).1), .acc 12 ((ps.take i).map fun p => num (F p.1 p.2 2).1), jk, jk, jk, jk, jk, jk, jk, jk, jk, jk, jk, jk, jk, jk, jk, .v (.sl ex (ps.map prV)), nt ps.length, nt i, jk, jk, jk, jk, jk, jk, jk, jk, jk, jk, jk, jk, jk, jk, jk, jk, jk, jk, jk, jk, jk, jk, jk, jk, jk, jk, jk, jk, jk, jk, jk, jk, jk, jk, jk, jk, jk, jk, jk, jk, jk, jk, jk, jk, jk, jk, jk, jk, jk, jk, jk, jk, jk, jk, jk, jk],
    [(4, [nt a.v, nt a.lo, nt a.hi, .v (tru a.bad)]), (5, [nt b.v, nt b.lo, nt b.hi, .v (tru b.bad)]), (8, [nt 0, nt 0, nt 0, .v (tru false)])], [], [(11, i), (12, i)], [], 0, nomem⟩) ps.length ?_ ?_
  · simp -implicitDefEqProofs (maxSteps := 10000000) only [hl, rkA, stepA, valA, storeA, ldA, fieldAddrA, fieldA, idxAddrA, idxA, idxArr, lenA, unA, binA, num2, binV, eqA, rowOf, PV.cells, PV.cell, bndA, appA, reduceIte, reduceCtorEq, Nat.reduceAdd, Nat.reduceSub, Nat.reduceEqDiff, Nat.reduceLeDiff, Nat.reduceLT, Nat.reduceMul, Nat.reduceBEq, Nat.reduceBNe, Int.reduceToNat, Int.reduceLE, Int.reduceLT, allocX, setPs, extremeA, ints, resAll, rinfOk, packR]
    refine ⟨0, by simp, ?_⟩
    simp
  rintro m s ⟨i, hi, rfl⟩
  simp -implicitDefEqProofs (maxSteps := 10000000) only [rkA, stepA, valA, storeA, ldA, fieldAddrA, fieldA, idxAddrA, idxA, idxArr, lenA, unA, binA, num2, binV, eqA, rowOf, PV.cells, PV.cell, bndA, appA, reduceIte, reduceCtorEq, Nat.reduceAdd, Nat.reduceSub, Nat.reduceEqDiff, Nat.reduceLeDiff, Nat.reduceLT, Nat.reduceMul, Nat.reduceBEq, Nat.reduceBNe, Int.reduceToNat, Int.reduceLE, Int.reduceLT, allocX, setPs, extremeA, ints, resAll, rinfOk, packR]
  refine gB_dec ?_ ?_ <;> intro hc <;> simp -implicitDefEqProofs (maxSteps := 10000000) only [hc, rkA, stepA, valA, storeA, ldA, fieldAddrA, fieldA, idxAddrA, idxA, idxArr, lenA, unA, binA, num2, binV, eqA, rowOf, PV.cells, PV.cell, bndA, appA, reduceIte, reduceCtorEq, Nat.reduceAdd, Nat.reduceSub, Nat.reduceEqDiff, Nat.reduceLeDiff, Nat.reduceLT, Nat.reduceMul, Nat.reduceBEq, Nat.reduceBNe, Int.reduceToNat, Int.reduceLE, Int.reduceLT, allocX, setPs, extremeA, ints, resAll, rinfOk, packR]
  · have hlt : i < ps.length := by omega
    have h0 : (0 : Int) ≤ (i : Int) := by omega
    have hg : (ps.map prV)[i]? = some (prV ps[i]) := by simp [hlt]
    simp -implicitDefEqProofs (maxSteps := 10000000) only [h0, Int.toNat_natCast, hg, rkA, stepA, valA, storeA, ldA, fieldAddrA, fieldA, idxAddrA, idxA, idxArr, lenA, unA, binA, num2, binV, eqA, rowOf, PV.cells, PV.cell, bndA, appA, reduceIte, reduceCtorEq, Nat.reduceAdd, Nat.reduceSub, Nat.reduceEqDiff, Nat.reduceLeDiff, Nat.reduceLT, Nat.reduceMul, Nat.reduceBEq, Nat.reduceBNe, Int.reduceToNat, Int.reduceLE, Int.reduceLT, allocX, setPs, extremeA, ints, resAll, rinfOk, packR]
    refine call_fn rfl rfl rfl (hF ps[i].1 ps[i].2 1) ?_
    simp -implicitDefEqProofs (maxSteps := 10000000) only [rkA, stepA, valA, storeA, ldA, fieldAddrA, fieldA, idxAddrA, idxA, idxArr, lenA, unA, binA, num2, binV, eqA, rowOf, PV.cells, PV.cell, bndA, appA, reduceIte, reduceCtorEq, Nat.reduceAdd, Nat.reduceSub, Nat.reduceEqDiff, Nat.reduceLeDiff, Nat.reduceLT, Nat.reduceMul, Nat.reduceBEq, Nat.reduceBNe, Int.reduceToNat, Int.reduceLE, Int.reduceLT, allocX, setPs, extremeA, ints, resAll, rinfOk, packR]
    refine call_fn rfl rfl rfl (hF ps[i].1 ps[i].2 2) ?_
    simp -implicitDefEqProofs (maxSteps := 10000000) only [rkA, stepA, valA, storeA, ldA, fieldAddrA, fieldA, idxAddrA, idxA, idxArr, lenA, unA, binA, num2, binV, eqA, rowOf, PV.cells, PV.cell, bndA, appA, reduceIte, reduceCtorEq, Nat.reduceAdd, Nat.reduceSub, Nat.reduceEqDiff, Nat.reduceLeDiff, Nat.reduceLT, Nat.reduceMul, Nat.reduceBEq, Nat.reduceBNe, Int.reduceToNat, Int.reduceLE, Int.reduceLT, allocX, setPs, extremeA, ints, resAll, rinfOk, packR]
    have f1 : fits 1 8 ((ps.take i).map fun p => num (F p.1 p.2 1).1) [num (F ps[i].1 ps[i].2 1).1] = true := by
      have := fits_num (k := (ps.take i).map fun p => (F p.1 p.2 1).1) (l := [(F ps[i].1 ps[i].2 1).1]) (by simp; omega)
      simpa [Function.comp_def] using this
    have f2 : fits 1 8 ((ps.take i).map fun p => num (F p.1 p.2 2).1) [num (F ps[i].1 ps[i].2 2).1] = true := by
      have := fits_num (k := (ps.take i).map fun p => (F p.1 p.2 2).1) (l := [(F ps[i].1 ps[i].2 2).1]) (by simp; omega)
      simpa [Function.comp_def] using this
    have l1 : ((ps.take i).map fun p => num (F p.1 p.2 1).1).length = i := by simp; omega
    have l2 : ((ps.take i).map fun p => num (F p.1 p.2 2).1).length = i := by simp; omega
    have hw := wrapped (x := (i : Int) + 1) (by omega) (by omega)
    have hall : (ps.take (i + 1)).all (okP F) = ((ps.take i).all (okP F) && ((F ps[i].1 ps[i].2 1).2 && (F ps[i].1 ps[i].2 2).2)) := by
      rw [List.take_succ_eq_append_getElem hlt, List.all_append]
      simp [okP]
    have hnew : ((F a.v b.v 0).2 && (ps.take (i + 1)).all (okP F)) = (((F a.v b.v 0).2 && (ps.take i).all (okP F)) && ((F ps[i].1 ps[i].2 1).2 && (F ps[i].1 ps[i].2 2).2)) := by rw [hall, Bool.and_assoc]
    clear hall
    generalize ((F a.v b.v 0).2 && (ps.take i).all (okP F)) = b0 at *
    have htk := List.take_succ_eq_append_getElem hlt
    generalize (F ps[i].1 ps[i].2 1).2 = b1 at *
    generalize (F ps[i].1 ps[i].2 2).2 = b2 at *
    cases b0 with
    | false =>
      simp -implicitDefEqProofs (maxSteps := 10000000) only [f1, f2, l1, l2, rkA, stepA, valA, storeA, ldA, fieldAddrA, fieldA, idxAddrA, idxA, idxArr, lenA, unA, binA, num2, binV, eqA, rowOf, PV.cells, PV.cell, bndA, appA, reduceIte, reduceCtorEq, Nat.reduceAdd, Nat.reduceSub, Nat.reduceEqDiff, Nat.reduceLeDiff, Nat.reduceLT, Nat.reduceMul, Nat.reduceBEq, Nat.reduceBNe, Int.reduceToNat, Int.reduceLE, Int.reduceLT, allocX, setPs, extremeA, ints, resAll, rinfOk, packR]
      simp -implicitDefEqProofs (maxSteps := 10000000) only [hw, rkA, stepA, valA, storeA, ldA, fieldAddrA, fieldA, idxAddrA, idxA, idxArr, lenA, unA, binA, num2, binV, eqA, rowOf, PV.cells, PV.cell, bndA, appA, reduceIte, reduceCtorEq, Nat.reduceAdd, Nat.reduceSub, Nat.reduceEqDiff, Nat.reduceLeDiff, Nat.reduceLT, Nat.reduceMul, Nat.reduceBEq, Nat.reduceBNe, Int.reduceToNat, Int.reduceLE, Int.reduceLT, allocX, setPs, extremeA, ints, resAll, rinfOk, packR]
      refine loopK_of (m' := m - 1) (by omega) ?_
      simp -implicitDefEqProofs (maxSteps := 10000000) only [rkA, stepA, valA, storeA, ldA, fieldAddrA, fieldA, idxAddrA, idxA, idxArr, lenA, unA, binA, num2, binV, eqA, rowOf, PV.cells, PV.cell, bndA, appA, reduceIte, reduceCtorEq, Nat.reduceAdd, Nat.reduceSub, Nat.reduceEqDiff, Nat.reduceLeDiff, Nat.reduceLT, Nat.reduceMul, Nat.reduceBEq, Nat.reduceBNe, Int.reduceToNat, Int.reduceLE, Int.reduceLT, allocX, setPs, extremeA, ints, resAll, rinfOk, packR]
      refine ⟨i + 1, by omega, ?_⟩
      rw [hnew, htk]
      simp only [Bool.false_and, Bool.true_and, List.map_append, List.map_cons, List.map_nil, Int.natCast_add, Int.natCast_one]
    | true =>
      cases b1 with
      | false =>
        simp -implicitDefEqProofs (maxSteps := 10000000) only [f1, f2, l1, l2, rkA, stepA, valA, storeA, ldA, fieldAddrA, fieldA, idxAddrA, idxA, idxArr, lenA, unA, binA, num2, binV, eqA, rowOf, PV.cells, PV.cell, bndA, appA, reduceIte, reduceCtorEq, Nat.reduceAdd, Nat.reduceSub, Nat.reduceEqDiff, Nat.reduceLeDiff, Nat.reduceLT, Nat.reduceMul, Nat.reduceBEq, Nat.reduceBNe, Int.reduceToNat, Int.reduceLE, Int.reduceLT, allocX, setPs, extremeA, ints, resAll, rinfOk, packR]
        simp -implicitDefEqProofs (maxSteps := 10000000) only [hw, rkA, stepA, valA, storeA, ldA, fieldAddrA, fieldA, idxAddrA, idxA, idxArr, lenA, unA, binA, num2, binV, eqA, rowOf, PV.cells, PV.cell, bndA, appA, reduceIte, reduceCtorEq, Nat.reduceAdd, Nat.reduceSub, Nat.reduceEqDiff, Nat.reduceLeDiff, Nat.reduceLT, Nat.reduceMul, Nat.reduceBEq, Nat.reduceBNe, Int.reduceToNat, Int.reduceLE, Int.reduceLT, allocX, setPs, extremeA, ints, resAll, rinfOk, packR]
        refine loopK_of (m' := m - 1) (by omega) ?_
        simp -implicitDefEqProofs (maxSteps := 10000000) only [rkA, stepA, valA, storeA, ldA, fieldAddrA, fieldA, idxAddrA, idxA, idxArr, lenA, unA, binA, num2, binV, eqA, rowOf, PV.cells, PV.cell, bndA, appA, reduceIte, reduceCtorEq, Nat.reduceAdd, Nat.reduceSub, Nat.reduceEqDiff, Nat.reduceLeDiff, Nat.reduceLT, Nat.reduceMul, Nat.reduceBEq, Nat.reduceBNe, Int.reduceToNat, Int.reduceLE, Int.reduceLT, allocX, setPs, extremeA, ints, resAll, rinfOk, packR]
        refine ⟨i + 1, by omega, ?_⟩
        rw [hnew, htk]
        simp only [Bool.false_and, Bool.true_and, List.map_append, List.map_cons, List.map_nil, Int.natCast_add, Int.natCast_one]
      | true =>
        simp -implicitDefEqProofs (maxSteps := 10000000) only [f1, f2, l1, l2, rkA, stepA, valA, storeA, ldA, fieldAddrA, fieldA, idxAddrA, idxA, idxArr, lenA, unA, binA, num2, binV, eqA, rowOf, PV.cells, PV.cell, bndA, appA, reduceIte, reduceCtorEq, Nat.reduceAdd, Nat.reduceSub, Nat.reduceEqDiff, Nat.reduceLeDiff, Nat.reduceLT, Nat.reduceMul, Nat.reduceBEq, Nat.reduceBNe, Int.reduceToNat, Int.reduceLE, Int.reduceLT, allocX, setPs, extremeA, ints, resAll, rinfOk, packR]
        simp -implicitDefEqProofs (maxSteps := 10000000) only [hw, rkA, stepA, valA, storeA, ldA, fieldAddrA, fieldA, idxAddrA, idxA, idxArr, lenA, unA, binA, num2, binV, eqA, rowOf, PV.cells, PV.cell, bndA, appA, reduceIte, reduceCtorEq, Nat.reduceAdd, Nat.reduceSub, Nat.reduceEqDiff, Nat.reduceLeDiff, Nat.reduceLT, Nat.reduceMul, Nat.reduceBEq, Nat.reduceBNe, Int.reduceToNat, Int.reduceLE, Int.reduceLT, allocX, setPs, extremeA, ints, resAll, rinfOk, packR]
        refine loopK_of (m' := m - 1) (by omega) ?_
        simp -implicitDefEqProofs (maxSteps := 10000000) only [rkA, stepA, valA, storeA, ldA, fieldAddrA, fieldA, idxAddrA, idxA, idxArr, lenA, unA, binA, num2, binV, eqA, rowOf, PV.cells, PV.cell, bndA, appA, reduceIte, reduceCtorEq, Nat.reduceAdd, Nat.reduceSub, Nat.reduceEqDiff, Nat.reduceLeDiff, Nat.reduceLT, Nat.reduceMul, Nat.reduceBEq, Nat.reduceBNe, Int.reduceToNat, Int.reduceLE, Int.reduceLT, allocX, setPs, extremeA, ints, resAll, rinfOk, packR]
        refine ⟨i + 1, by omega, ?_⟩
        rw [hnew, htk]
        simp only [Bool.false_and, Bool.true_and, List.map_append, List.map_cons, List.map_nil, Int.natCast_add, Int.natCast_one]
  · have hin : i = ps.length := by omega
    subst hin
    simp only [List.take_length]
    have m1 : (ps.map fun p => num (F p.1 p.2 1).1) = (ps.map fun p => (F p.1 p.2 1).1).map num := by simp
    have m2 : (ps.map fun p => num (F p.1 p.2 2).1) = (ps.map fun p => (F p.1 p.2 2).1).map num := by simp
    have n1 : (ps.map fun p => (F p.1 p.2 1).1) ≠ [] := by simpa using h1
    have n2 : (ps.map fun p => (F p.1 p.2 2).1) ≠ [] := by simpa using h1
    have k1 : (ps.map fun p => (F p.1 p.2 1).1).length ≤ 1000 := by simp; omega
    have k2 : (ps.map fun p => (F p.1 p.2 2).1).length ≤ 1000 := by simp; omega
    rw [m1, m2]
    have hres : madeE F a b ps = if ((F a.v b.v 0).2 && ps.all (okP F)) = true ∧ a.fine = true ∧ b.fine = true then ⟨(F a.v b.v 0).1, minL (ps.map fun p => (F p.1 p.2 1).1), maxL (ps.map fun p => (F p.1 p.2 2).1), false⟩ else .wrong := rfl
    generalize ((F a.v b.v 0).2 && ps.all (okP F)) = b0 at *
    cases b0 with
    | false =>
      rw [hres, if_neg (by simp)]
      simp -implicitDefEqProofs (maxSteps := 10000000) only [rkA, stepA, valA, storeA, ldA, fieldAddrA, fieldA, idxAddrA, idxA, idxArr, lenA, unA, binA, num2, binV, eqA, rowOf, PV.cells, PV.cell, bndA, appA, reduceIte, reduceCtorEq, Nat.reduceAdd, Nat.reduceSub, Nat.reduceEqDiff, Nat.reduceLeDiff, Nat.reduceLT, Nat.reduceMul, Nat.reduceBEq, Nat.reduceBNe, Int.reduceToNat, Int.reduceLE, Int.reduceLT, allocX, setPs, extremeA, ints, resAll, rinfOk, packR]
      refine call_fn rfl rfl rfl (ok57) ?_
      simp -implicitDefEqProofs (maxSteps := 10000000) only [rkA, stepA, valA, storeA, ldA, fieldAddrA, fieldA, idxAddrA, idxA, idxArr, lenA, unA, binA, num2, binV, eqA, rowOf, PV.cells, PV.cell, bndA, appA, reduceIte, reduceCtorEq, Nat.reduceAdd, Nat.reduceSub, Nat.reduceEqDiff, Nat.reduceLeDiff, Nat.reduceLT, Nat.reduceMul, Nat.reduceBEq, Nat.reduceBNe, Int.reduceToNat, Int.reduceLE, Int.reduceLT, allocX, setPs, extremeA, ints, resAll, rinfOk, packR]
    | true =>
      simp -implicitDefEqProofs (maxSteps := 10000000) only [rkA, stepA, valA, storeA, ldA, fieldAddrA, fieldA, idxAddrA, idxA, idxArr, lenA, unA, binA, num2, binV, eqA, rowOf, PV.cells, PV.cell, bndA, appA, reduceIte, reduceCtorEq, Nat.reduceAdd, Nat.reduceSub, Nat.reduceEqDiff, Nat.reduceLeDiff, Nat.reduceLT, Nat.reduceMul, Nat.reduceBEq, Nat.reduceBNe, Int.reduceToNat, Int.reduceLE, Int.reduceLT, allocX, setPs, extremeA, ints, resAll, rinfOk, packR]
      refine call_fn rfl rfl rfl (ok100 a) ?_
      cases ha : a.fine with
      | false =>
        rw [hres, if_neg (by simp [ha])]
        simp -implicitDefEqProofs (maxSteps := 10000000) only [rkA, stepA, valA, storeA, ldA, fieldAddrA, fieldA, idxAddrA, idxA, idxArr, lenA, unA, binA, num2, binV, eqA, rowOf, PV.cells, PV.cell, bndA, appA, reduceIte, reduceCtorEq, Nat.reduceAdd, Nat.reduceSub, Nat.reduceEqDiff, Nat.reduceLeDiff, Nat.reduceLT, Nat.reduceMul, Nat.reduceBEq, Nat.reduceBNe, Int.reduceToNat, Int.reduceLE, Int.reduceLT, allocX, setPs, extremeA, ints, resAll, rinfOk, packR]
        refine call_fn rfl rfl rfl (ok57) ?_
        simp -implicitDefEqProofs (maxSteps := 10000000) only [rkA, stepA, valA, storeA, ldA, fieldAddrA, fieldA, idxAddrA, idxA, idxArr, lenA, unA, binA, num2, binV, eqA, rowOf, PV.cells, PV.cell, bndA, appA, reduceIte, reduceCtorEq, Nat.reduceAdd, Nat.reduceSub, Nat.reduceEqDiff, Nat.reduceLeDiff, Nat.reduceLT, Nat.reduceMul, Nat.reduceBEq, Nat.reduceBNe, Int.reduceToNat, Int.reduceLE, Int.reduceLT, allocX, setPs, extremeA, ints, resAll, rinfOk, packR]
      | true =>
        simp -implicitDefEqProofs (maxSteps := 10000000) only [rkA, stepA, valA, storeA, ldA, fieldAddrA, fieldA, idxAddrA, idxA, idxArr, lenA, unA, binA, num2, binV, eqA, rowOf, PV.cells, PV.cell, bndA, appA, reduceIte, reduceCtorEq, Nat.reduceAdd, Nat.reduceSub, Nat.reduceEqDiff, Nat.reduceLeDiff, Nat.reduceLT, Nat.reduceMul, Nat.reduceBEq, Nat.reduceBNe, Int.reduceToNat, Int.reduceLE, Int.reduceLT, allocX, setPs, extremeA, ints, resAll, rinfOk, packR]
        refine call_fn rfl rfl rfl (ok100 b) ?_
        cases hb : b.fine with
        | false =>
          rw [hres, if_neg (by simp [hb])]
          simp -implicitDefEqProofs (maxSteps := 10000000) only [rkA, stepA, valA, storeA, ldA, fieldAddrA, fieldA, idxAddrA, idxA, idxArr, lenA, unA, binA, num2, binV, eqA, rowOf, PV.cells, PV.cell, bndA, appA, reduceIte, reduceCtorEq, Nat.reduceAdd, Nat.reduceSub, Nat.reduceEqDiff, Nat.reduceLeDiff, Nat.reduceLT, Nat.reduceMul, Nat.reduceBEq, Nat.reduceBNe, Int.reduceToNat, Int.reduceLE, Int.reduceLT, allocX, setPs, extremeA, ints, resAll, rinfOk, packR]
          refine call_fn rfl rfl rfl (ok57) ?_
          simp -implicitDefEqProofs (maxSteps := 10000000) only [rkA, stepA, valA, storeA, ldA, fieldAddrA, fieldA, idxAddrA, idxA, idxArr, lenA, unA, binA, num2, binV, eqA, rowOf, PV.cells, PV.cell, bndA, appA, reduceIte, reduceCtorEq, Nat.reduceAdd, Nat.reduceSub, Nat.reduceEqDiff, Nat.reduceLeDiff, Nat.reduceLT, Nat.reduceMul, Nat.reduceBEq, Nat.reduceBNe, Int.reduceToNat, Int.reduceLE, Int.reduceLT, allocX, setPs, extremeA, ints, resAll, rinfOk, packR]
        | true =>
          rw [hres, if_pos ⟨rfl, ha, hb⟩]
          simp -implicitDefEqProofs (maxSteps := 10000000) only [rkA, stepA, valA, storeA, ldA, fieldAddrA, fieldA, idxAddrA, idxA, idxArr, lenA, unA, binA, num2, binV, eqA, rowOf, PV.cells, PV.cell, bndA, appA, reduceIte, reduceCtorEq, Nat.reduceAdd, Nat.reduceSub, Nat.reduceEqDiff, Nat.reduceLeDiff, Nat.reduceLT, Nat.reduceMul, Nat.reduceBEq, Nat.reduceBNe, Int.reduceToNat, Int.reduceLE, Int.reduceLT, allocX, setPs, extremeA, ints, resAll, rinfOk, packR]
          refine call_fn rfl rfl rfl (ok166 _ _ n1 k1) ?_
          simp -implicitDefEqProofs (maxSteps := 10000000) only [rkA, stepA, valA, storeA, ldA, fieldAddrA, fieldA, idxAddrA, idxA, idxArr, lenA, unA, binA, num2, binV, eqA, rowOf, PV.cells, PV.cell, bndA, appA, reduceIte, reduceCtorEq, Nat.reduceAdd, Nat.reduceSub, Nat.reduceEqDiff, Nat.reduceLeDiff, Nat.reduceLT, Nat.reduceMul, Nat.reduceBEq, Nat.reduceBNe, Int.reduceToNat, Int.reduceLE, Int.reduceLT, allocX, setPs, extremeA, ints, resAll, rinfOk, packR]
          refine call_fn rfl rfl rfl (ok167 _ _ n2 k2) ?_
          simp -implicitDefEqProofs (maxSteps := 10000000) only [rkA, stepA, valA, storeA, ldA, fieldAddrA, fieldA, idxAddrA, idxA, idxArr, lenA, unA, binA, num2, binV, eqA, rowOf, PV.cells, PV.cell, bndA, appA, reduceIte, reduceCtorEq, Nat.reduceAdd, Nat.reduceSub, Nat.reduceEqDiff, Nat.reduceLeDiff, Nat.reduceLT, Nat.reduceMul, Nat.reduceBEq, Nat.reduceBNe, Int.reduceToNat, Int.reduceLE, Int.reduceLT, allocX, setPs, extremeA, ints, resAll, rinfOk, packR]

/-! ### Sums, products .. -/
def allP (a b : Fr) : List (Int × Int) := [(a.lo, b.lo), (a.lo, b.hi), (a.hi, b.lo), (a.hi, b.hi)]
def addF (a b : Fr) : Fr := madeE (fun x y _ => addX x y) a b [(a.lo, b.lo), (a.hi, b.hi)]
def subF (a b : Fr) : Fr := madeE (fun x y _ => subX x y) a b [(a.lo, b.hi), (a.hi, b.lo)]
def mulF (a b : Fr) : Fr := madeE mulX a b (allP a b)
def divF (a b : Fr) : Fr := if b.lo ≤ 0 ∧ b.hi ≥ 0 then .wrong else madeE divX a b (allP a b)
theorem ok162 (a b : Fr) : Ok Tryz.prog 162 [frV a, frV b] (.sl true ((allP a b).map prV)) := by
  refine ok_fn mixed Tryz.func162 (code := ?_) (h := h162) ?_ k162 ?_
  rotate_left
  · exact rfl
  unfold h162 initS
  simp -implicitDefEqProofs (maxSteps := 10000000) only [rkA, stepA, valA, storeA, ldA, fieldAddrA, fieldA, idxAddrA, idxA, idxArr, lenA, unA, binA, num2, binV, eqA, rowOf, PV.cells, PV.cell, bndA, appA, reduceIte, reduceCtorEq, Nat.reduceAdd, Nat.reduceSub, Nat.reduceEqDiff, Nat.reduceLeDiff, Nat.reduceLT, Nat.reduceMul, Nat.reduceBEq, Nat.reduceBNe, Int.reduceToNat, Int.reduceLE, Int.reduceLT, allocX, setPs, extremeA, ints, resAll, rinfOk, packR, Tryz.ntmps162, Tryz.results162]
  rfl
theorem ok158 (x y m : Int) : Ok Tryz.prog 158 [num x, num y, num m] (.tup [num (addX x y).1, tru (addX x y).2]) := by
  refine ok_fn mixed Tryz.func158 (code := ?_) (h := h158) ?_ k158 ?_
  rotate_left
  · exact rfl
  unfold h158 initS
  simp -implicitDefEqProofs (maxSteps := 10000000) only [rkA, stepA, valA, storeA, ldA, fieldAddrA, fieldA, idxAddrA, idxA, idxArr, lenA, unA, binA, num2, binV, eqA, rowOf, PV.cells, PV.cell, bndA, appA, reduceIte, reduceCtorEq, Nat.reduceAdd, Nat.reduceSub, Nat.reduceEqDiff, Nat.reduceLeDiff, Nat.reduceLT, Nat.reduceMul, Nat.reduceBEq, Nat.reduceBNe, Int.reduceToNat, Int.reduceLE, Int.reduceLT, allocX, setPs, extremeA, ints, resAll, rinfOk, packR, Tryz.ntmps158, Tryz.results158]
  refine call_fn rfl rfl rfl (ok159 x y) ?_
  simp -implicitDefEqProofs (maxSteps := 10000000) only [rkA, stepA, valA, storeA, ldA, fieldAddrA, fieldA, idxAddrA, idxA, idxArr, lenA, unA, binA, num2, binV, eqA, rowOf, PV.cells, PV.cell, bndA, appA, reduceIte, reduceCtorEq, Nat.reduceAdd, Nat.reduceSub, Nat.reduceEqDiff, Nat.reduceLeDiff, Nat.reduceLT, Nat.reduceMul, Nat.reduceBEq, Nat.reduceBNe, Int.reduceToNat, Int.reduceLE, Int.reduceLT, allocX, setPs, extremeA, ints, resAll, rinfOk, packR]
theorem ok164 (x y m : Int) : Ok Tryz.prog 164 [num x, num y, num m] (.tup [num (subX x y).1, tru (subX x y).2]) := by
  refine ok_fn mixed Tryz.func164 (code := ?_) (h := h164) ?_ k164 ?_
  rotate_left
  · exact rfl
  unfold h164 initS
  simp -implicitDefEqProofs (maxSteps := 10000000) only [rkA, stepA, valA, storeA, ldA, fieldAddrA, fieldA, idxAddrA, idxA, idxArr, lenA, unA, binA, num2, binV, eqA, rowOf, PV.cells, PV.cell, bndA, appA, reduceIte, reduceCtorEq, Nat.reduceAdd, Nat.reduceSub, Nat.reduceEqDiff, Nat.reduceLeDiff, Nat.reduceLT, Nat.reduceMul, Nat.reduceBEq, Nat.reduceBNe, Int.reduceToNat, Int.reduceLE, Int.reduceLT, allocX, setPs, extremeA, ints, resAll, rinfOk, packR, Tryz.ntmps164, Tryz.results164]
  refine call_fn rfl rfl rfl (ok165 x y) ?_
  simp -implicitDefEqProofs (maxSteps := 10000000) only [rkA, stepA, valA, storeA, ldA, fieldAddrA, fieldA, idxAddrA, idxA, idxArr, lenA, unA, binA, num2, binV, eqA, rowOf, PV.cells, PV.cell, bndA, appA, reduceIte, reduceCtorEq, Nat.reduceAdd, Nat.reduceSub, Nat.reduceEqDiff, Nat.reduceLeDiff, Nat.reduceLT, Nat.reduceMul, Nat.reduceBEq, Nat.reduceBNe, Int.reduceToNat, Int.reduceLE, Int.reduceLT, allocX, setPs, extremeA, ints, resAll, rinfOk, packR]
theorem ok154 (a b : Fr) : Ok Tryz.prog 154 [frV a, frV b] (frV (addF a b)) := by
  have h := ok160 _ _ (fun x y m => ok158 x y m) a b true [(a.lo, b.lo), (a.hi, b.hi)] (by simp) (by simp)
  refine ok_fn mixed Tryz.func154 (code := ?_) (h := h154) ?_ k154 ?_
  rotate_left
  · exact rfl
  unfold h154 initS
  simp -implicitDefEqProofs (maxSteps := 10000000) only [rkA, stepA, valA, storeA, ldA, fieldAddrA, fieldA, idxAddrA, idxA, idxArr, lenA, unA, binA, num2, binV, eqA, rowOf, PV.cells, PV.cell, bndA, appA, reduceIte, reduceCtorEq, Nat.reduceAdd, Nat.reduceSub, Nat.reduceEqDiff, Nat.reduceLeDiff, Nat.reduceLT, Nat.reduceMul, Nat.reduceBEq, Nat.reduceBNe, Int.reduceToNat, Int.reduceLE, Int.reduceLT, allocX, setPs, extremeA, ints, resAll, rinfOk, packR, Tryz.ntmps154, Tryz.results154]
  refine call_fn rfl rfl rfl (h) ?_
  simp -implicitDefEqProofs (maxSteps := 10000000) only [rkA, stepA, valA, storeA, ldA, fieldAddrA, fieldA, idxAddrA, idxA, idxArr, lenA, unA, binA, num2, binV, eqA, rowOf, PV.cells, PV.cell, bndA, appA, reduceIte, reduceCtorEq, Nat.reduceAdd, Nat.reduceSub, Nat.reduceEqDiff, Nat.reduceLeDiff, Nat.reduceLT, Nat.reduceMul, Nat.reduceBEq, Nat.reduceBNe, Int.reduceToNat, Int.reduceLE, Int.reduceLT, allocX, setPs, extremeA, ints, resAll, rinfOk, packR, addF]
theorem ok157 (a b : Fr) : Ok Tryz.prog 157 [frV a, frV b] (frV (subF a b)) := by
  have h := ok160 _ _ (fun x y m => ok164 x y m) a b true [(a.lo, b.hi), (a.hi, b.lo)] (by simp) (by simp)
  refine ok_fn mixed Tryz.func157 (code := ?_) (h := h157) ?_ k157 ?_
  rotate_left
  · exact rfl
  unfold h157 initS
  simp -implicitDefEqProofs (maxSteps := 10000000) only [rkA, stepA, valA, storeA, ldA, fieldAddrA, fieldA, idxAddrA, idxA, idxArr, lenA, unA, binA, num2, binV, eqA, rowOf, PV.cells, PV.cell, bndA, appA, reduceIte, reduceCtorEq, Nat.reduceAdd, Nat.reduceSub, Nat.reduceEqDiff, Nat.reduceLeDiff, Nat.reduceLT, Nat.reduceMul, Nat.reduceBEq, Nat.reduceBNe, Int.reduceToNat, Int.reduceLE, Int.reduceLT, allocX, setPs, extremeA, ints, resAll, rinfOk, packR, Tryz.ntmps157, Tryz.results157]
  refine call_fn rfl rfl rfl (h) ?_
  simp -implicitDefEqProofs (maxSteps := 10000000) only [rkA, stepA, valA, storeA, ldA, fieldAddrA, fieldA, idxAddrA, idxA, idxArr, lenA, unA, binA, num2, binV, eqA, rowOf, PV.cells, PV.cell, bndA, appA, reduceIte, reduceCtorEq, Nat.reduceAdd, Nat.reduceSub, Nat.reduceEqDiff, Nat.reduceLeDiff, Nat.reduceLT, Nat.reduceMul, Nat.reduceBEq, Nat.reduceBNe, Int.reduceToNat, Int.reduceLE, Int.reduceLT, allocX, setPs, extremeA, ints, resAll, rinfOk, packR, subF]
theorem ok156 (a b : Fr) : Ok Tryz.prog 156 [frV a, frV b] (frV (mulF a b)) := by
  have h := ok160 _ _ ok163 a b true (allP a b) (by simp [allP]) (by simp [allP])
  refine ok_fn mixed Tryz.func156 (code := ?_) (h := h156) ?_ k156 ?_
  rotate_left
  · exact rfl
  unfold h156 initS
  simp -implicitDefEqProofs (maxSteps := 10000000) only [rkA, stepA, valA, storeA, ldA, fieldAddrA, fieldA, idxAddrA, idxA, idxArr, lenA, unA, binA, num2, binV, eqA, rowOf, PV.cells, PV.cell, bndA, appA, reduceIte, reduceCtorEq, Nat.reduceAdd, Nat.reduceSub, Nat.reduceEqDiff, Nat.reduceLeDiff, Nat.reduceLT, Nat.reduceMul, Nat.reduceBEq, Nat.reduceBNe, Int.reduceToNat, Int.reduceLE, Int.reduceLT, allocX, setPs, extremeA, ints, resAll, rinfOk, packR, Tryz.ntmps156, Tryz.results156]
  refine call_fn rfl rfl rfl (ok162 a b) ?_
  simp -implicitDefEqProofs (maxSteps := 10000000) only [rkA, stepA, valA, storeA, ldA, fieldAddrA, fieldA, idxAddrA, idxA, idxArr, lenA, unA, binA, num2, binV, eqA, rowOf, PV.cells, PV.cell, bndA, appA, reduceIte, reduceCtorEq, Nat.reduceAdd, Nat.reduceSub, Nat.reduceEqDiff, Nat.reduceLeDiff, Nat.reduceLT, Nat.reduceMul, Nat.reduceBEq, Nat.reduceBNe, Int.reduceToNat, Int.reduceLE, Int.reduceLT, allocX, setPs, extremeA, ints, resAll, rinfOk, packR]
  refine call_fn rfl rfl rfl (h) ?_
  simp -implicitDefEqProofs (maxSteps := 10000000) only [rkA, stepA, valA, storeA, ldA, fieldAddrA, fieldA, idxAddrA, idxA, idxArr, lenA, unA, binA, num2, binV, eqA, rowOf, PV.cells, PV.cell, bndA, appA, reduceIte, reduceCtorEq, Nat.reduceAdd, Nat.reduceSub, Nat.reduceEqDiff, Nat.reduceLeDiff, Nat.reduceLT, Nat.reduceMul, Nat.reduceBEq, Nat.reduceBNe, Int.reduceToNat, Int.reduceLE, Int.reduceLT, allocX, setPs, extremeA, ints, resAll, rinfOk, packR, mulF]
theorem ok155 (a b : Fr) : Ok Tryz.prog 155 [frV a, frV b] (frV (divF a b)) := by
  have h := ok160 _ _ ok161 a b true (allP a b) (by simp [allP]) (by simp [allP])
  refine ok_fn mixed Tryz.func155 (code := ?_) (h := h155) ?_ k155 ?_
  rotate_left
  · exact rfl
  unfold h155 initS
  simp -implicitDefEqProofs (maxSteps := 10000000) only [rkA, stepA, valA, storeA, ldA, fieldAddrA, fieldA, idxAddrA, idxA, idxArr, lenA, unA, binA, num2, binV, eqA, rowOf, PV.cells, PV.cell, bndA, appA, reduceIte, reduceCtorEq, Nat.reduceAdd, Nat.reduceSub, Nat.reduceEqDiff, Nat.reduceLeDiff, Nat.reduceLT, Nat.reduceMul, Nat.reduceBEq, Nat.reduceBNe, Int.reduceToNat, Int.reduceLE, Int.reduceLT, allocX, setPs, extremeA, ints, resAll, rinfOk, packR, Tryz.ntmps155, Tryz.results155]
  by_cases h1 : b.lo ≤ 0
  · by_cases h2 : b.hi ≥ 0
    · simp -implicitDefEqProofs (maxSteps := 10000000) only [h1, h2, rkA, stepA, valA, storeA, ldA, fieldAddrA, fieldA, idxAddrA, idxA, idxArr, lenA, unA, binA, num2, binV, eqA, rowOf, PV.cells, PV.cell, bndA, appA, reduceIte, reduceCtorEq, Nat.reduceAdd, Nat.reduceSub, Nat.reduceEqDiff, Nat.reduceLeDiff, Nat.reduceLT, Nat.reduceMul, Nat.reduceBEq, Nat.reduceBNe, Int.reduceToNat, Int.reduceLE, Int.reduceLT, allocX, setPs, extremeA, ints, resAll, rinfOk, packR]
      refine call_fn rfl rfl rfl (ok57) ?_
      simp -implicitDefEqProofs (maxSteps := 10000000) only [divF, h1, h2, rkA, stepA, valA, storeA, ldA, fieldAddrA, fieldA, idxAddrA, idxA, idxArr, lenA, unA, binA, num2, binV, eqA, rowOf, PV.cells, PV.cell, bndA, appA, reduceIte, reduceCtorEq, Nat.reduceAdd, Nat.reduceSub, Nat.reduceEqDiff, Nat.reduceLeDiff, Nat.reduceLT, Nat.reduceMul, Nat.reduceBEq, Nat.reduceBNe, Int.reduceToNat, Int.reduceLE, Int.reduceLT, allocX, setPs, extremeA, ints, resAll, rinfOk, packR]
    · simp -implicitDefEqProofs (maxSteps := 10000000) only [h1, h2, rkA, stepA, valA, storeA, ldA, fieldAddrA, fieldA, idxAddrA, idxA, idxArr, lenA, unA, binA, num2, binV, eqA, rowOf, PV.cells, PV.cell, bndA, appA, reduceIte, reduceCtorEq, Nat.reduceAdd, Nat.reduceSub, Nat.reduceEqDiff, Nat.reduceLeDiff, Nat.reduceLT, Nat.reduceMul, Nat.reduceBEq, Nat.reduceBNe, Int.reduceToNat, Int.reduceLE, Int.reduceLT, allocX, setPs, extremeA, ints, resAll, rinfOk, packR]
      refine call_fn rfl rfl rfl (ok162 a b) ?_
      simp -implicitDefEqProofs (maxSteps := 10000000) only [rkA, stepA, valA, storeA, ldA, fieldAddrA, fieldA, idxAddrA, idxA, idxArr, lenA, unA, binA, num2, binV, eqA, rowOf, PV.cells, PV.cell, bndA, appA, reduceIte, reduceCtorEq, Nat.reduceAdd, Nat.reduceSub, Nat.reduceEqDiff, Nat.reduceLeDiff, Nat.reduceLT, Nat.reduceMul, Nat.reduceBEq, Nat.reduceBNe, Int.reduceToNat, Int.reduceLE, Int.reduceLT, allocX, setPs, extremeA, ints, resAll, rinfOk, packR]
      refine call_fn rfl rfl rfl (h) ?_
      simp -implicitDefEqProofs (maxSteps := 10000000) only [divF, h2, rkA, stepA, valA, storeA, ldA, fieldAddrA, fieldA, idxAddrA, idxA, idxArr, lenA, unA, binA, num2, binV, eqA, rowOf, PV.cells, PV.cell, bndA, appA, reduceIte, reduceCtorEq, Nat.reduceAdd, Nat.reduceSub, Nat.reduceEqDiff, Nat.reduceLeDiff, Nat.reduceLT, Nat.reduceMul, Nat.reduceBEq, Nat.reduceBNe, Int.reduceToNat, Int.reduceLE, Int.reduceLT, allocX, setPs, extremeA, ints, resAll, rinfOk, packR]
  · simp -implicitDefEqProofs (maxSteps := 10000000) only [h1, rkA, stepA, valA, storeA, ldA, fieldAddrA, fieldA, idxAddrA, idxA, idxArr, lenA, unA, binA, num2, binV, eqA, rowOf, PV.cells, PV.cell, bndA, appA, reduceIte, reduceCtorEq, Nat.reduceAdd, Nat.reduceSub, Nat.reduceEqDiff, Nat.reduceLeDiff, Nat.reduceLT, Nat.reduceMul, Nat.reduceBEq, Nat.reduceBNe, Int.reduceToNat, Int.reduceLE, Int.reduceLT, allocX, setPs, extremeA, ints, resAll, rinfOk, packR]
    refine call_fn rfl rfl rfl (ok162 a b) ?_
    simp -implicitDefEqProofs (maxSteps := 10000000) only [rkA, stepA, valA, storeA, ldA, fieldAddrA, fieldA, idxAddrA, idxA, idxArr, lenA, unA, binA, num2, binV, eqA, rowOf, PV.cells, PV.cell, bndA, appA, reduceIte, reduceCtorEq, Nat.reduceAdd, Nat.reduceSub, Nat.reduceEqDiff, Nat.reduceLeDiff, Nat.reduceLT, Nat.reduceMul, Nat.reduceBEq, Nat.reduceBNe, Int.reduceToNat, Int.reduceLE, Int.reduceLT, allocX, setPs, extremeA, ints, resAll, rinfOk, packR]
    refine call_fn rfl rfl rfl (h) ?_
    simp -implicitDefEqProofs (maxSteps := 10000000) only [divF, h1, rkA, stepA, valA, storeA, ldA, fieldAddrA, fieldA, idxAddrA, idxA, idxArr, lenA, unA, binA, num2, binV, eqA, rowOf, PV.cells, PV.cell, bndA, appA, reduceIte, reduceCtorEq, Nat.reduceAdd, Nat.reduceSub, Nat.reduceEqDiff, Nat.reduceLeDiff, Nat.reduceLT, Nat.reduceMul, Nat.reduceBEq, Nat.reduceBNe, Int.reduceToNat, Int.reduceLE, Int.reduceLT, allocX, setPs, extremeA, ints, resAll, rinfOk, packR]
end Go.Proofs.YtipchjfcjbghnaaGreat.A.E


set_option linter.unusedVariables false
set_option linter.unusedSimpArgs false
set_option maxRecDepth 100000
namespace Go.Proofs.YtipchjfcjbghnaaGreat.A.E
open Go Go.RowKit Go.Shelf

theorem ok74 (n : Int) : Ok Tryz.prog 74 [num n] (tru (decide (1 ≤ n ∧ n ≤ 16))) := by
  refine ok_fn mixed Tryz.func74 (code := ?_) (h := h74) ?_ k74 ?_
  rotate_left
  · exact rfl
  unfold h74 initS
  simp -implicitDefEqProofs only [rkA, stepA, valA, storeA, ldA, fieldAddrA, fieldA, idxAddrA, idxA, idxArr, lenA, unA, binA, num2, binV, eqA, rowOf, PV.cells, PV.cell, bndA, appA, reduceIte, reduceCtorEq, Nat.reduceAdd, Nat.reduceSub, Nat.reduceEqDiff, Nat.reduceLeDiff, Nat.reduceLT, Nat.reduceMul, Nat.reduceBEq, Nat.reduceBNe, Int.reduceToNat, Int.reduceLE, Int.reduceLT, allocX, setPs, extremeA, ints, resAll, rinfOk, packR, Tryz.ntmps74, Tryz.results74]
  repeat' (refine gB_dec ?_ ?_ <;> intro hc <;> first | (exfalso; omega) | simp -implicitDefEqProofs only [hc, rkA, stepA, valA, storeA, ldA, fieldAddrA, fieldA, idxAddrA, idxA, idxArr, lenA, unA, binA, num2, binV, eqA, rowOf, PV.cells, PV.cell, bndA, appA, reduceIte, reduceCtorEq, Nat.reduceAdd, Nat.reduceSub, Nat.reduceEqDiff, Nat.reduceLeDiff, Nat.reduceLT, Nat.reduceMul, Nat.reduceBEq, Nat.reduceBNe, Int.reduceToNat, Int.reduceLE, Int.reduceLT, allocX, setPs, extremeA, ints, resAll, rinfOk, packR])

end Go.Proofs.YtipchjfcjbghnaaGreat.A.E


set_option linter.unusedVariables false
set_option linter.unusedSimpArgs false
set_option maxRecDepth 100000
namespace Go.Proofs.YtipchjfcjbghnaaGreat.A.E
open Go Go.RowKit Go.Shelf

abbrev frs (l : List Fr) : List PV := l.map frV

theorem fits_frs {k l : List Fr} (h : k.length + l.length ≤ 4398046511104) : fits 4 32 (frs k) (frs l) = true := by
  simp [fits, PV.cells, PV.ok, PV.cell, Value.oneCell']
  omega

theorem ok32 (ex : Bool) (l : List Fr) (h : l.length ≤ 4398046511104) : Ok Tryz.prog 32 [.sl ex (frs l)] (.sl false (frs l)) := by
  have hfit : fits 4 32 [] (frs l) = true := fits_frs (k := []) (l := l) (by simpa using h)
  refine ok_fn mixed Tryz.func32 (code := ?_) (h := h32) ?_ k32 ?_
  rotate_left
  · exact rfl
  unfold h32 initS
  simp -implicitDefEqProofs only [rkA, stepA, valA, storeA, ldA, fieldAddrA, fieldA, idxAddrA, idxA, idxArr, lenA, unA, binA, num2, binV, eqA, rowOf, PV.cells, PV.cell, bndA, appA, reduceIte, reduceCtorEq, Nat.reduceAdd, Nat.reduceSub, Nat.reduceEqDiff, Nat.reduceLeDiff, Nat.reduceLT, Nat.reduceMul, Nat.reduceBEq, Nat.reduceBNe, Int.reduceToNat, Int.reduceLE, Int.reduceLT, allocX, setPs, extremeA, ints, resAll, rinfOk, packR, Tryz.ntmps32, Tryz.results32]
  refine nilA_sl (some 4) (.tmp 3) rfl ?_
  intro b hb
  cases b with
  | true =>
    simp -implicitDefEqProofs only [rkA, stepA, valA, storeA, ldA, fieldAddrA, fieldA, idxAddrA, idxA, idxArr, lenA, unA, binA, num2, binV, eqA, rowOf, PV.cells, PV.cell, bndA, appA, reduceIte, reduceCtorEq, Nat.reduceAdd, Nat.reduceSub, Nat.reduceEqDiff, Nat.reduceLeDiff, Nat.reduceLT, Nat.reduceMul, Nat.reduceBEq, Nat.reduceBNe, Int.reduceToNat, Int.reduceLE, Int.reduceLT, allocX, setPs, extremeA, ints, resAll, rinfOk, packR]
    have : l = [] := by
      cases l with
      | nil => rfl
      | cons x l => simp at hb
    subst this
    simp
  | false =>
    simp -implicitDefEqProofs only [hfit, rkA, stepA, valA, storeA, ldA, fieldAddrA, fieldA, idxAddrA, idxA, idxArr, lenA, unA, binA, num2, binV, eqA, rowOf, PV.cells, PV.cell, bndA, appA, reduceIte, reduceCtorEq, Nat.reduceAdd, Nat.reduceSub, Nat.reduceEqDiff, Nat.reduceLeDiff, Nat.reduceLT, Nat.reduceMul, Nat.reduceBEq, Nat.reduceBNe, Int.reduceToNat, Int.reduceLE, Int.reduceLT, allocX, setPs, extremeA, ints, resAll, rinfOk, packR]

theorem ok33 (ex : Bool) (r c : Int) (l : List PV) : Ok Tryz.prog 33 [matV ex r c l] (tru (right r c l.length)) := by
  refine ok_fn mixed Tryz.func33 (code := ?_) (h := h33) ?_ k33 ?_
  rotate_left
  · exact rfl
  unfold h33 initS
  simp -implicitDefEqProofs only [rkA, stepA, valA, storeA, ldA, fieldAddrA, fieldA, idxAddrA, idxA, idxArr, lenA, unA, binA, num2, binV, eqA, rowOf, PV.cells, PV.cell, bndA, appA, reduceIte, reduceCtorEq, Nat.reduceAdd, Nat.reduceSub, Nat.reduceEqDiff, Nat.reduceLeDiff, Nat.reduceLT, Nat.reduceMul, Nat.reduceBEq, Nat.reduceBNe, Int.reduceToNat, Int.reduceLE, Int.reduceLT, allocX, setPs, extremeA, ints, resAll, rinfOk, packR, Tryz.ntmps33, Tryz.results33]
  refine call_fn rfl rfl rfl (ok74 r) ?_
  by_cases hr : 1 ≤ r ∧ r ≤ 16
  · simp -implicitDefEqProofs only [hr, rkA, stepA, valA, storeA, ldA, fieldAddrA, fieldA, idxAddrA, idxA, idxArr, lenA, unA, binA, num2, binV, eqA, rowOf, PV.cells, PV.cell, bndA, appA, reduceIte, reduceCtorEq, Nat.reduceAdd, Nat.reduceSub, Nat.reduceEqDiff, Nat.reduceLeDiff, Nat.reduceLT, Nat.reduceMul, Nat.reduceBEq, Nat.reduceBNe, Int.reduceToNat, Int.reduceLE, Int.reduceLT, allocX, setPs, extremeA, ints, resAll, rinfOk, packR]
    refine call_fn rfl rfl rfl (ok74 c) ?_
    by_cases hc : 1 ≤ c ∧ c ≤ 16
    · have hm : 0 ≤ r * c ∧ r * c ≤ 256 := by
        have h1 : (r * c).natAbs = r.natAbs * c.natAbs := Int.natAbs_mul r c
        have h2 : r.natAbs * c.natAbs ≤ 16 * 16 := Nat.mul_le_mul (by omega) (by omega)
        have h3 : 0 ≤ r * c := Int.mul_nonneg (by omega) (by omega)
        omega
      have w := wrapped (x := r * c) (by omega) (by omega)
      simp -implicitDefEqProofs only [hc, w, rkA, stepA, valA, storeA, ldA, fieldAddrA, fieldA, idxAddrA, idxA, idxArr, lenA, unA, binA, num2, binV, eqA, rowOf, PV.cells, PV.cell, bndA, appA, reduceIte, reduceCtorEq, Nat.reduceAdd, Nat.reduceSub, Nat.reduceEqDiff, Nat.reduceLeDiff, Nat.reduceLT, Nat.reduceMul, Nat.reduceBEq, Nat.reduceBNe, Int.reduceToNat, Int.reduceLE, Int.reduceLT, allocX, setPs, extremeA, ints, resAll, rinfOk, packR]
      simp [right, hr, hc]
    · simp -implicitDefEqProofs only [hc, rkA, stepA, valA, storeA, ldA, fieldAddrA, fieldA, idxAddrA, idxA, idxArr, lenA, unA, binA, num2, binV, eqA, rowOf, PV.cells, PV.cell, bndA, appA, reduceIte, reduceCtorEq, Nat.reduceAdd, Nat.reduceSub, Nat.reduceEqDiff, Nat.reduceLeDiff, Nat.reduceLT, Nat.reduceMul, Nat.reduceBEq, Nat.reduceBNe, Int.reduceToNat, Int.reduceLE, Int.reduceLT, allocX, setPs, extremeA, ints, resAll, rinfOk, packR]
      simp [right, hr, hc]
  · simp -implicitDefEqProofs only [hr, rkA, stepA, valA, storeA, ldA, fieldAddrA, fieldA, idxAddrA, idxA, idxArr, lenA, unA, binA, num2, binV, eqA, rowOf, PV.cells, PV.cell, bndA, appA, reduceIte, reduceCtorEq, Nat.reduceAdd, Nat.reduceSub, Nat.reduceEqDiff, Nat.reduceLeDiff, Nat.reduceLT, Nat.reduceMul, Nat.reduceBEq, Nat.reduceBNe, Int.reduceToNat, Int.reduceLE, Int.reduceLT, allocX, setPs, extremeA, ints, resAll, rinfOk, packR]
    simp [right, hr]

theorem ok7 (r c : Int) (ex : Bool) (l : List Fr) (h : l.length ≤ 4398046511104) :
    Ok Tryz.prog 7 [num r, num c, .sl ex (frs l)] (if right r c l.length = true then .tup [matV false r c (frs l), tru true] else .tup [matNil, tru false]) := by
  refine ok_fn mixed Tryz.func7 (code := ?_) (h := h7) ?_ k7 ?_
  rotate_left
  · exact rfl
  unfold h7 initS
  simp -implicitDefEqProofs only [rkA, stepA, valA, storeA, ldA, fieldAddrA, fieldA, idxAddrA, idxA, idxArr, lenA, unA, binA, num2, binV, eqA, rowOf, PV.cells, PV.cell, bndA, appA, reduceIte, reduceCtorEq, Nat.reduceAdd, Nat.reduceSub, Nat.reduceEqDiff, Nat.reduceLeDiff, Nat.reduceLT, Nat.reduceMul, Nat.reduceBEq, Nat.reduceBNe, Int.reduceToNat, Int.reduceLE, Int.reduceLT, allocX, setPs, extremeA, ints, resAll, rinfOk, packR, Tryz.ntmps7, Tryz.results7]
  refine call_fn rfl rfl rfl (ok32 ex l h) ?_
  simp -implicitDefEqProofs only [rkA, stepA, valA, storeA, ldA, fieldAddrA, fieldA, idxAddrA, idxA, idxArr, lenA, unA, binA, num2, binV, eqA, rowOf, PV.cells, PV.cell, bndA, appA, reduceIte, reduceCtorEq, Nat.reduceAdd, Nat.reduceSub, Nat.reduceEqDiff, Nat.reduceLeDiff, Nat.reduceLT, Nat.reduceMul, Nat.reduceBEq, Nat.reduceBNe, Int.reduceToNat, Int.reduceLE, Int.reduceLT, allocX, setPs, extremeA, ints, resAll, rinfOk, packR]
  refine call_fn rfl rfl rfl (ok33 false r c (frs l)) ?_
  have e : (frs l).length = l.length := by simp
  rw [e]
  cases hr : right r c l.length with
  | true => simp -implicitDefEqProofs only [rkA, stepA, valA, storeA, ldA, fieldAddrA, fieldA, idxAddrA, idxA, idxArr, lenA, unA, binA, num2, binV, eqA, rowOf, PV.cells, PV.cell, bndA, appA, reduceIte, reduceCtorEq, Nat.reduceAdd, Nat.reduceSub, Nat.reduceEqDiff, Nat.reduceLeDiff, Nat.reduceLT, Nat.reduceMul, Nat.reduceBEq, Nat.reduceBNe, Int.reduceToNat, Int.reduceLE, Int.reduceLT, allocX, setPs, extremeA, ints, resAll, rinfOk, packR]
  | false => simp -implicitDefEqProofs only [rkA, stepA, valA, storeA, ldA, fieldAddrA, fieldA, idxAddrA, idxA, idxArr, lenA, unA, binA, num2, binV, eqA, rowOf, PV.cells, PV.cell, bndA, appA, reduceIte, reduceCtorEq, Nat.reduceAdd, Nat.reduceSub, Nat.reduceEqDiff, Nat.reduceLeDiff, Nat.reduceLT, Nat.reduceMul, Nat.reduceBEq, Nat.reduceBNe, Int.reduceToNat, Int.reduceLE, Int.reduceLT, allocX, setPs, extremeA, ints, resAll, rinfOk, packR]

theorem methOf : Meth Tryz.prog 24 "Of" 23 := by
  intro v xs w
  rfl

theorem ok21 (ex : Bool) (xs : List Int) (h : xs.length ≤ 4398046511104) : Ok Tryz.prog 21 [.sl ex (xs.map num)] (.sl false (frs (xs.map (newF · 1)))) := by
  refine ok_fn mixed Tryz.func21 (code := ?_) (h := h21) ?_ k21 ?_
  rotate_left
  · exact rfl
  unfold h21 initS
  simp -implicitDefEqProofs only [rkA, stepA, valA, storeA, ldA, fieldAddrA, fieldA, idxAddrA, idxA, idxArr, lenA, unA, binA, num2, binV, eqA, rowOf, PV.cells, PV.cell, bndA, appA, reduceIte, reduceCtorEq, Nat.reduceAdd, Nat.reduceSub, Nat.reduceEqDiff, Nat.reduceLeDiff, Nat.reduceLT, Nat.reduceMul, Nat.reduceBEq, Nat.reduceBNe, Int.reduceToNat, Int.reduceLE, Int.reduceLT, allocX, setPs, extremeA, ints, resAll, rinfOk, packR, Tryz.ntmps21, Tryz.results21]
  refine wp_loop (fun m s => ∃ i, i + m = xs.length ∧ s = ⟨[jk, jk, jk, .acc 3 (frs ((xs.take i).map (newF · 1))), .ptr 4 0, jk, jk, .v (.sl ex (xs.map num)), nt xs.length, nt i, jk, jk, jk, jk, jk, jk, jk, jk, jk, jk, jk, jk],
    [(4, [nt 0, nt 0, nt 0, .v (tru false)])], [], [(2, 0), (3, i)], [], 0, nomem⟩) xs.length ?_ ?_
  · simp -implicitDefEqProofs only [rkA, stepA, valA, storeA, ldA, fieldAddrA, fieldA, idxAddrA, idxA, idxArr, lenA, unA, binA, num2, binV, eqA, rowOf, PV.cells, PV.cell, bndA, appA, reduceIte, reduceCtorEq, Nat.reduceAdd, Nat.reduceSub, Nat.reduceEqDiff, Nat.reduceLeDiff, Nat.reduceLT, Nat.reduceMul, Nat.reduceBEq, Nat.reduceBNe, Int.reduceToNat, Int.reduceLE, Int.reduceLT, allocX, setPs, extremeA, ints, resAll, rinfOk, packR]
    refine ⟨0, by simp, ?_⟩
    simp
  rintro m s ⟨i, hi, rfl⟩
  simp -implicitDefEqProofs only [rkA, stepA, valA, storeA, ldA, fieldAddrA, fieldA, idxAddrA, idxA, idxArr, lenA, unA, binA, num2, binV, eqA, rowOf, PV.cells, PV.cell, bndA, appA, reduceIte, reduceCtorEq, Nat.reduceAdd, Nat.reduceSub, Nat.reduceEqDiff, Nat.reduceLeDiff, Nat.reduceLT, Nat.reduceMul, Nat.reduceBEq, Nat.reduceBNe, Int.reduceToNat, Int.reduceLE, Int.reduceLT, allocX, setPs, extremeA, ints, resAll, rinfOk, packR]
  refine gB_dec ?_ ?_ <;> intro hc <;> simp -implicitDefEqProofs only [hc, rkA, stepA, valA, storeA, ldA, fieldAddrA, fieldA, idxAddrA, idxA, idxArr, lenA, unA, binA, num2, binV, eqA, rowOf, PV.cells, PV.cell, bndA, appA, reduceIte, reduceCtorEq, Nat.reduceAdd, Nat.reduceSub, Nat.reduceEqDiff, Nat.reduceLeDiff, Nat.reduceLT, Nat.reduceMul, Nat.reduceBEq, Nat.reduceBNe, Int.reduceToNat, Int.reduceLE, Int.reduceLT, allocX, setPs, extremeA, ints, resAll, rinfOk, packR]
  · have hlt : i < xs.length := by omega
    have h0 : (0 : Int) ≤ (i : Int) := by omega
    have hg : (xs.map num)[i]? = some (num xs[i]) := by simp [hlt]
    simp -implicitDefEqProofs only [h0, Int.toNat_natCast, hg, rkA, stepA, valA, storeA, ldA, fieldAddrA, fieldA, idxAddrA, idxA, idxArr, lenA, unA, binA, num2, binV, eqA, rowOf, PV.cells, PV.cell, bndA, appA, reduceIte, reduceCtorEq, Nat.reduceAdd, Nat.reduceSub, Nat.reduceEqDiff, Nat.reduceLeDiff, Nat.reduceLT, Nat.reduceMul, Nat.reduceBEq, Nat.reduceBNe, Int.reduceToNat, Int.reduceLE, Int.reduceLT, allocX, setPs, extremeA, ints, resAll, rinfOk, packR]
    refine call_meth rfl rfl methOf (ok23 ⟨0, 0, 0, false⟩ xs[i]) ?_
    have hfit : fits 4 32 (frs ((xs.take i).map (newF · 1))) [frV (newF xs[i] 1)] = true := fits_frs (l := [newF xs[i] 1]) (by simp; omega)
    have hw := wrapped (x := (i : Int) + 1) (by omega) (by omega)
    have hl : (frs ((xs.take i).map (newF · 1))).length = i := by simp; omega
    simp -implicitDefEqProofs only [hfit, hl, hw, rkA, stepA, valA, storeA, ldA, fieldAddrA, fieldA, idxAddrA, idxA, idxArr, lenA, unA, binA, num2, binV, eqA, rowOf, PV.cells, PV.cell, bndA, appA, reduceIte, reduceCtorEq, Nat.reduceAdd, Nat.reduceSub, Nat.reduceEqDiff, Nat.reduceLeDiff, Nat.reduceLT, Nat.reduceMul, Nat.reduceBEq, Nat.reduceBNe, Int.reduceToNat, Int.reduceLE, Int.reduceLT, allocX, setPs, extremeA, ints, resAll, rinfOk, packR]
    refine loopK_of (m' := m - 1) (by omega) ?_
    simp -implicitDefEqProofs only [rkA, stepA, valA, storeA, ldA, fieldAddrA, fieldA, idxAddrA, idxA, idxArr, lenA, unA, binA, num2, binV, eqA, rowOf, PV.cells, PV.cell, bndA, appA, reduceIte, reduceCtorEq, Nat.reduceAdd, Nat.reduceSub, Nat.reduceEqDiff, Nat.reduceLeDiff, Nat.reduceLT, Nat.reduceMul, Nat.reduceBEq, Nat.reduceBNe, Int.reduceToNat, Int.reduceLE, Int.reduceLT, allocX, setPs, extremeA, ints, resAll, rinfOk, packR]
    refine ⟨i + 1, by omega, ?_⟩
    rw [List.take_succ_eq_append_getElem hlt]
    simp only [frs, List.map_append, List.map_cons, List.map_nil, Int.natCast_add, Int.natCast_one]
  · have : xs.length ≤ i := by omega
    rw [List.take_of_length_le this]

theorem ok19 (r c : Int) (ex : Bool) (xs : List Int) (h : xs.length ≤ 4398046511104) :
    Ok Tryz.prog 19 [num r, num c, .sl ex (xs.map num)] (if right r c xs.length = true then .tup [matV false r c (frs (xs.map (newF · 1))), tru true] else .tup [matNil, tru false]) := by
  refine ok_fn mixed Tryz.func19 (code := ?_) (h := h19) ?_ k19 ?_
  rotate_left
  · exact rfl
  unfold h19 initS
  simp -implicitDefEqProofs only [rkA, stepA, valA, storeA, ldA, fieldAddrA, fieldA, idxAddrA, idxA, idxArr, lenA, unA, binA, num2, binV, eqA, rowOf, PV.cells, PV.cell, bndA, appA, reduceIte, reduceCtorEq, Nat.reduceAdd, Nat.reduceSub, Nat.reduceEqDiff, Nat.reduceLeDiff, Nat.reduceLT, Nat.reduceMul, Nat.reduceBEq, Nat.reduceBNe, Int.reduceToNat, Int.reduceLE, Int.reduceLT, allocX, setPs, extremeA, ints, resAll, rinfOk, packR, Tryz.ntmps19, Tryz.results19]
  refine call_fn rfl rfl rfl (ok21 ex xs h) ?_
  simp -implicitDefEqProofs only [rkA, stepA, valA, storeA, ldA, fieldAddrA, fieldA, idxAddrA, idxA, idxArr, lenA, unA, binA, num2, binV, eqA, rowOf, PV.cells, PV.cell, bndA, appA, reduceIte, reduceCtorEq, Nat.reduceAdd, Nat.reduceSub, Nat.reduceEqDiff, Nat.reduceLeDiff, Nat.reduceLT, Nat.reduceMul, Nat.reduceBEq, Nat.reduceBNe, Int.reduceToNat, Int.reduceLE, Int.reduceLT, allocX, setPs, extremeA, ints, resAll, rinfOk, packR]
  refine call_fn rfl rfl rfl (ok7 r c false (xs.map (newF · 1)) (by simpa using h)) ?_
  simp only [List.length_map]
  cases hr : right r c xs.length with
  | true => simp -implicitDefEqProofs only [rkA, stepA, valA, storeA, ldA, fieldAddrA, fieldA, idxAddrA, idxA, idxArr, lenA, unA, binA, num2, binV, eqA, rowOf, PV.cells, PV.cell, bndA, appA, reduceIte, reduceCtorEq, Nat.reduceAdd, Nat.reduceSub, Nat.reduceEqDiff, Nat.reduceLeDiff, Nat.reduceLT, Nat.reduceMul, Nat.reduceBEq, Nat.reduceBNe, Int.reduceToNat, Int.reduceLE, Int.reduceLT, allocX, setPs, extremeA, ints, resAll, rinfOk, packR]
  | false => simp -implicitDefEqProofs only [rkA, stepA, valA, storeA, ldA, fieldAddrA, fieldA, idxAddrA, idxA, idxArr, lenA, unA, binA, num2, binV, eqA, rowOf, PV.cells, PV.cell, bndA, appA, reduceIte, reduceCtorEq, Nat.reduceAdd, Nat.reduceSub, Nat.reduceEqDiff, Nat.reduceLeDiff, Nat.reduceLT, Nat.reduceMul, Nat.reduceBEq, Nat.reduceBNe, Int.reduceToNat, Int.reduceLE, Int.reduceLT, allocX, setPs, extremeA, ints, resAll, rinfOk, packR]

/-- What stands in a row, or 0 fraction. -/
def atF (r c : Int) (l : List Fr) (i k : Int) : Fr := if right r c l.length = true ∧ 0 ≤ i ∧ i < r ∧ 0 ≤ k ∧ k < c then l.getD (i * c + k).toNat ⟨0, 0, 0, false⟩ else ⟨0, 0, 0, false⟩

theorem ok59 (ex : Bool) (r c i k : Int) (l : List Fr) : Ok Tryz.prog 59 [matV ex r c (frs l), num i, num k] (frV (atF r c l i k)) := by
  refine ok_fn mixed Tryz.func59 (code := ?_) (h := h59) ?_ k59 ?_
  rotate_left
  · exact rfl
  unfold h59 initS
  simp -implicitDefEqProofs only [rkA, stepA, valA, storeA, ldA, fieldAddrA, fieldA, idxAddrA, idxA, idxArr, lenA, unA, binA, num2, binV, eqA, rowOf, PV.cells, PV.cell, bndA, appA, reduceIte, reduceCtorEq, Nat.reduceAdd, Nat.reduceSub, Nat.reduceEqDiff, Nat.reduceLeDiff, Nat.reduceLT, Nat.reduceMul, Nat.reduceBEq, Nat.reduceBNe, Int.reduceToNat, Int.reduceLE, Int.reduceLT, allocX, setPs, extremeA, ints, resAll, rinfOk, packR, Tryz.ntmps59, Tryz.results59]
  refine call_fn rfl rfl rfl (ok33 ex r c (frs l)) ?_
  have e : (frs l).length = l.length := by simp
  rw [e]
  cases hr : right r c l.length with
  | false =>
    simp -implicitDefEqProofs only [rkA, stepA, valA, storeA, ldA, fieldAddrA, fieldA, idxAddrA, idxA, idxArr, lenA, unA, binA, num2, binV, eqA, rowOf, PV.cells, PV.cell, bndA, appA, reduceIte, reduceCtorEq, Nat.reduceAdd, Nat.reduceSub, Nat.reduceEqDiff, Nat.reduceLeDiff, Nat.reduceLT, Nat.reduceMul, Nat.reduceBEq, Nat.reduceBNe, Int.reduceToNat, Int.reduceLE, Int.reduceLT, allocX, setPs, extremeA, ints, resAll, rinfOk, packR]
    simp [atF, hr]
  | true =>
    obtain ⟨r1, r2, c1, c2, hn⟩ := right_spec hr
    simp -implicitDefEqProofs only [rkA, stepA, valA, storeA, ldA, fieldAddrA, fieldA, idxAddrA, idxA, idxArr, lenA, unA, binA, num2, binV, eqA, rowOf, PV.cells, PV.cell, bndA, appA, reduceIte, reduceCtorEq, Nat.reduceAdd, Nat.reduceSub, Nat.reduceEqDiff, Nat.reduceLeDiff, Nat.reduceLT, Nat.reduceMul, Nat.reduceBEq, Nat.reduceBNe, Int.reduceToNat, Int.reduceLE, Int.reduceLT, allocX, setPs, extremeA, ints, resAll, rinfOk, packR]
    repeat' (refine gB_dec ?_ ?_ <;> intro hc <;> first | (exfalso; omega) | simp -implicitDefEqProofs only [hc, rkA, stepA, valA, storeA, ldA, fieldAddrA, fieldA, idxAddrA, idxA, idxArr, lenA, unA, binA, num2, binV, eqA, rowOf, PV.cells, PV.cell, bndA, appA, reduceIte, reduceCtorEq, Nat.reduceAdd, Nat.reduceSub, Nat.reduceEqDiff, Nat.reduceLeDiff, Nat.reduceLT, Nat.reduceMul, Nat.reduceBEq, Nat.reduceBNe, Int.reduceToNat, Int.reduceLE, Int.reduceLT, allocX, setPs, extremeA, ints, resAll, rinfOk, packR])
    · rw [show atF r c l i k = ⟨0, 0, 0, false⟩ from if_neg (fun ⟨_, _, _, _, _⟩ => by omega)]
    · rw [show atF r c l i k = ⟨0, 0, 0, false⟩ from if_neg (fun ⟨_, _, _, _, _⟩ => by omega)]
    · rw [show atF r c l i k = ⟨0, 0, 0, false⟩ from if_neg (fun ⟨_, _, _, _, _⟩ => by omega)]
    · rw [show atF r c l i k = ⟨0, 0, 0, false⟩ from if_neg (fun ⟨_, _, _, _, _⟩ => by omega)]
    · obtain ⟨b1, b2, b3, b4, b5⟩ := at_bound (i := i) (k := k) r2 ⟨c1, c2⟩ (by omega) (by omega)
      have w1 := wrapped (x := i * c) (by omega) (by omega)
      have w2 := wrapped (x := i * c + k) (by omega) (by omega)
      have hlt : (i * c + k).toNat < l.length := by omega
      have hg : (frs l)[(i * c + k).toNat]? = some (frV l[(i * c + k).toNat]) := by simp [hlt]
      have ha : atF r c l i k = l[(i * c + k).toNat] := by
        unfold atF
        rw [if_pos ⟨hr, by omega, by omega, by omega, by omega⟩, List.getD_eq_getElem?_getD, List.getElem?_eq_getElem hlt]
        rfl
      simp -implicitDefEqProofs only [w1, w2, b2, hg, ha, rkA, stepA, valA, storeA, ldA, fieldAddrA, fieldA, idxAddrA, idxA, idxArr, lenA, unA, binA, num2, binV, eqA, rowOf, PV.cells, PV.cell, bndA, appA, reduceIte, reduceCtorEq, Nat.reduceAdd, Nat.reduceSub, Nat.reduceEqDiff, Nat.reduceLeDiff, Nat.reduceLT, Nat.reduceMul, Nat.reduceBEq, Nat.reduceBNe, Int.reduceToNat, Int.reduceLE, Int.reduceLT, allocX, setPs, extremeA, ints, resAll, rinfOk, packR]
end Go.Proofs.YtipchjfcjbghnaaGreat.A.E


set_option linter.unusedVariables false
set_option linter.unusedSimpArgs false
set_option maxRecDepth 100000
namespace Go.Proofs.YtipchjfcjbghnaaGreat.A.E
open Go Go.RowKit Go.Shelf

theorem methAdd : Meth Tryz.prog 24 "Add" 154 := by
  intro v xs w
  rfl
theorem methMul : Meth Tryz.prog 24 "Mul" 156 := by
  intro v xs w
  rfl

def sumF (l : List Fr) : Fr := l.foldl addF (newF 0 1)

theorem ok76 (ex : Bool) (l : List Fr) (h : l.length ≤ 4398046511104) : Ok Tryz.prog 76 [.sl ex (frs l)] (frV (sumF l)) := by
  refine ok_fn mixed Tryz.func76 (code := ?_) (h := h76) ?_ k76 ?_
  rotate_left
  · exact rfl
  unfold h76 initS
  simp -implicitDefEqProofs only [rkA, stepA, valA, storeA, ldA, fieldAddrA, fieldA, idxAddrA, idxA, idxArr, lenA, unA, binA, num2, binV, eqA, rowOf, PV.cells, PV.cell, bndA, appA, reduceIte, reduceCtorEq, Nat.reduceAdd, Nat.reduceSub, Nat.reduceEqDiff, Nat.reduceLeDiff, Nat.reduceLT, Nat.reduceMul, Nat.reduceBEq, Nat.reduceBNe, Int.reduceToNat, Int.reduceLE, Int.reduceLT, allocX, setPs, extremeA, ints, resAll, rinfOk, packR, Tryz.ntmps76, Tryz.results76]
  refine call_meth rfl rfl methOf (ok23 ⟨0, 0, 0, false⟩ 0) ?_
  simp -implicitDefEqProofs only [rkA, stepA, valA, storeA, ldA, fieldAddrA, fieldA, idxAddrA, idxA, idxArr, lenA, unA, binA, num2, binV, eqA, rowOf, PV.cells, PV.cell, bndA, appA, reduceIte, reduceCtorEq, Nat.reduceAdd, Nat.reduceSub, Nat.reduceEqDiff, Nat.reduceLeDiff, Nat.reduceLT, Nat.reduceMul, Nat.reduceBEq, Nat.reduceBNe, Int.reduceToNat, Int.reduceLE, Int.reduceLT, allocX, setPs, extremeA, ints, resAll, rinfOk, packR]
  refine wp_loop (fun m s => ∃ i, i + m = l.length ∧ s = ⟨[jk, jk, .ptr 2 0, jk, .ptr 4 0, jk, jk, jk, jk, jk, .v (.sl ex (frs l)), nt l.length, nt i, jk, jk, jk, jk, jk, jk, jk, jk, jk],
    [(2, [nt 0, nt 0, nt 0, .v (tru false)]), (3, [nt 0, nt 0, nt 0, .v (tru false)]), (4, [nt (sumF (l.take i)).v, nt (sumF (l.take i)).lo, nt (sumF (l.take i)).hi, .v (tru (sumF (l.take i)).bad)])], [], [], [], 0, nomem⟩) l.length ?_ ?_
  · simp -implicitDefEqProofs only [rkA, stepA, valA, storeA, ldA, fieldAddrA, fieldA, idxAddrA, idxA, idxArr, lenA, unA, binA, num2, binV, eqA, rowOf, PV.cells, PV.cell, bndA, appA, reduceIte, reduceCtorEq, Nat.reduceAdd, Nat.reduceSub, Nat.reduceEqDiff, Nat.reduceLeDiff, Nat.reduceLT, Nat.reduceMul, Nat.reduceBEq, Nat.reduceBNe, Int.reduceToNat, Int.reduceLE, Int.reduceLT, allocX, setPs, extremeA, ints, resAll, rinfOk, packR]
    refine ⟨0, by simp, ?_⟩
    simp [sumF]
  rintro m s ⟨i, hi, rfl⟩
  simp -implicitDefEqProofs only [rkA, stepA, valA, storeA, ldA, fieldAddrA, fieldA, idxAddrA, idxA, idxArr, lenA, unA, binA, num2, binV, eqA, rowOf, PV.cells, PV.cell, bndA, appA, reduceIte, reduceCtorEq, Nat.reduceAdd, Nat.reduceSub, Nat.reduceEqDiff, Nat.reduceLeDiff, Nat.reduceLT, Nat.reduceMul, Nat.reduceBEq, Nat.reduceBNe, Int.reduceToNat, Int.reduceLE, Int.reduceLT, allocX, setPs, extremeA, ints, resAll, rinfOk, packR]
  refine gB_dec ?_ ?_ <;> intro hc <;> simp -implicitDefEqProofs only [hc, rkA, stepA, valA, storeA, ldA, fieldAddrA, fieldA, idxAddrA, idxA, idxArr, lenA, unA, binA, num2, binV, eqA, rowOf, PV.cells, PV.cell, bndA, appA, reduceIte, reduceCtorEq, Nat.reduceAdd, Nat.reduceSub, Nat.reduceEqDiff, Nat.reduceLeDiff, Nat.reduceLT, Nat.reduceMul, Nat.reduceBEq, Nat.reduceBNe, Int.reduceToNat, Int.reduceLE, Int.reduceLT, allocX, setPs, extremeA, ints, resAll, rinfOk, packR]
  · have hlt : i < l.length := by omega
    have h0 : (0 : Int) ≤ (i : Int) := by omega
    have hg : (frs l)[i]? = some (frV l[i]) := by simp [hlt]
    simp -implicitDefEqProofs only [h0, Int.toNat_natCast, hg, rkA, stepA, valA, storeA, ldA, fieldAddrA, fieldA, idxAddrA, idxA, idxArr, lenA, unA, binA, num2, binV, eqA, rowOf, PV.cells, PV.cell, bndA, appA, reduceIte, reduceCtorEq, Nat.reduceAdd, Nat.reduceSub, Nat.reduceEqDiff, Nat.reduceLeDiff, Nat.reduceLT, Nat.reduceMul, Nat.reduceBEq, Nat.reduceBNe, Int.reduceToNat, Int.reduceLE, Int.reduceLT, allocX, setPs, extremeA, ints, resAll, rinfOk, packR]
    refine call_meth rfl rfl methAdd (ok154 (sumF (l.take i)) l[i]) ?_
    have hw := wrapped (x := (i : Int) + 1) (by omega) (by omega)
    simp -implicitDefEqProofs only [hw, rkA, stepA, valA, storeA, ldA, fieldAddrA, fieldA, idxAddrA, idxA, idxArr, lenA, unA, binA, num2, binV, eqA, rowOf, PV.cells, PV.cell, bndA, appA, reduceIte, reduceCtorEq, Nat.reduceAdd, Nat.reduceSub, Nat.reduceEqDiff, Nat.reduceLeDiff, Nat.reduceLT, Nat.reduceMul, Nat.reduceBEq, Nat.reduceBNe, Int.reduceToNat, Int.reduceLE, Int.reduceLT, allocX, setPs, extremeA, ints, resAll, rinfOk, packR]
    refine loopK_of (m' := m - 1) (by omega) ?_
    simp -implicitDefEqProofs only [rkA, stepA, valA, storeA, ldA, fieldAddrA, fieldA, idxAddrA, idxA, idxArr, lenA, unA, binA, num2, binV, eqA, rowOf, PV.cells, PV.cell, bndA, appA, reduceIte, reduceCtorEq, Nat.reduceAdd, Nat.reduceSub, Nat.reduceEqDiff, Nat.reduceLeDiff, Nat.reduceLT, Nat.reduceMul, Nat.reduceBEq, Nat.reduceBNe, Int.reduceToNat, Int.reduceLE, Int.reduceLT, allocX, setPs, extremeA, ints, resAll, rinfOk, packR]
    refine ⟨i + 1, by omega, ?_⟩
    have e : sumF (l.take (i + 1)) = addF (sumF (l.take i)) l[i] := by
      unfold sumF
      rw [List.take_succ_eq_append_getElem hlt, List.foldl_append]
      rfl
    rw [e]
    simp only [Int.natCast_add, Int.natCast_one]
  · have : l.length ≤ i := by omega
    rw [List.take_of_length_le this]

theorem ok78 (a b : Fr) : Ok Tryz.prog 78 [frV a, frV b] (frV (mulF a b)) := by
  refine ok_fn mixed Tryz.func78 (code := ?_) (h := h78) ?_ k78 ?_
  rotate_left
  · exact rfl
  unfold h78 initS
  simp -implicitDefEqProofs only [rkA, stepA, valA, storeA, ldA, fieldAddrA, fieldA, idxAddrA, idxA, idxArr, lenA, unA, binA, num2, binV, eqA, rowOf, PV.cells, PV.cell, bndA, appA, reduceIte, reduceCtorEq, Nat.reduceAdd, Nat.reduceSub, Nat.reduceEqDiff, Nat.reduceLeDiff, Nat.reduceLT, Nat.reduceMul, Nat.reduceBEq, Nat.reduceBNe, Int.reduceToNat, Int.reduceLE, Int.reduceLT, allocX, setPs, extremeA, ints, resAll, rinfOk, packR, Tryz.ntmps78, Tryz.results78]
  refine call_meth rfl rfl methMul (ok156 a b) ?_
  simp -implicitDefEqProofs only [rkA, stepA, valA, storeA, ldA, fieldAddrA, fieldA, idxAddrA, idxA, idxArr, lenA, unA, binA, num2, binV, eqA, rowOf, PV.cells, PV.cell, bndA, appA, reduceIte, reduceCtorEq, Nat.reduceAdd, Nat.reduceSub, Nat.reduceEqDiff, Nat.reduceLeDiff, Nat.reduceLT, Nat.reduceMul, Nat.reduceBEq, Nat.reduceBNe, Int.reduceToNat, Int.reduceLE, Int.reduceLT, allocX, setPs, extremeA, ints, resAll, rinfOk, packR]

theorem sl_frs {ex : Bool} {l : List Fr} {a b : Nat} (h1 : a ≤ b) (h2 : b ≤ l.length) : sliceA 4 (frs l) ex (some a) (some b) none = some (.sl (exA none ex b (frs l).length) (frs ((l.take b).drop a))) := by
  unfold sliceA
  simp only [Option.getD_some]
  rw [if_pos ⟨h1, by simpa using h2, by simp, by simp [PV.cells]⟩]
  simp

/-- A row. -/
def rowF (r c : Int) (l : List Fr) (i : Int) : List Fr := if right r c l.length = true ∧ 0 ≤ i ∧ i < r then (l.take ((i + 1) * c).toNat).drop (i * c).toNat else []

theorem ok104 (ex : Bool) (r c i : Int) (l : List Fr) : Ok Tryz.prog 104 [matV ex r c (frs l), num i] (.sl false (frs (rowF r c l i))) := by
  refine ok_fn mixed Tryz.func104 (code := ?_) (h := h104) ?_ k104 ?_
  rotate_left
  · exact rfl
  unfold h104 initS
  simp -implicitDefEqProofs only [rkA, stepA, valA, storeA, ldA, fieldAddrA, fieldA, idxAddrA, idxA, idxArr, lenA, unA, binA, num2, binV, eqA, rowOf, PV.cells, PV.cell, bndA, appA, reduceIte, reduceCtorEq, Nat.reduceAdd, Nat.reduceSub, Nat.reduceEqDiff, Nat.reduceLeDiff, Nat.reduceLT, Nat.reduceMul, Nat.reduceBEq, Nat.reduceBNe, Int.reduceToNat, Int.reduceLE, Int.reduceLT, allocX, setPs, extremeA, ints, resAll, rinfOk, packR, Tryz.ntmps104, Tryz.results104]
  refine call_fn rfl rfl rfl (ok33 ex r c (frs l)) ?_
  have e : (frs l).length = l.length := by simp
  rw [e]
  cases hr : right r c l.length with
  | false =>
    simp -implicitDefEqProofs only [rkA, stepA, valA, storeA, ldA, fieldAddrA, fieldA, idxAddrA, idxA, idxArr, lenA, unA, binA, num2, binV, eqA, rowOf, PV.cells, PV.cell, bndA, appA, reduceIte, reduceCtorEq, Nat.reduceAdd, Nat.reduceSub, Nat.reduceEqDiff, Nat.reduceLeDiff, Nat.reduceLT, Nat.reduceMul, Nat.reduceBEq, Nat.reduceBNe, Int.reduceToNat, Int.reduceLE, Int.reduceLT, allocX, setPs, extremeA, ints, resAll, rinfOk, packR]
    simp [rowF, hr]
  | true =>
    obtain ⟨r1, r2, c1, c2, hn⟩ := right_spec hr
    simp -implicitDefEqProofs only [rkA, stepA, valA, storeA, ldA, fieldAddrA, fieldA, idxAddrA, idxA, idxArr, lenA, unA, binA, num2, binV, eqA, rowOf, PV.cells, PV.cell, bndA, appA, reduceIte, reduceCtorEq, Nat.reduceAdd, Nat.reduceSub, Nat.reduceEqDiff, Nat.reduceLeDiff, Nat.reduceLT, Nat.reduceMul, Nat.reduceBEq, Nat.reduceBNe, Int.reduceToNat, Int.reduceLE, Int.reduceLT, allocX, setPs, extremeA, ints, resAll, rinfOk, packR]
    repeat' (refine gB_dec ?_ ?_ <;> intro hc <;> first | (exfalso; omega) | simp -implicitDefEqProofs only [hc, rkA, stepA, valA, storeA, ldA, fieldAddrA, fieldA, idxAddrA, idxA, idxArr, lenA, unA, binA, num2, binV, eqA, rowOf, PV.cells, PV.cell, bndA, appA, reduceIte, reduceCtorEq, Nat.reduceAdd, Nat.reduceSub, Nat.reduceEqDiff, Nat.reduceLeDiff, Nat.reduceLT, Nat.reduceMul, Nat.reduceBEq, Nat.reduceBNe, Int.reduceToNat, Int.reduceLE, Int.reduceLT, allocX, setPs, extremeA, ints, resAll, rinfOk, packR])
    · rw [show rowF r c l i = [] from if_neg (fun ⟨_, _, _⟩ => by omega)]; rfl
    · rw [show rowF r c l i = [] from if_neg (fun ⟨_, _, _⟩ => by omega)]; rfl
    · obtain ⟨b1, b2, b3, b4, b5⟩ := at_bound (i := i) (k := 0) r2 ⟨c1, c2⟩ (by omega) (by omega)
      have b6 : (i + 1) * c = i * c + c := by rw [Int.add_mul, Int.one_mul]
      have b7 : (i + 1) * c ≤ r * c := Int.mul_le_mul_of_nonneg_right (by omega) (by omega)
      have w1 := wrapped (x := i * c) (by omega) (by omega)
      have w2 := wrapped (x := i + 1) (by omega) (by omega)
      have w3 := wrapped (x := (i + 1) * c) (by omega) (by omega)
      have h3 : 0 ≤ (i + 1) * c := by omega
      have hs := sl_frs (ex := ex) (l := l) (a := (i * c).toNat) (b := ((i + 1) * c).toNat) (by omega) (by omega)
      have hrow : rowF r c l i = (l.take ((i + 1) * c).toNat).drop (i * c).toNat := if_pos ⟨hr, by omega, by omega⟩
      rw [hrow]
      simp -implicitDefEqProofs only [w1, w2, w3, b1, h3, hs, rkA, stepA, valA, storeA, ldA, fieldAddrA, fieldA, idxAddrA, idxA, idxArr, lenA, unA, binA, num2, binV, eqA, rowOf, PV.cells, PV.cell, bndA, appA, reduceIte, reduceCtorEq, Nat.reduceAdd, Nat.reduceSub, Nat.reduceEqDiff, Nat.reduceLeDiff, Nat.reduceLT, Nat.reduceMul, Nat.reduceBEq, Nat.reduceBNe, Int.reduceToNat, Int.reduceLE, Int.reduceLT, allocX, setPs, extremeA, ints, resAll, rinfOk, packR]
      refine call_fn rfl rfl rfl (ok32 _ _ (by simp; omega)) ?_
      simp -implicitDefEqProofs only [rkA, stepA, valA, storeA, ldA, fieldAddrA, fieldA, idxAddrA, idxA, idxArr, lenA, unA, binA, num2, binV, eqA, rowOf, PV.cells, PV.cell, bndA, appA, reduceIte, reduceCtorEq, Nat.reduceAdd, Nat.reduceSub, Nat.reduceEqDiff, Nat.reduceLeDiff, Nat.reduceLT, Nat.reduceMul, Nat.reduceBEq, Nat.reduceBNe, Int.reduceToNat, Int.reduceLE, Int.reduceLT, allocX, setPs, extremeA, ints, resAll, rinfOk, packR]
end Go.Proofs.YtipchjfcjbghnaaGreat.A.E


set_option linter.unusedVariables false
set_option linter.unusedSimpArgs false
set_option maxRecDepth 100000
namespace Go.Proofs.YtipchjfcjbghnaaGreat.A.E
open Go Go.RowKit Go.Shelf

def rowsF (r c : Int) (l : List Fr) : List (List PV) := if right r c l.length = true then (List.range r.toNat).map fun (i : Nat) => [num (i : Int), .sl false (frs (rowF r c l (i : Int)))] else []

theorem it103 (ex : Bool) (r c : Int) (l : List Fr) : IterOk Tryz.prog (.fn (.func 103) [.vp [num r, num c, .sl ex (frs l)]]) (rowsF r c l) := by
  refine iter_fn mixed Tryz.func103 (code := ?_) (h := h103) ?_ k103 ?_ ?_
  rotate_left
  · exact rfl
  · exact rfl
  intro yl
  unfold h103 initS
  simp -implicitDefEqProofs only [rkA, stepA, valA, storeA, ldA, fieldAddrA, fieldA, idxAddrA, idxA, idxArr, lenA, unA, binA, num2, binV, eqA, rowOf, PV.cells, PV.cell, bndA, appA, reduceIte, reduceCtorEq, Nat.reduceAdd, Nat.reduceSub, Nat.reduceEqDiff, Nat.reduceLeDiff, Nat.reduceLT, Nat.reduceMul, Nat.reduceBEq, Nat.reduceBNe, Int.reduceToNat, Int.reduceLE, Int.reduceLT, allocX, setPs, extremeA, ints, resAll, rinfOk, packR, Tryz.ntmps103]
  refine wp_loop (fun m s => ∃ i : Nat, i + m = (rowsF r c l).length ∧ s = ⟨[.v (.fn (.yield yl) []), .v (.vp [num r, num c, .sl ex (frs l)]), jk, nt i, jk, jk, jk, jk, jk, jk, jk, jk, jk, jk, jk, jk, jk, jk, jk, jk, jk], [], [], [], [], i, nomem⟩) (rowsF r c l).length ?_ ?_
  · simp -implicitDefEqProofs only [rkA, stepA, valA, storeA, ldA, fieldAddrA, fieldA, idxAddrA, idxA, idxArr, lenA, unA, binA, num2, binV, eqA, rowOf, PV.cells, PV.cell, bndA, appA, reduceIte, reduceCtorEq, Nat.reduceAdd, Nat.reduceSub, Nat.reduceEqDiff, Nat.reduceLeDiff, Nat.reduceLT, Nat.reduceMul, Nat.reduceBEq, Nat.reduceBNe, Int.reduceToNat, Int.reduceLE, Int.reduceLT, allocX, setPs, extremeA, ints, resAll, rinfOk, packR]
    exact ⟨0, by simp, rfl⟩
  rintro m s ⟨i, hi, rfl⟩
  simp -implicitDefEqProofs only [rkA, stepA, valA, storeA, ldA, fieldAddrA, fieldA, idxAddrA, idxA, idxArr, lenA, unA, binA, num2, binV, eqA, rowOf, PV.cells, PV.cell, bndA, appA, reduceIte, reduceCtorEq, Nat.reduceAdd, Nat.reduceSub, Nat.reduceEqDiff, Nat.reduceLeDiff, Nat.reduceLT, Nat.reduceMul, Nat.reduceBEq, Nat.reduceBNe, Int.reduceToNat, Int.reduceLE, Int.reduceLT, allocX, setPs, extremeA, ints, resAll, rinfOk, packR]
  refine call_fn rfl rfl rfl (ok33 ex r c (frs l)) ?_
  have e : (frs l).length = l.length := by simp
  rw [e]
  cases hr : right r c l.length with
  | false =>
    simp -implicitDefEqProofs only [rkA, stepA, valA, storeA, ldA, fieldAddrA, fieldA, idxAddrA, idxA, idxArr, lenA, unA, binA, num2, binV, eqA, rowOf, PV.cells, PV.cell, bndA, appA, reduceIte, reduceCtorEq, Nat.reduceAdd, Nat.reduceSub, Nat.reduceEqDiff, Nat.reduceLeDiff, Nat.reduceLT, Nat.reduceMul, Nat.reduceBEq, Nat.reduceBNe, Int.reduceToNat, Int.reduceLE, Int.reduceLT, allocX, setPs, extremeA, ints, resAll, rinfOk, packR]
    have hl : (rowsF r c l).length = 0 := by simp [rowsF, hr]
    omega
  | true =>
    obtain ⟨r1, r2, c1, c2, hn⟩ := right_spec hr
    have hl : (rowsF r c l).length = r.toNat := by simp [rowsF, hr]
    simp -implicitDefEqProofs only [rkA, stepA, valA, storeA, ldA, fieldAddrA, fieldA, idxAddrA, idxA, idxArr, lenA, unA, binA, num2, binV, eqA, rowOf, PV.cells, PV.cell, bndA, appA, reduceIte, reduceCtorEq, Nat.reduceAdd, Nat.reduceSub, Nat.reduceEqDiff, Nat.reduceLeDiff, Nat.reduceLT, Nat.reduceMul, Nat.reduceBEq, Nat.reduceBNe, Int.reduceToNat, Int.reduceLE, Int.reduceLT, allocX, setPs, extremeA, ints, resAll, rinfOk, packR]
    refine gB_dec ?_ ?_ <;> intro hc <;> simp -implicitDefEqProofs only [hc, rkA, stepA, valA, storeA, ldA, fieldAddrA, fieldA, idxAddrA, idxA, idxArr, lenA, unA, binA, num2, binV, eqA, rowOf, PV.cells, PV.cell, bndA, appA, reduceIte, reduceCtorEq, Nat.reduceAdd, Nat.reduceSub, Nat.reduceEqDiff, Nat.reduceLeDiff, Nat.reduceLT, Nat.reduceMul, Nat.reduceBEq, Nat.reduceBNe, Int.reduceToNat, Int.reduceLE, Int.reduceLT, allocX, setPs, extremeA, ints, resAll, rinfOk, packR]
    · refine call_fn rfl rfl rfl (ok104 ex r c i l) ?_
      simp -implicitDefEqProofs only [rkA, stepA, valA, storeA, ldA, fieldAddrA, fieldA, idxAddrA, idxA, idxArr, lenA, unA, binA, num2, binV, eqA, rowOf, PV.cells, PV.cell, bndA, appA, reduceIte, reduceCtorEq, Nat.reduceAdd, Nat.reduceSub, Nat.reduceEqDiff, Nat.reduceLeDiff, Nat.reduceLT, Nat.reduceMul, Nat.reduceBEq, Nat.reduceBNe, Int.reduceToNat, Int.reduceLE, Int.reduceLT, allocX, setPs, extremeA, ints, resAll, rinfOk, packR]
      have hx : (rowsF r c l)[i]? = some [num (i : Int), .sl false (frs (rowF r c l i))] := by
        have : i < r.toNat := by omega
        simp [rowsF, hr, this]
      have hw := wrapped (x := (i : Int) + 1) (by omega) (by omega)
      refine call_yield rfl rfl rfl rfl rfl hx ?_ ?_
      · simp -implicitDefEqProofs only [hw, rkA, stepA, valA, storeA, ldA, fieldAddrA, fieldA, idxAddrA, idxA, idxArr, lenA, unA, binA, num2, binV, eqA, rowOf, PV.cells, PV.cell, bndA, appA, reduceIte, reduceCtorEq, Nat.reduceAdd, Nat.reduceSub, Nat.reduceEqDiff, Nat.reduceLeDiff, Nat.reduceLT, Nat.reduceMul, Nat.reduceBEq, Nat.reduceBNe, Int.reduceToNat, Int.reduceLE, Int.reduceLT, allocX, setPs, extremeA, ints, resAll, rinfOk, packR]
        refine loopK_of (m' := m - 1) (by omega) ?_
        simp -implicitDefEqProofs only [rkA, stepA, valA, storeA, ldA, fieldAddrA, fieldA, idxAddrA, idxA, idxArr, lenA, unA, binA, num2, binV, eqA, rowOf, PV.cells, PV.cell, bndA, appA, reduceIte, reduceCtorEq, Nat.reduceAdd, Nat.reduceSub, Nat.reduceEqDiff, Nat.reduceLeDiff, Nat.reduceLT, Nat.reduceMul, Nat.reduceBEq, Nat.reduceBNe, Int.reduceToNat, Int.reduceLE, Int.reduceLT, allocX, setPs, extremeA, ints, resAll, rinfOk, packR]
        exact ⟨i + 1, by omega, by simp only [Int.natCast_add, Int.natCast_one]⟩
      · simp -implicitDefEqProofs only [rkA, stepA, valA, storeA, ldA, fieldAddrA, fieldA, idxAddrA, idxA, idxArr, lenA, unA, binA, num2, binV, eqA, rowOf, PV.cells, PV.cell, bndA, appA, reduceIte, reduceCtorEq, Nat.reduceAdd, Nat.reduceSub, Nat.reduceEqDiff, Nat.reduceLeDiff, Nat.reduceLT, Nat.reduceMul, Nat.reduceBEq, Nat.reduceBNe, Int.reduceToNat, Int.reduceLE, Int.reduceLT, allocX, setPs, extremeA, ints, resAll, rinfOk, packR]
        exact .inr trivial
    · omega

theorem ok75 (ex : Bool) (r c : Int) (l : List Fr) : Ok Tryz.prog 75 [matV ex r c (frs l)] (.fn (.func 103) [.vp [num r, num c, .sl ex (frs l)]]) := by
  refine ok_fn mixed Tryz.func75 (code := ?_) (h := h75) ?_ k75 ?_
  rotate_left
  · exact rfl
  unfold h75 initS
  simp -implicitDefEqProofs only [rkA, stepA, valA, storeA, ldA, fieldAddrA, fieldA, idxAddrA, idxA, idxArr, lenA, unA, binA, num2, binV, eqA, rowOf, PV.cells, PV.cell, bndA, appA, reduceIte, reduceCtorEq, Nat.reduceAdd, Nat.reduceSub, Nat.reduceEqDiff, Nat.reduceLeDiff, Nat.reduceLT, Nat.reduceMul, Nat.reduceBEq, Nat.reduceBNe, Int.reduceToNat, Int.reduceLE, Int.reduceLT, allocX, setPs, extremeA, ints, resAll, rinfOk, packR, Tryz.ntmps75, Tryz.results75]

def pairsF (a b : List Fr) : List (List PV) := (List.zip a b).map fun p => [frV p.1, frV p.2]

theorem it125 (ea eb : Bool) (a b : List Fr) (ha : a.length ≤ 4398046511104) (hb : b.length ≤ 4398046511104) : IterOk Tryz.prog (.fn (.func 125) [.vp [.sl ea (frs a)], .vp [.sl eb (frs b)]]) (pairsF a b) := by
  refine iter_fn mixed Tryz.func125 (code := ?_) (h := h125) ?_ k125 ?_ ?_
  rotate_left
  · exact rfl
  · exact rfl
  intro yl
  unfold h125 initS
  simp -implicitDefEqProofs only [rkA, stepA, valA, storeA, ldA, fieldAddrA, fieldA, idxAddrA, idxA, idxArr, lenA, unA, binA, num2, binV, eqA, rowOf, PV.cells, PV.cell, bndA, appA, reduceIte, reduceCtorEq, Nat.reduceAdd, Nat.reduceSub, Nat.reduceEqDiff, Nat.reduceLeDiff, Nat.reduceLT, Nat.reduceMul, Nat.reduceBEq, Nat.reduceBNe, Int.reduceToNat, Int.reduceLE, Int.reduceLT, allocX, setPs, extremeA, ints, resAll, rinfOk, packR, Tryz.ntmps125]
  have hl : (pairsF a b).length = min a.length b.length := by simp [pairsF]
  have hx0 : ∀ (i : Nat) (ha : i < a.length) (hb : i < b.length), (pairsF a b)[i]? = some [frV a[i], frV b[i]] := fun i h1 h2 => by
    rw [pairsF, List.getElem?_map, List.getElem?_eq_getElem (by simp; omega), Option.map_some, List.getElem_zip]
  have hmin : (if ((frs b).length : Int) < ((frs a).length : Int) then ((frs b).length : Int) else ((frs a).length : Int)) = ((min a.length b.length : Nat) : Int) := by
    simp only [List.length_map]
    split <;> omega
  simp only [hmin]
  refine wp_loop (fun m s => ∃ i : Nat, i + m = (pairsF a b).length ∧ s = ⟨[.v (.fn (.yield yl) []), .v (.vp [.sl ea (frs a)]), .v (.vp [.sl eb (frs b)]), jk, jk, jk, jk, jk, jk, nt ((min a.length b.length : Nat) : Int), nt i, jk, jk, jk, jk, jk, jk, jk, jk, jk, jk, jk, jk, jk, jk], [], [], [], [], i, nomem⟩) (pairsF a b).length ?_ ?_
  · simp -implicitDefEqProofs only [rkA, stepA, valA, storeA, ldA, fieldAddrA, fieldA, idxAddrA, idxA, idxArr, lenA, unA, binA, num2, binV, eqA, rowOf, PV.cells, PV.cell, bndA, appA, reduceIte, reduceCtorEq, Nat.reduceAdd, Nat.reduceSub, Nat.reduceEqDiff, Nat.reduceLeDiff, Nat.reduceLT, Nat.reduceMul, Nat.reduceBEq, Nat.reduceBNe, Int.reduceToNat, Int.reduceLE, Int.reduceLT, allocX, setPs, extremeA, ints, resAll, rinfOk, packR]
    exact ⟨0, by simp, rfl⟩
  rintro m s ⟨i, hi, rfl⟩
  simp -implicitDefEqProofs only [rkA, stepA, valA, storeA, ldA, fieldAddrA, fieldA, idxAddrA, idxA, idxArr, lenA, unA, binA, num2, binV, eqA, rowOf, PV.cells, PV.cell, bndA, appA, reduceIte, reduceCtorEq, Nat.reduceAdd, Nat.reduceSub, Nat.reduceEqDiff, Nat.reduceLeDiff, Nat.reduceLT, Nat.reduceMul, Nat.reduceBEq, Nat.reduceBNe, Int.reduceToNat, Int.reduceLE, Int.reduceLT, allocX, setPs, extremeA, ints, resAll, rinfOk, packR]
  refine gB_dec ?_ ?_ <;> intro hc <;> simp -implicitDefEqProofs only [hc, rkA, stepA, valA, storeA, ldA, fieldAddrA, fieldA, idxAddrA, idxA, idxArr, lenA, unA, binA, num2, binV, eqA, rowOf, PV.cells, PV.cell, bndA, appA, reduceIte, reduceCtorEq, Nat.reduceAdd, Nat.reduceSub, Nat.reduceEqDiff, Nat.reduceLeDiff, Nat.reduceLT, Nat.reduceMul, Nat.reduceBEq, Nat.reduceBNe, Int.reduceToNat, Int.reduceLE, Int.reduceLT, allocX, setPs, extremeA, ints, resAll, rinfOk, packR]
  · have h1 : i < a.length := by omega
    have h2 : i < b.length := by omega
    have h0 : (0 : Int) ≤ (i : Int) := by omega
    have g1 : (frs a)[i]? = some (frV a[i]) := by simp [h1]
    have g2 : (frs b)[i]? = some (frV b[i]) := by simp [h2]
    simp -implicitDefEqProofs only [h0, Int.toNat_natCast, g1, g2, rkA, stepA, valA, storeA, ldA, fieldAddrA, fieldA, idxAddrA, idxA, idxArr, lenA, unA, binA, num2, binV, eqA, rowOf, PV.cells, PV.cell, bndA, appA, reduceIte, reduceCtorEq, Nat.reduceAdd, Nat.reduceSub, Nat.reduceEqDiff, Nat.reduceLeDiff, Nat.reduceLT, Nat.reduceMul, Nat.reduceBEq, Nat.reduceBNe, Int.reduceToNat, Int.reduceLE, Int.reduceLT, allocX, setPs, extremeA, ints, resAll, rinfOk, packR]
    have hw := wrapped (x := (i : Int) + 1) (by omega) (by omega)
    refine call_yield rfl rfl rfl rfl rfl (hx0 i h1 h2) ?_ ?_
    · simp -implicitDefEqProofs only [hw, rkA, stepA, valA, storeA, ldA, fieldAddrA, fieldA, idxAddrA, idxA, idxArr, lenA, unA, binA, num2, binV, eqA, rowOf, PV.cells, PV.cell, bndA, appA, reduceIte, reduceCtorEq, Nat.reduceAdd, Nat.reduceSub, Nat.reduceEqDiff, Nat.reduceLeDiff, Nat.reduceLT, Nat.reduceMul, Nat.reduceBEq, Nat.reduceBNe, Int.reduceToNat, Int.reduceLE, Int.reduceLT, allocX, setPs, extremeA, ints, resAll, rinfOk, packR]
      refine loopK_of (m' := m - 1) (by omega) ?_
      simp -implicitDefEqProofs only [rkA, stepA, valA, storeA, ldA, fieldAddrA, fieldA, idxAddrA, idxA, idxArr, lenA, unA, binA, num2, binV, eqA, rowOf, PV.cells, PV.cell, bndA, appA, reduceIte, reduceCtorEq, Nat.reduceAdd, Nat.reduceSub, Nat.reduceEqDiff, Nat.reduceLeDiff, Nat.reduceLT, Nat.reduceMul, Nat.reduceBEq, Nat.reduceBNe, Int.reduceToNat, Int.reduceLE, Int.reduceLT, allocX, setPs, extremeA, ints, resAll, rinfOk, packR]
      exact ⟨i + 1, by omega, by simp only [Int.natCast_add, Int.natCast_one]⟩
    · simp -implicitDefEqProofs only [rkA, stepA, valA, storeA, ldA, fieldAddrA, fieldA, idxAddrA, idxA, idxArr, lenA, unA, binA, num2, binV, eqA, rowOf, PV.cells, PV.cell, bndA, appA, reduceIte, reduceCtorEq, Nat.reduceAdd, Nat.reduceSub, Nat.reduceEqDiff, Nat.reduceLeDiff, Nat.reduceLT, Nat.reduceMul, Nat.reduceBEq, Nat.reduceBNe, Int.reduceToNat, Int.reduceLE, Int.reduceLT, allocX, setPs, extremeA, ints, resAll, rinfOk, packR]
      exact .inr trivial
  · omega

theorem ok105 (ea eb : Bool) (a b : List Fr) : Ok Tryz.prog 105 [.sl ea (frs a), .sl eb (frs b)] (.fn (.func 125) [.vp [.sl ea (frs a)], .vp [.sl eb (frs b)]]) := by
  refine ok_fn mixed Tryz.func105 (code := ?_) (h := h105) ?_ k105 ?_
  rotate_left
  · exact rfl
  unfold h105 initS
  simp -implicitDefEqProofs only [rkA, stepA, valA, storeA, ldA, fieldAddrA, fieldA, idxAddrA, idxA, idxArr, lenA, unA, binA, num2, binV, eqA, rowOf, PV.cells, PV.cell, bndA, appA, reduceIte, reduceCtorEq, Nat.reduceAdd, Nat.reduceSub, Nat.reduceEqDiff, Nat.reduceLeDiff, Nat.reduceLT, Nat.reduceMul, Nat.reduceBEq, Nat.reduceBNe, Int.reduceToNat, Int.reduceLE, Int.reduceLT, allocX, setPs, extremeA, ints, resAll, rinfOk, packR, Tryz.ntmps105, Tryz.results105]
end Go.Proofs.YtipchjfcjbghnaaGreat.A.E


set_option linter.unusedVariables false
set_option linter.unusedSimpArgs false
set_option maxRecDepth 100000
namespace Go.Proofs.YtipchjfcjbghnaaGreat.A.E
open Go Go.RowKit Go.Shelf

theorem ok77 (k : Nat) (F : Fr → Fr → Fr) (hF : ∀ x y, Ok Tryz.prog k [frV x, frV y] (frV (F x y))) (ea eb : Bool) (a b : List Fr) (ha : a.length ≤ 4398046511104) (hb : b.length ≤ 4398046511104) :
    Ok Tryz.prog 77 [.sl ea (frs a), .sl eb (frs b), .fn (.func k) []] (.sl false (frs (List.zipWith F a b))) := by
  refine ok_fn mixed Tryz.func77 (code := ?_) (h := h77) ?_ k77 ?_
  rotate_left
  · exact rfl
  unfold h77 initS
  simp -implicitDefEqProofs only [rkA, stepA, valA, storeA, ldA, fieldAddrA, fieldA, idxAddrA, idxA, idxArr, lenA, unA, binA, num2, binV, eqA, rowOf, PV.cells, PV.cell, bndA, appA, reduceIte, reduceCtorEq, Nat.reduceAdd, Nat.reduceSub, Nat.reduceEqDiff, Nat.reduceLeDiff, Nat.reduceLT, Nat.reduceMul, Nat.reduceBEq, Nat.reduceBNe, Int.reduceToNat, Int.reduceLE, Int.reduceLT, allocX, setPs, extremeA, ints, resAll, rinfOk, packR, Tryz.ntmps77, Tryz.results77]
  refine call_fn rfl rfl rfl (ok105 ea eb a b) ?_
  simp -implicitDefEqProofs only [rkA, stepA, valA, storeA, ldA, fieldAddrA, fieldA, idxAddrA, idxA, idxArr, lenA, unA, binA, num2, binV, eqA, rowOf, PV.cells, PV.cell, bndA, appA, reduceIte, reduceCtorEq, Nat.reduceAdd, Nat.reduceSub, Nat.reduceEqDiff, Nat.reduceLeDiff, Nat.reduceLT, Nat.reduceMul, Nat.reduceBEq, Nat.reduceBNe, Int.reduceToNat, Int.reduceLE, Int.reduceLT, allocX, setPs, extremeA, ints, resAll, rinfOk, packR]
  have hlz : (List.zipWith F a b).length = min a.length b.length := by simp
  have hpl : (pairsF a b).length = min a.length b.length := by simp [pairsF]
  refine wp_rf (items := pairsF a b) rfl (it125 ea eb a b ha hb) (fun i s => i ≤ (pairsF a b).length ∧ s = ⟨[], [(5, [.v (.fn (.func k) [])]), (7, [.acc 1007 (frs ((List.zipWith F a b).take i))])], [], [(6, 0), (1007, i)],
    [[.v (.sl ea (frs a)), .v (.sl eb (frs b)), .v (.fn (.func k) []), jk, jk, .ptr 5 0, .acc 6 [], .ptr 7 0, jk, jk, .v (.sl ea (frs a)), .v (.sl eb (frs b)), .v (.fn (.func 125) [.vp [.sl ea (frs a)], .vp [.sl eb (frs b)]]), jk, jk, jk, jk, jk, jk, jk, jk, jk, jk]], 0, nomem⟩) ?_ ?_ ?_
  · simp -implicitDefEqProofs only [rkA, stepA, valA, storeA, ldA, fieldAddrA, fieldA, idxAddrA, idxA, idxArr, lenA, unA, binA, num2, binV, eqA, rowOf, PV.cells, PV.cell, bndA, appA, reduceIte, reduceCtorEq, Nat.reduceAdd, Nat.reduceSub, Nat.reduceEqDiff, Nat.reduceLeDiff, Nat.reduceLT, Nat.reduceMul, Nat.reduceBEq, Nat.reduceBNe, Int.reduceToNat, Int.reduceLE, Int.reduceLT, allocX, setPs, extremeA, ints, resAll, rinfOk, packR]
    exact Nat.zero_le _
  · rintro i x' s' R hx ⟨hi, rfl⟩ hR
    have hlt : i < (pairsF a b).length := (List.getElem?_eq_some_iff.1 hx).1
    have h1 : i < a.length := by omega
    have h2 : i < b.length := by omega
    have hx' : x' = [frV a[i], frV b[i]] := by
      rw [pairsF, List.getElem?_map, List.getElem?_eq_getElem (by simp; omega), Option.map_some, List.getElem_zip] at hx
      exact (Option.some.inj hx).symm
    subst hx'
    refine ⟨rfl, ?_⟩
    simp -implicitDefEqProofs only [rkA, stepA, valA, storeA, ldA, fieldAddrA, fieldA, idxAddrA, idxA, idxArr, lenA, unA, binA, num2, binV, eqA, rowOf, PV.cells, PV.cell, bndA, appA, reduceIte, reduceCtorEq, Nat.reduceAdd, Nat.reduceSub, Nat.reduceEqDiff, Nat.reduceLeDiff, Nat.reduceLT, Nat.reduceMul, Nat.reduceBEq, Nat.reduceBNe, Int.reduceToNat, Int.reduceLE, Int.reduceLT, allocX, setPs, extremeA, ints, resAll, rinfOk, packR]
    refine call_fn rfl rfl rfl (hF a[i] b[i]) ?_
    have hfit : fits 4 32 (frs ((List.zipWith F a b).take i)) [frV (F a[i] b[i])] = true := fits_frs (l := [F a[i] b[i]]) (by simp; omega)
    have hl : (frs ((List.zipWith F a b).take i)).length = i := by simp; omega
    simp -implicitDefEqProofs only [hfit, hl, rkA, stepA, valA, storeA, ldA, fieldAddrA, fieldA, idxAddrA, idxA, idxArr, lenA, unA, binA, num2, binV, eqA, rowOf, PV.cells, PV.cell, bndA, appA, reduceIte, reduceCtorEq, Nat.reduceAdd, Nat.reduceSub, Nat.reduceEqDiff, Nat.reduceLeDiff, Nat.reduceLT, Nat.reduceMul, Nat.reduceBEq, Nat.reduceBNe, Int.reduceToNat, Int.reduceLE, Int.reduceLT, allocX, setPs, extremeA, ints, resAll, rinfOk, packR]
    refine hR _ ⟨by omega, ?_⟩
    rw [List.take_succ_eq_append_getElem (by simp; omega)]
    simp only [frs, List.map_append, List.map_cons, List.map_nil, List.getElem_zipWith]
  · rintro s' ⟨hi, rfl⟩
    simp -implicitDefEqProofs only [rkA, stepA, valA, storeA, ldA, fieldAddrA, fieldA, idxAddrA, idxA, idxArr, lenA, unA, binA, num2, binV, eqA, rowOf, PV.cells, PV.cell, bndA, appA, reduceIte, reduceCtorEq, Nat.reduceAdd, Nat.reduceSub, Nat.reduceEqDiff, Nat.reduceLeDiff, Nat.reduceLT, Nat.reduceMul, Nat.reduceBEq, Nat.reduceBNe, Int.reduceToNat, Int.reduceLE, Int.reduceLT, allocX, setPs, extremeA, ints, resAll, rinfOk, packR]
    rw [List.take_of_length_le (by simp; omega)]

def dotF (a b : List Fr) : Fr := sumF (List.zipWith mulF a b)

theorem ok35 (ea eb : Bool) (a b : List Fr) (ha : a.length ≤ 4398046511104) (hb : b.length ≤ 4398046511104) : Ok Tryz.prog 35 [.sl ea (frs a), .sl eb (frs b)] (frV (dotF a b)) := by
  refine ok_fn mixed Tryz.func35 (code := ?_) (h := h35) ?_ k35 ?_
  rotate_left
  · exact rfl
  unfold h35 initS
  simp -implicitDefEqProofs only [rkA, stepA, valA, storeA, ldA, fieldAddrA, fieldA, idxAddrA, idxA, idxArr, lenA, unA, binA, num2, binV, eqA, rowOf, PV.cells, PV.cell, bndA, appA, reduceIte, reduceCtorEq, Nat.reduceAdd, Nat.reduceSub, Nat.reduceEqDiff, Nat.reduceLeDiff, Nat.reduceLT, Nat.reduceMul, Nat.reduceBEq, Nat.reduceBNe, Int.reduceToNat, Int.reduceLE, Int.reduceLT, allocX, setPs, extremeA, ints, resAll, rinfOk, packR, Tryz.ntmps35, Tryz.results35]
  refine call_fn rfl rfl rfl (ok77 78 mulF ok78 ea eb a b ha hb) ?_
  simp -implicitDefEqProofs only [rkA, stepA, valA, storeA, ldA, fieldAddrA, fieldA, idxAddrA, idxA, idxArr, lenA, unA, binA, num2, binV, eqA, rowOf, PV.cells, PV.cell, bndA, appA, reduceIte, reduceCtorEq, Nat.reduceAdd, Nat.reduceSub, Nat.reduceEqDiff, Nat.reduceLeDiff, Nat.reduceLT, Nat.reduceMul, Nat.reduceBEq, Nat.reduceBNe, Int.reduceToNat, Int.reduceLE, Int.reduceLT, allocX, setPs, extremeA, ints, resAll, rinfOk, packR]
  refine call_fn rfl rfl rfl (ok76 false (List.zipWith mulF a b) (by simp; omega)) ?_
  simp -implicitDefEqProofs only [rkA, stepA, valA, storeA, ldA, fieldAddrA, fieldA, idxAddrA, idxA, idxArr, lenA, unA, binA, num2, binV, eqA, rowOf, PV.cells, PV.cell, bndA, appA, reduceIte, reduceCtorEq, Nat.reduceAdd, Nat.reduceSub, Nat.reduceEqDiff, Nat.reduceLeDiff, Nat.reduceLT, Nat.reduceMul, Nat.reduceBEq, Nat.reduceBNe, Int.reduceToNat, Int.reduceLE, Int.reduceLT, allocX, setPs, extremeA, ints, resAll, rinfOk, packR, dotF]

/-- A matrix, turned. -/
def turnF (r c : Int) (l : List Fr) : List Fr := if right r c l.length = true then (List.range c.toNat).flatMap fun (k : Nat) => (List.range r.toNat).map fun (i : Nat) => atF r c l i k else []

/-- Of a turned matrix, what is told so far. -/
def turnP (r c : Int) (l : List Fr) (k i : Nat) : List Fr := (List.range k).flatMap (fun (k : Nat) => (List.range r.toNat).map fun (i : Nat) => atF r c l i k) ++ (List.range i).map fun (i : Nat) => atF r c l i k
theorem turnP_succ (r c : Int) (l : List Fr) (k i : Nat) : turnP r c l k (i + 1) = turnP r c l k i ++ [atF r c l i k] := by
  simp [turnP, List.range_succ]
theorem turnP_next (r c : Int) (l : List Fr) (k : Nat) : turnP r c l k r.toNat = turnP r c l (k + 1) 0 := by
  simp [turnP, List.range_succ]
theorem turnP_length (r c : Int) (l : List Fr) (k i : Nat) : (turnP r c l k i).length = k * r.toNat + i := by
  simp [turnP, List.length_flatMap, List.map_const', List.sum_replicate_nat]

theorem ok40 (ex : Bool) (r c : Int) (l : List Fr) : Ok Tryz.prog 40 [matV ex r c (frs l)] (if right r c l.length = true then matV false c r (frs (turnF r c l)) else matNil) := by
  refine ok_fn mixed Tryz.func40 (code := ?_) (h := h40) ?_ k40 ?_
  rotate_left
  · exact rfl
  unfold h40 initS
  simp -implicitDefEqProofs only [rkA, stepA, valA, storeA, ldA, fieldAddrA, fieldA, idxAddrA, idxA, idxArr, lenA, unA, binA, num2, binV, eqA, rowOf, PV.cells, PV.cell, bndA, appA, reduceIte, reduceCtorEq, Nat.reduceAdd, Nat.reduceSub, Nat.reduceEqDiff, Nat.reduceLeDiff, Nat.reduceLT, Nat.reduceMul, Nat.reduceBEq, Nat.reduceBNe, Int.reduceToNat, Int.reduceLE, Int.reduceLT, allocX, setPs, extremeA, ints, resAll, rinfOk, packR, Tryz.ntmps40, Tryz.results40]
  refine call_fn rfl rfl rfl (ok33 ex r c (frs l)) ?_
  have e : (frs l).length = l.length := by simp
  rw [e]
  cases hr : right r c l.length with
  | false => simp -implicitDefEqProofs only [rkA, stepA, valA, storeA, ldA, fieldAddrA, fieldA, idxAddrA, idxA, idxArr, lenA, unA, binA, num2, binV, eqA, rowOf, PV.cells, PV.cell, bndA, appA, reduceIte, reduceCtorEq, Nat.reduceAdd, Nat.reduceSub, Nat.reduceEqDiff, Nat.reduceLeDiff, Nat.reduceLT, Nat.reduceMul, Nat.reduceBEq, Nat.reduceBNe, Int.reduceToNat, Int.reduceLE, Int.reduceLT, allocX, setPs, extremeA, ints, resAll, rinfOk, packR]
  | true =>
    obtain ⟨r1, r2, c1, c2, hn⟩ := right_spec hr
    simp -implicitDefEqProofs only [rkA, stepA, valA, storeA, ldA, fieldAddrA, fieldA, idxAddrA, idxA, idxArr, lenA, unA, binA, num2, binV, eqA, rowOf, PV.cells, PV.cell, bndA, appA, reduceIte, reduceCtorEq, Nat.reduceAdd, Nat.reduceSub, Nat.reduceEqDiff, Nat.reduceLeDiff, Nat.reduceLT, Nat.reduceMul, Nat.reduceBEq, Nat.reduceBNe, Int.reduceToNat, Int.reduceLE, Int.reduceLT, allocX, setPs, extremeA, ints, resAll, rinfOk, packR]
    refine wp_loop (fun m s => ∃ k : Nat, k + m = c.toNat ∧ s = ⟨[jk, .ptr 1 0, .ptr 2 0, .ptr 3 0, jk, jk, jk, jk, jk, jk, jk, jk, jk, jk, jk, jk, .v (num c), nt k, jk, jk, jk, jk, jk, jk, jk, jk, jk, jk, jk, jk, jk, jk, jk, jk, jk, jk, jk], [(1, [.v (num r), .v (num c), .v (.sl ex (frs l))]), (2, [nt 0, nt 0, .acc 3002 []]), (3, [nt c, nt r, .acc 15003 (frs (turnP r c l k 0))])], [],
      [(3002, 0), (3003, 0), (15003, (turnP r c l k 0).length)], [], 0, nomem⟩) c.toNat ?_ ?_
    · simp -implicitDefEqProofs only [rkA, stepA, valA, storeA, ldA, fieldAddrA, fieldA, idxAddrA, idxA, idxArr, lenA, unA, binA, num2, binV, eqA, rowOf, PV.cells, PV.cell, bndA, appA, reduceIte, reduceCtorEq, Nat.reduceAdd, Nat.reduceSub, Nat.reduceEqDiff, Nat.reduceLeDiff, Nat.reduceLT, Nat.reduceMul, Nat.reduceBEq, Nat.reduceBNe, Int.reduceToNat, Int.reduceLE, Int.reduceLT, allocX, setPs, extremeA, ints, resAll, rinfOk, packR]
      exact ⟨0, by simp, rfl⟩
    rintro m s ⟨k, hk, rfl⟩
    simp -implicitDefEqProofs only [rkA, stepA, valA, storeA, ldA, fieldAddrA, fieldA, idxAddrA, idxA, idxArr, lenA, unA, binA, num2, binV, eqA, rowOf, PV.cells, PV.cell, bndA, appA, reduceIte, reduceCtorEq, Nat.reduceAdd, Nat.reduceSub, Nat.reduceEqDiff, Nat.reduceLeDiff, Nat.reduceLT, Nat.reduceMul, Nat.reduceBEq, Nat.reduceBNe, Int.reduceToNat, Int.reduceLE, Int.reduceLT, allocX, setPs, extremeA, ints, resAll, rinfOk, packR]
    refine gB_dec ?_ ?_ <;> intro hc <;> simp -implicitDefEqProofs only [hc, rkA, stepA, valA, storeA, ldA, fieldAddrA, fieldA, idxAddrA, idxA, idxArr, lenA, unA, binA, num2, binV, eqA, rowOf, PV.cells, PV.cell, bndA, appA, reduceIte, reduceCtorEq, Nat.reduceAdd, Nat.reduceSub, Nat.reduceEqDiff, Nat.reduceLeDiff, Nat.reduceLT, Nat.reduceMul, Nat.reduceBEq, Nat.reduceBNe, Int.reduceToNat, Int.reduceLE, Int.reduceLT, allocX, setPs, extremeA, ints, resAll, rinfOk, packR]
    · refine wp_loop (fun m s => ∃ i : Nat, i + m = r.toNat ∧ s = ⟨[jk, .ptr 1 0, .ptr 2 0, .ptr 3 0, nt k, jk, jk, jk, jk, jk, jk, jk, jk, jk, jk, jk, .v (num c), nt k, jk, jk, jk, nt r, nt i, jk, jk, jk, jk, jk, jk, jk, jk, jk, jk, jk, jk, jk, jk], [(1, [.v (num r), .v (num c), .v (.sl ex (frs l))]), (2, [nt 0, nt 0, .acc 3002 []]), (3, [nt c, nt r, .acc 15003 (frs (turnP r c l k i))])], [],
        [(3002, 0), (3003, 0), (15003, (turnP r c l k i).length)], [], 0, nomem⟩) r.toNat ?_ ?_
      · simp -implicitDefEqProofs only [rkA, stepA, valA, storeA, ldA, fieldAddrA, fieldA, idxAddrA, idxA, idxArr, lenA, unA, binA, num2, binV, eqA, rowOf, PV.cells, PV.cell, bndA, appA, reduceIte, reduceCtorEq, Nat.reduceAdd, Nat.reduceSub, Nat.reduceEqDiff, Nat.reduceLeDiff, Nat.reduceLT, Nat.reduceMul, Nat.reduceBEq, Nat.reduceBNe, Int.reduceToNat, Int.reduceLE, Int.reduceLT, allocX, setPs, extremeA, ints, resAll, rinfOk, packR]
        exact ⟨0, by simp, rfl⟩
      rintro m' s ⟨i, hi, rfl⟩
      simp -implicitDefEqProofs only [rkA, stepA, valA, storeA, ldA, fieldAddrA, fieldA, idxAddrA, idxA, idxArr, lenA, unA, binA, num2, binV, eqA, rowOf, PV.cells, PV.cell, bndA, appA, reduceIte, reduceCtorEq, Nat.reduceAdd, Nat.reduceSub, Nat.reduceEqDiff, Nat.reduceLeDiff, Nat.reduceLT, Nat.reduceMul, Nat.reduceBEq, Nat.reduceBNe, Int.reduceToNat, Int.reduceLE, Int.reduceLT, allocX, setPs, extremeA, ints, resAll, rinfOk, packR]
      have hlen := turnP_length r c l k i
      have hb : k * r.toNat + i ≤ 256 := by
        have : (k + 1) * r.toNat ≤ 16 * 16 := Nat.mul_le_mul (by omega) (by omega)
        rw [Nat.add_mul] at this
        omega
      refine gB_dec ?_ ?_ <;> intro hc2 <;> simp -implicitDefEqProofs only [hc2, rkA, stepA, valA, storeA, ldA, fieldAddrA, fieldA, idxAddrA, idxA, idxArr, lenA, unA, binA, num2, binV, eqA, rowOf, PV.cells, PV.cell, bndA, appA, reduceIte, reduceCtorEq, Nat.reduceAdd, Nat.reduceSub, Nat.reduceEqDiff, Nat.reduceLeDiff, Nat.reduceLT, Nat.reduceMul, Nat.reduceBEq, Nat.reduceBNe, Int.reduceToNat, Int.reduceLE, Int.reduceLT, allocX, setPs, extremeA, ints, resAll, rinfOk, packR]
      · refine call_fn rfl rfl rfl (ok59 ex r c i k l) ?_
        have hfit : fits 4 32 (frs (turnP r c l k i)) [frV (atF r c l i k)] = true := fits_frs (l := [atF r c l i k]) (by simp only [List.length_cons, List.length_nil]; omega)
        have hl : (frs (turnP r c l k i)).length = (turnP r c l k i).length := by simp
        have hw := wrapped (x := (i : Int) + 1) (by omega) (by omega)
        simp -implicitDefEqProofs only [hfit, hl, hw, rkA, stepA, valA, storeA, ldA, fieldAddrA, fieldA, idxAddrA, idxA, idxArr, lenA, unA, binA, num2, binV, eqA, rowOf, PV.cells, PV.cell, bndA, appA, reduceIte, reduceCtorEq, Nat.reduceAdd, Nat.reduceSub, Nat.reduceEqDiff, Nat.reduceLeDiff, Nat.reduceLT, Nat.reduceMul, Nat.reduceBEq, Nat.reduceBNe, Int.reduceToNat, Int.reduceLE, Int.reduceLT, allocX, setPs, extremeA, ints, resAll, rinfOk, packR]
        refine loopK_of (m' := m' - 1) (by omega) ?_
        simp -implicitDefEqProofs only [rkA, stepA, valA, storeA, ldA, fieldAddrA, fieldA, idxAddrA, idxA, idxArr, lenA, unA, binA, num2, binV, eqA, rowOf, PV.cells, PV.cell, bndA, appA, reduceIte, reduceCtorEq, Nat.reduceAdd, Nat.reduceSub, Nat.reduceEqDiff, Nat.reduceLeDiff, Nat.reduceLT, Nat.reduceMul, Nat.reduceBEq, Nat.reduceBNe, Int.reduceToNat, Int.reduceLE, Int.reduceLT, allocX, setPs, extremeA, ints, resAll, rinfOk, packR]
        refine ⟨i + 1, by omega, ?_⟩
        rw [turnP_succ]
        simp only [frs, List.map_append, List.map_cons, List.map_nil, List.length_append, List.length_cons, List.length_nil, Int.natCast_add, Int.natCast_one]
      · have hw := wrapped (x := (k : Int) + 1) (by omega) (by omega)
        simp -implicitDefEqProofs only [hw, rkA, stepA, valA, storeA, ldA, fieldAddrA, fieldA, idxAddrA, idxA, idxArr, lenA, unA, binA, num2, binV, eqA, rowOf, PV.cells, PV.cell, bndA, appA, reduceIte, reduceCtorEq, Nat.reduceAdd, Nat.reduceSub, Nat.reduceEqDiff, Nat.reduceLeDiff, Nat.reduceLT, Nat.reduceMul, Nat.reduceBEq, Nat.reduceBNe, Int.reduceToNat, Int.reduceLE, Int.reduceLT, allocX, setPs, extremeA, ints, resAll, rinfOk, packR]
        refine loopK_of (m' := m - 1) (by omega) ?_
        simp -implicitDefEqProofs only [rkA, stepA, valA, storeA, ldA, fieldAddrA, fieldA, idxAddrA, idxA, idxArr, lenA, unA, binA, num2, binV, eqA, rowOf, PV.cells, PV.cell, bndA, appA, reduceIte, reduceCtorEq, Nat.reduceAdd, Nat.reduceSub, Nat.reduceEqDiff, Nat.reduceLeDiff, Nat.reduceLT, Nat.reduceMul, Nat.reduceBEq, Nat.reduceBNe, Int.reduceToNat, Int.reduceLE, Int.reduceLT, allocX, setPs, extremeA, ints, resAll, rinfOk, packR]
        refine ⟨k + 1, by omega, ?_⟩
        have hi2 : i = r.toNat := by omega
        rw [hi2, turnP_next]
        simp only [Int.natCast_add, Int.natCast_one]
    · have hk2 : k = c.toNat := by omega
      have : turnF r c l = turnP r c l k 0 := by
        rw [hk2]
        simp [turnF, hr, turnP]
      rw [this]
end Go.Proofs.YtipchjfcjbghnaaGreat.A.E


set_option linter.unusedVariables false
set_option linter.unusedSimpArgs false
set_option maxRecDepth 100000
namespace Go.Proofs.YtipchjfcjbghnaaGreat.A.E
open Go Go.RowKit Go.Shelf

theorem turnF_length {r c : Int} {l : List Fr} (h : right r c l.length = true) : (turnF r c l).length = c.toNat * r.toNat := by
  have : turnF r c l = turnP r c l c.toNat 0 := by simp [turnF, h, turnP]
  rw [this, turnP_length, Nat.add_zero]

theorem right_turn {r c : Int} {l : List Fr} (h : right r c l.length = true) : right c r (turnF r c l).length = true := by
  obtain ⟨r1, r2, c1, c2, hn⟩ := right_spec h
  rw [turnF_length h]
  simp only [right, Bool.and_eq_true, decide_eq_true_eq, beq_iff_eq]
  refine ⟨by omega, by omega, ?_⟩
  rw [Int.natCast_mul, Int.toNat_of_nonneg (by omega), Int.toNat_of_nonneg (by omega)]

section
variable {α β : Type} (f : α → α → β)
end

/-- All rows. -/
def allF (r c : Int) (l : List Fr) : List (List Fr) := (List.range r.toNat).map fun (i : Nat) => rowF r c l (i : Int)
def prodF (r m c : Int) (a b : List Fr) : List Fr := (allF r m a).flatMap fun x => (allF c m (turnF m c b)).map (dotF x)

theorem allF_length (r c : Int) (l : List Fr) : (allF r c l).length = r.toNat := by simp [allF]
theorem rowsF_all {r c : Int} {l : List Fr} (h : right r c l.length = true) {i : Nat} {x : List PV} (hx : (rowsF r c l)[i]? = some x) : i < r.toNat ∧ x = [num i, .sl false (frs (rowF r c l i))] ∧ (allF r c l)[i]? = some (rowF r c l i) := by
  obtain ⟨hi, rfl⟩ := List.getElem?_eq_some_iff.1 hx
  have hi' : i < r.toNat := by simpa [rowsF, h] using hi
  refine ⟨hi', by simp [rowsF, h], by simp [allF, hi']⟩
theorem rowsF_length {r c : Int} {l : List Fr} (h : right r c l.length = true) : (rowsF r c l).length = r.toNat := by simp [rowsF, h]
theorem rowF_length {r c : Int} {l : List Fr} (i : Int) : (rowF r c l i).length ≤ l.length := by
  unfold rowF
  split <;> simp <;> omega

theorem ok37 (ea eb : Bool) (r m m2 c : Int) (a b : List Fr) : Ok Tryz.prog 37 [matV ea r m (frs a), matV eb m2 c (frs b)]
    (if right r m a.length = true ∧ right m2 c b.length = true ∧ m = m2 then .tup [matV false r c (frs (prodF r m c a b)), tru true] else .tup [matNil, tru false]) := by
  refine ok_fn mixed Tryz.func37 (code := ?_) (h := h37) ?_ k37 ?_
  rotate_left
  · exact rfl
  unfold h37 initS
  simp -implicitDefEqProofs only [rkA, stepA, valA, storeA, ldA, fieldAddrA, fieldA, idxAddrA, idxA, idxArr, lenA, unA, binA, num2, binV, eqA, rowOf, PV.cells, PV.cell, bndA, appA, reduceIte, reduceCtorEq, Nat.reduceAdd, Nat.reduceSub, Nat.reduceEqDiff, Nat.reduceLeDiff, Nat.reduceLT, Nat.reduceMul, Nat.reduceBEq, Nat.reduceBNe, Int.reduceToNat, Int.reduceLE, Int.reduceLT, allocX, setPs, extremeA, ints, resAll, rinfOk, packR, Tryz.ntmps37, Tryz.results37]
  refine call_fn rfl rfl rfl (ok33 ea r m (frs a)) ?_
  have e : (frs a).length = a.length := by simp
  have e' : (frs b).length = b.length := by simp
  rw [e]
  cases hr : right r m a.length with
  | false =>
    simp -implicitDefEqProofs only [rkA, stepA, valA, storeA, ldA, fieldAddrA, fieldA, idxAddrA, idxA, idxArr, lenA, unA, binA, num2, binV, eqA, rowOf, PV.cells, PV.cell, bndA, appA, reduceIte, reduceCtorEq, Nat.reduceAdd, Nat.reduceSub, Nat.reduceEqDiff, Nat.reduceLeDiff, Nat.reduceLT, Nat.reduceMul, Nat.reduceBEq, Nat.reduceBNe, Int.reduceToNat, Int.reduceLE, Int.reduceLT, allocX, setPs, extremeA, ints, resAll, rinfOk, packR]
  | true =>
    simp -implicitDefEqProofs only [rkA, stepA, valA, storeA, ldA, fieldAddrA, fieldA, idxAddrA, idxA, idxArr, lenA, unA, binA, num2, binV, eqA, rowOf, PV.cells, PV.cell, bndA, appA, reduceIte, reduceCtorEq, Nat.reduceAdd, Nat.reduceSub, Nat.reduceEqDiff, Nat.reduceLeDiff, Nat.reduceLT, Nat.reduceMul, Nat.reduceBEq, Nat.reduceBNe, Int.reduceToNat, Int.reduceLE, Int.reduceLT, allocX, setPs, extremeA, ints, resAll, rinfOk, packR]
    refine call_fn rfl rfl rfl (ok33 eb m2 c (frs b)) ?_
    rw [e']
    cases hr2 : right m2 c b.length with
    | false => simp -implicitDefEqProofs only [rkA, stepA, valA, storeA, ldA, fieldAddrA, fieldA, idxAddrA, idxA, idxArr, lenA, unA, binA, num2, binV, eqA, rowOf, PV.cells, PV.cell, bndA, appA, reduceIte, reduceCtorEq, Nat.reduceAdd, Nat.reduceSub, Nat.reduceEqDiff, Nat.reduceLeDiff, Nat.reduceLT, Nat.reduceMul, Nat.reduceBEq, Nat.reduceBNe, Int.reduceToNat, Int.reduceLE, Int.reduceLT, allocX, setPs, extremeA, ints, resAll, rinfOk, packR]
    | true =>
      obtain ⟨r1, r2, c1, c2, hn⟩ := right_spec hr
      obtain ⟨m1, m3, d1, d2, hn2⟩ := right_spec hr2
      simp -implicitDefEqProofs only [rkA, stepA, valA, storeA, ldA, fieldAddrA, fieldA, idxAddrA, idxA, idxArr, lenA, unA, binA, num2, binV, eqA, rowOf, PV.cells, PV.cell, bndA, appA, reduceIte, reduceCtorEq, Nat.reduceAdd, Nat.reduceSub, Nat.reduceEqDiff, Nat.reduceLeDiff, Nat.reduceLT, Nat.reduceMul, Nat.reduceBEq, Nat.reduceBNe, Int.reduceToNat, Int.reduceLE, Int.reduceLT, allocX, setPs, extremeA, ints, resAll, rinfOk, packR]
      refine gB_bool ?_ ?_ <;> intro hb
      · have hm : m ≠ m2 := by simpa using hb
        simp -implicitDefEqProofs only [hm, rkA, stepA, valA, storeA, ldA, fieldAddrA, fieldA, idxAddrA, idxA, idxArr, lenA, unA, binA, num2, binV, eqA, rowOf, PV.cells, PV.cell, bndA, appA, reduceIte, reduceCtorEq, Nat.reduceAdd, Nat.reduceSub, Nat.reduceEqDiff, Nat.reduceLeDiff, Nat.reduceLT, Nat.reduceMul, Nat.reduceBEq, Nat.reduceBNe, Int.reduceToNat, Int.reduceLE, Int.reduceLT, allocX, setPs, extremeA, ints, resAll, rinfOk, packR]
      · have hm : m = m2 := by simpa using hb
        clear hb
        subst hm
        simp -implicitDefEqProofs only [rkA, stepA, valA, storeA, ldA, fieldAddrA, fieldA, idxAddrA, idxA, idxArr, lenA, unA, binA, num2, binV, eqA, rowOf, PV.cells, PV.cell, bndA, appA, reduceIte, reduceCtorEq, Nat.reduceAdd, Nat.reduceSub, Nat.reduceEqDiff, Nat.reduceLeDiff, Nat.reduceLT, Nat.reduceMul, Nat.reduceBEq, Nat.reduceBNe, Int.reduceToNat, Int.reduceLE, Int.reduceLT, allocX, setPs, extremeA, ints, resAll, rinfOk, packR]
        have h25 := ok40 eb m c b
        rw [if_pos hr2] at h25
        refine call_fn rfl rfl rfl (h25) ?_
        simp -implicitDefEqProofs only [rkA, stepA, valA, storeA, ldA, fieldAddrA, fieldA, idxAddrA, idxA, idxArr, lenA, unA, binA, num2, binV, eqA, rowOf, PV.cells, PV.cell, bndA, appA, reduceIte, reduceCtorEq, Nat.reduceAdd, Nat.reduceSub, Nat.reduceEqDiff, Nat.reduceLeDiff, Nat.reduceLT, Nat.reduceMul, Nat.reduceBEq, Nat.reduceBNe, Int.reduceToNat, Int.reduceLE, Int.reduceLT, allocX, setPs, extremeA, ints, resAll, rinfOk, packR]
        refine call_fn rfl rfl rfl (ok75 ea r m a) ?_
        simp -implicitDefEqProofs only [rkA, stepA, valA, storeA, ldA, fieldAddrA, fieldA, idxAddrA, idxA, idxArr, lenA, unA, binA, num2, binV, eqA, rowOf, PV.cells, PV.cell, bndA, appA, reduceIte, reduceCtorEq, Nat.reduceAdd, Nat.reduceSub, Nat.reduceEqDiff, Nat.reduceLeDiff, Nat.reduceLT, Nat.reduceMul, Nat.reduceBEq, Nat.reduceBNe, Int.reduceToNat, Int.reduceLE, Int.reduceLT, allocX, setPs, extremeA, ints, resAll, rinfOk, packR]
        have hrt := right_turn hr2
        have hpl : ∀ i k, i < r.toNat → k ≤ c.toNat → (prodP dotF (allF r m a) (allF c m (turnF m c b)) i k).length = i * c.toNat + k := fun i k hi hk => by
          rw [prodP_length dotF (by rw [allF_length]; exact hi) (by rw [allF_length]; exact hk), allF_length]
        have hbig : ∀ i k, i < r.toNat → k ≤ c.toNat → i * c.toNat + k ≤ 256 := fun i k hi hk => by
          have : (i + 1) * c.toNat ≤ 16 * 16 := Nat.mul_le_mul (by omega) (by omega)
          rw [Nat.add_mul] at this
          omega
        have hal : a.length ≤ 256 := by
          have : r * m ≤ 16 * 16 := Int.mul_le_mul r2 c2 (by omega) (by omega)
          omega
        have hbl : (turnF m c b).length ≤ 256 := by
          have h1 := turnF_length hr2
          have : c.toNat * m.toNat ≤ 16 * 16 := Nat.mul_le_mul (by omega) (by omega)
          omega
        refine wp_rf' (items := rowsF r m a) rfl (it103 ea r m a) (fun sv i s => i ≤ r.toNat ∧ s = ⟨[], [(2, [nt r, nt m, .v (.sl ea (frs a))]), (3, [nt m, nt c, .v (.sl eb (frs b))]), (4, [nt 0, nt 0, .acc 3004 []]), (6, [nt r, nt c, .acc 15006 (frs (prodP dotF (allF r m a) (allF c m (turnF m c b)) i 0))]),
          (7, [nt c, nt m, .v (.sl false (frs (turnF m c b)))])], [], [(1009, 0), (3004, 0), (3006, 0), (3007, 0), (15006, (prodP dotF (allF r m a) (allF c m (turnF m c b)) i 0).length)], sv, 0, nomem⟩) ?_ ?_ ?_
        · simp -implicitDefEqProofs only [rkA, stepA, valA, storeA, ldA, fieldAddrA, fieldA, idxAddrA, idxA, idxArr, lenA, unA, binA, num2, binV, eqA, rowOf, PV.cells, PV.cell, bndA, appA, reduceIte, reduceCtorEq, Nat.reduceAdd, Nat.reduceSub, Nat.reduceEqDiff, Nat.reduceLeDiff, Nat.reduceLT, Nat.reduceMul, Nat.reduceBEq, Nat.reduceBNe, Int.reduceToNat, Int.reduceLE, Int.reduceLT, allocX, setPs, extremeA, ints, resAll, rinfOk, packR]
          exact ⟨Nat.zero_le _, by rw [prodP_zero]; exact rfl⟩
        · rintro i x' s' R hx ⟨hi, rfl⟩ hR
          obtain ⟨hlt, rfl, hxi⟩ := rowsF_all hr hx
          refine ⟨rfl, ?_⟩
          simp -implicitDefEqProofs only [rkA, stepA, valA, storeA, ldA, fieldAddrA, fieldA, idxAddrA, idxA, idxArr, lenA, unA, binA, num2, binV, eqA, rowOf, PV.cells, PV.cell, bndA, appA, reduceIte, reduceCtorEq, Nat.reduceAdd, Nat.reduceSub, Nat.reduceEqDiff, Nat.reduceLeDiff, Nat.reduceLT, Nat.reduceMul, Nat.reduceBEq, Nat.reduceBNe, Int.reduceToNat, Int.reduceLE, Int.reduceLT, allocX, setPs, extremeA, ints, resAll, rinfOk, packR]
          refine call_fn rfl rfl rfl (ok75 false c m (turnF m c b)) ?_
          simp -implicitDefEqProofs only [rkA, stepA, valA, storeA, ldA, fieldAddrA, fieldA, idxAddrA, idxA, idxArr, lenA, unA, binA, num2, binV, eqA, rowOf, PV.cells, PV.cell, bndA, appA, reduceIte, reduceCtorEq, Nat.reduceAdd, Nat.reduceSub, Nat.reduceEqDiff, Nat.reduceLeDiff, Nat.reduceLT, Nat.reduceMul, Nat.reduceBEq, Nat.reduceBNe, Int.reduceToNat, Int.reduceLE, Int.reduceLT, allocX, setPs, extremeA, ints, resAll, rinfOk, packR]
          refine wp_rf' (items := rowsF c m (turnF m c b)) rfl (it103 false c m (turnF m c b)) (fun sv k s => k ≤ c.toNat ∧ s = ⟨[], [(2, [nt r, nt m, .v (.sl ea (frs a))]), (3, [nt m, nt c, .v (.sl eb (frs b))]), (4, [nt 0, nt 0, .acc 3004 []]), (6, [nt r, nt c, .acc 15006 (frs (prodP dotF (allF r m a) (allF c m (turnF m c b)) i k))]),
            (7, [nt c, nt m, .v (.sl false (frs (turnF m c b)))]), (9, [.v (.sl false (frs (rowF r m a i)))])], [], [(1009, 0), (3004, 0), (3006, 0), (3007, 0), (15006, (prodP dotF (allF r m a) (allF c m (turnF m c b)) i k).length)], sv, 0, nomem⟩) ?_ ?_ ?_
          · simp -implicitDefEqProofs only [rkA, stepA, valA, storeA, ldA, fieldAddrA, fieldA, idxAddrA, idxA, idxArr, lenA, unA, binA, num2, binV, eqA, rowOf, PV.cells, PV.cell, bndA, appA, reduceIte, reduceCtorEq, Nat.reduceAdd, Nat.reduceSub, Nat.reduceEqDiff, Nat.reduceLeDiff, Nat.reduceLT, Nat.reduceMul, Nat.reduceBEq, Nat.reduceBNe, Int.reduceToNat, Int.reduceLE, Int.reduceLT, allocX, setPs, extremeA, ints, resAll, rinfOk, packR]
            exact Nat.zero_le _
          · rintro k x' s' R2 hx2 ⟨hk, rfl⟩ hR2
            obtain ⟨hlt2, rfl, hyk⟩ := rowsF_all hrt hx2
            refine ⟨rfl, ?_⟩
            simp -implicitDefEqProofs only [rkA, stepA, valA, storeA, ldA, fieldAddrA, fieldA, idxAddrA, idxA, idxArr, lenA, unA, binA, num2, binV, eqA, rowOf, PV.cells, PV.cell, bndA, appA, reduceIte, reduceCtorEq, Nat.reduceAdd, Nat.reduceSub, Nat.reduceEqDiff, Nat.reduceLeDiff, Nat.reduceLT, Nat.reduceMul, Nat.reduceBEq, Nat.reduceBNe, Int.reduceToNat, Int.reduceLE, Int.reduceLT, allocX, setPs, extremeA, ints, resAll, rinfOk, packR]
            have hra := rowF_length (r := r) (c := m) (l := a) i
            have hrb := rowF_length (r := c) (c := m) (l := turnF m c b) k
            refine call_fn rfl rfl rfl (ok35 false false (rowF r m a i) (rowF c m (turnF m c b) k) (by omega) (by omega)) ?_
            have h1 := hpl i k hlt (by omega)
            have h2 := hbig i k hlt (by omega)
            have hfit : fits 4 32 (frs (prodP dotF (allF r m a) (allF c m (turnF m c b)) i k)) [frV (dotF (rowF r m a i) (rowF c m (turnF m c b) k))] = true := fits_frs (l := [dotF (rowF r m a i) (rowF c m (turnF m c b) k)]) (by simp only [List.length_cons, List.length_nil]; omega)
            have hl : (frs (prodP dotF (allF r m a) (allF c m (turnF m c b)) i k)).length = (prodP dotF (allF r m a) (allF c m (turnF m c b)) i k).length := by simp
            simp -implicitDefEqProofs only [hfit, hl, rkA, stepA, valA, storeA, ldA, fieldAddrA, fieldA, idxAddrA, idxA, idxArr, lenA, unA, binA, num2, binV, eqA, rowOf, PV.cells, PV.cell, bndA, appA, reduceIte, reduceCtorEq, Nat.reduceAdd, Nat.reduceSub, Nat.reduceEqDiff, Nat.reduceLeDiff, Nat.reduceLT, Nat.reduceMul, Nat.reduceBEq, Nat.reduceBNe, Int.reduceToNat, Int.reduceLE, Int.reduceLT, allocX, setPs, extremeA, ints, resAll, rinfOk, packR]
            refine hR2 _ ⟨by omega, ?_⟩
            rw [prodP_succ dotF hxi hyk]
            simp only [frs, List.map_append, List.map_cons, List.map_nil, List.length_append, List.length_cons, List.length_nil]
          · rintro s' ⟨hk, rfl⟩
            simp -implicitDefEqProofs only [rkA, stepA, valA, storeA, ldA, fieldAddrA, fieldA, idxAddrA, idxA, idxArr, lenA, unA, binA, num2, binV, eqA, rowOf, PV.cells, PV.cell, bndA, appA, reduceIte, reduceCtorEq, Nat.reduceAdd, Nat.reduceSub, Nat.reduceEqDiff, Nat.reduceLeDiff, Nat.reduceLT, Nat.reduceMul, Nat.reduceBEq, Nat.reduceBNe, Int.reduceToNat, Int.reduceLE, Int.reduceLT, allocX, setPs, extremeA, ints, resAll, rinfOk, packR]
            refine hR _ ⟨by omega, ?_⟩
            have hnx := prodP_next dotF (xs := allF r m a) (ys := allF c m (turnF m c b)) (i := i) (by rw [allF_length]; exact hlt)
            rw [allF_length] at hnx
            rw [rowsF_length hrt, hnx]
        · rintro s' ⟨hi, rfl⟩
          simp -implicitDefEqProofs only [rkA, stepA, valA, storeA, ldA, fieldAddrA, fieldA, idxAddrA, idxA, idxArr, lenA, unA, binA, num2, binV, eqA, rowOf, PV.cells, PV.cell, bndA, appA, reduceIte, reduceCtorEq, Nat.reduceAdd, Nat.reduceSub, Nat.reduceEqDiff, Nat.reduceLeDiff, Nat.reduceLT, Nat.reduceMul, Nat.reduceBEq, Nat.reduceBNe, Int.reduceToNat, Int.reduceLE, Int.reduceLT, allocX, setPs, extremeA, ints, resAll, rinfOk, packR]
          have : prodF r m c a b = prodP dotF (allF r m a) (allF c m (turnF m c b)) (rowsF r m a).length 0 := by
            rw [prodP_zero, rowsF_length hr, ← allF_length r m a, List.take_length]
            rfl
          rw [this]
end Go.Proofs.YtipchjfcjbghnaaGreat.A.E


set_option linter.unusedVariables false
set_option linter.unusedSimpArgs false
namespace Go.Proofs.YtipchjfcjbghnaaGreat.A.E
open Go Go.RowKit Go.Shelf

theorem atF_eq {r c : Int} {l : List Fr} (h : right r c l.length = true) {i k : Nat} (hi : i < r.toNat) (hk : k < c.toNat) : atF r c l i k = l.getD (i * c.toNat + k) ⟨0, 0, 0, false⟩ := by
  obtain ⟨r1, r2, c1, c2, hn⟩ := right_spec h
  unfold atF
  rw [if_pos ⟨h, by omega, by omega, by omega, by omega⟩]
  congr 1
  obtain ⟨K, rfl⟩ := Int.eq_ofNat_of_zero_le (show 0 ≤ c by omega)
  have : (i : Int) * (K : Int) + (k : Int) = ((i * K + k : Nat) : Int) := by simp
  rw [this, Int.toNat_natCast, Int.toNat_natCast]

end Go.Proofs.YtipchjfcjbghnaaGreat.A.E


set_option linter.unusedVariables false
set_option linter.unusedSimpArgs false
set_option maxRecDepth 100000
namespace Go.Proofs.YtipchjfcjbghnaaGreat.A.E
open Go Go.RowKit Go.Shelf

/-! ### Whole numbers, enclosed: points -/
abbrev whole (n : Int) : Fr := ⟨n * 16777216, n * 16777216, n * 16777216, false⟩
def few (n : Int) : Prop := -67108864 ≤ n ∧ n ≤ 67108864
theorem natAbs_U (a : Int) : (a * 16777216).natAbs = a.natAbs * 16777216 := by rw [Int.natAbs_mul]; rfl
theorem signed_abs {x : Int} {b : Bool} (h : x = 0 ∨ b = decide (x < 0)) : (if b = true then -((x.natAbs : Nat) : Int) else ((x.natAbs : Nat) : Int)) = x := by
  rcases h with rfl | rfl
  · simp
  · by_cases h : x < 0
    · simp only [h, decide_true, if_true]
      omega
    · simp only [h, decide_false, Bool.false_eq_true, if_false]
      omega
theorem minus_mul (a b : Int) : a * b = 0 ∨ (decide (a < 0) != decide (b < 0)) = decide (a * b < 0) := by
  rcases Int.lt_trichotomy a 0 with ha | rfl | ha
  · rcases Int.lt_trichotomy b 0 with hb | rfl | hb
    · right
      have := Int.mul_pos_of_neg_of_neg ha hb
      rw [decide_eq_true ha, decide_eq_true hb, decide_eq_false (by omega)]; rfl
    · left; simp
    · right
      have := Int.mul_neg_of_neg_of_pos ha hb
      rw [decide_eq_true ha, decide_eq_false (by omega), decide_eq_true this]; rfl
  · left; simp
  · rcases Int.lt_trichotomy b 0 with hb | rfl | hb
    · right
      have := Int.mul_neg_of_pos_of_neg ha hb
      rw [decide_eq_false (by omega), decide_eq_true hb, decide_eq_true this]; rfl
    · left; simp
    · right
      have := Int.mul_pos ha hb
      rw [decide_eq_false (by omega), decide_eq_false (by omega), decide_eq_false (by omega)]; rfl
theorem U_lt (a : Int) : (a * 16777216 < 0) = (a < 0) := by apply propext; omega
theorem of_exact {n : Int} (h : few n) : mdF n 16777216 1 0 = (n * 16777216, true) := by
  have h1U : (1 : Int).natAbs = 1 := rfl
  have hU : (16777216 : Int).natAbs = 16777216 := rfl
  have hN : mdN n 16777216 1 0 = n.natAbs * 16777216 := by
    unfold mdN
    rw [h1U, hU, Nat.div_one, Nat.mod_one]
    simp [moreF]
  unfold few at h
  have hok : mdOk n 16777216 1 0 = true := by
    unfold mdOk rightW
    rw [hN]
    simp only [Bool.and_eq_true, decide_eq_true_eq]
    refine ⟨by omega, by omega, by omega, by omega, by omega, ?_⟩
    omega
  unfold mdF
  rw [hok, if_pos rfl, hN]
  congr 1
  have hs : minus3 n 16777216 1 = decide (n * 16777216 < 0) := by
    unfold minus3
    simp [U_lt]
  rw [hs]
  have h1 := signed_abs (x := n * 16777216) (b := decide (n * 16777216 < 0)) (.inr rfl)
  rw [natAbs_U] at h1
  exact h1
theorem rightX_U {n : Int} (h : few n) : rightX (n * 16777216) = true := by
  unfold few at h
  unfold rightX
  rw [decide_eq_true_eq]
  omega
theorem newF_whole {n : Int} (h : few n) : newF n 1 = whole n := by
  have e : ofX n = (n * 16777216, true) := by
    unfold ofX toldF
    rw [of_exact h]
    simp [rightX_U h]
  unfold newF point
  rw [e]
  simp [rightX_U h]
theorem fine_whole {n : Int} (h : few n) : (whole n).fine = true := by
  unfold Fr.fine
  simp [rightX_U h]
end Go.Proofs.YtipchjfcjbghnaaGreat.A.E


set_option linter.unusedVariables false
set_option linter.unusedSimpArgs false
set_option maxRecDepth 100000
namespace Go.Proofs.YtipchjfcjbghnaaGreat.A.E
open Go Go.RowKit Go.Shelf

/-! ### Rounding: what is told of a product, divided -/
theorem minus3_of (a b c : Int) (hc : c ≠ 0) : a * b = 0 ∨ minus3 a b c = decide ((if c < 0 then -(a * b) else a * b) < 0) := by
  rcases minus_mul a b with h | h
  · exact .inl h
  · by_cases h0 : a * b = 0
    · exact .inl h0
    · right
      unfold minus3
      rw [h]
      by_cases hc0 : c < 0
      · rw [if_pos hc0, decide_eq_true hc0]
        by_cases hx : a * b < 0
        · rw [decide_eq_true hx, decide_eq_false (by omega)]; rfl
        · rw [decide_eq_false hx, decide_eq_true (by omega)]; rfl
      · rw [if_neg hc0, decide_eq_false hc0]
        by_cases hx : a * b < 0
        · rw [decide_eq_true hx]; rfl
        · rw [decide_eq_false hx]; rfl
theorem md_spec {a b c mode : Int} (h : (mdF a b c mode).2 = true) : ∃ Y C : Int, 0 < C ∧ ((c = C ∧ Y = a * b) ∨ (c = -C ∧ Y = -(a * b))) ∧
    (mdF a b c mode).1 * C < Y + C ∧ Y < (mdF a b c mode).1 * C + C ∧ (mode = 1 → (mdF a b c mode).1 * C ≤ Y) ∧ (mode = 2 → Y ≤ (mdF a b c mode).1 * C) := by
  unfold mdF at h ⊢
  split at h
  · rename_i hok
    rw [if_pos hok]
    have hc : c ≠ 0 := by
      unfold mdOk at hok
      simp only [Bool.and_eq_true, decide_eq_true_eq] at hok
      exact hok.2.2.2.1
    refine ⟨if c < 0 then -(a * b) else a * b, (c.natAbs : Int), by omega, by split <;> omega, ?_⟩
    have hm := minus3_of a b c hc
    have hP : (if c < 0 then -(a * b) else a * b).natAbs = a.natAbs * b.natAbs := by
      rw [← Int.natAbs_mul]
      split <;> omega
    have h0 : a * b = 0 → (if c < 0 then -(a * b) else a * b) = 0 := fun h => by rw [h]; split <;> rfl
    generalize (if c < 0 then -(a * b) else a * b) = Y at *
    unfold mdN
    have hCp : 0 < c.natAbs := by omega
    generalize c.natAbs = C at *
    generalize a.natAbs * b.natAbs = P at *
    have hd := Nat.div_add_mod P C
    have hr := Nat.mod_lt P hCp
    have hmo : moreF mode (P / C) (P % C) C (minus3 a b c) = true → P % C ≠ 0 := fun h h0 => by
      unfold moreF at h
      rw [if_pos h0] at h
      cases h
    have hm1 : mode = 1 → moreF mode (P / C) (P % C) C (minus3 a b c) = (decide (P % C ≠ 0) && minus3 a b c) := fun h => by
      unfold moreF
      subst h
      by_cases h0 : P % C = 0
      · simp [h0]
      · simp [h0]
    have hm2 : mode = 2 → moreF mode (P / C) (P % C) C (minus3 a b c) = (decide (P % C ≠ 0) && !minus3 a b c) := fun h => by
      unfold moreF
      subst h
      by_cases h0 : P % C = 0
      · simp [h0]
      · simp [h0]
    generalize moreF mode (P / C) (P % C) C (minus3 a b c) = mo at *
    generalize minus3 a b c = mi at *
    generalize P / C = D at *
    generalize P % C = r at *
    have hT : ((D : Int)) * (C : Int) = ((C * D : Nat) : Int) := by rw [Nat.mul_comm, Int.natCast_mul]
    have hT1 : ((D : Int) + 1) * (C : Int) = ((C * D : Nat) : Int) + C := by rw [Int.add_mul, hT, Int.one_mul]
    generalize C * D = T at *
    have hmi : P = 0 ∨ mi = decide (Y < 0) := by
      rcases hm with h | h
      · have := h0 h
        left; omega
      · exact .inr h
    clear hm h0 h hok
    have hm1' : mode = 1 → (mo = true ↔ r ≠ 0 ∧ mi = true) := fun h => by rw [hm1 h]; simp
    have hm2' : mode = 2 → (mo = true ↔ r ≠ 0 ∧ mi = false) := fun h => by rw [hm2 h]; simp
    clear hm1 hm2
    have hmi' : P = 0 ∨ (mi = true ↔ Y < 0) := by
      rcases hmi with h | h
      · exact .inl h
      · right; rw [h, decide_eq_true_eq]
    clear hmi
    cases mo <;> cases mi
    all_goals simp only [if_true, if_false, Bool.false_eq_true, Nat.add_zero, Int.natCast_add, Int.natCast_one, Int.neg_mul, hT, hT1, true_iff, false_iff, reduceCtorEq, and_true, and_false, iff_true, iff_false, not_true_eq_false, not_false_eq_true, Int.natCast_zero, Int.add_zero]
    all_goals simp only [Bool.false_eq_true, reduceCtorEq, false_implies, true_implies, forall_const, true_iff, false_iff, and_true, and_false, iff_true, iff_false, not_true_eq_false, not_false_eq_true, Int.not_lt, ne_eq, Decidable.not_not, false_and, not_and, true_and] at hmo hmi' hm1' hm2'
    all_goals refine ⟨by omega, by omega, fun h => ?_, fun h => ?_⟩
    all_goals first
      | omega
      | (have := hm1' h; omega)
      | (have := hm2' h; omega)
      | exact (hm1' h).elim
      | exact (hm2' h).elim
  · cases h

/-! ### What is made of values and of pairs of bounds -/
theorem minL_foldl : ∀ (l : List Int) (x : Int), l.foldl (fun m y => if y < m then y else m) x ≤ x ∧ (∀ y ∈ l, l.foldl (fun m y => if y < m then y else m) x ≤ y) ∧ (l.foldl (fun m y => if y < m then y else m) x = x ∨ l.foldl (fun m y => if y < m then y else m) x ∈ l)
  | [], x => ⟨Int.le_refl _, by simp, .inl rfl⟩
  | z :: l, x => by
    rw [List.foldl_cons]
    have ht : (if z < x then z else x) ≤ x ∧ (if z < x then z else x) ≤ z ∧ ((if z < x then z else x) = x ∨ (if z < x then z else x) = z) := by split <;> omega
    generalize (if z < x then z else x) = t at ht ⊢
    obtain ⟨h1, h2, h3⟩ := minL_foldl l t
    refine ⟨by omega, fun y hy => ?_, ?_⟩
    · rcases List.mem_cons.1 hy with rfl | hy
      · omega
      · exact h2 y hy
    · rcases h3 with h3 | h3
      · rw [h3]
        rcases ht.2.2 with e | e
        · exact .inl e
        · right; rw [e]; simp
      · right; exact List.mem_cons_of_mem _ h3
theorem maxL_foldl : ∀ (l : List Int) (x : Int), x ≤ l.foldl (fun m y => if m < y then y else m) x ∧ (∀ y ∈ l, y ≤ l.foldl (fun m y => if m < y then y else m) x) ∧ (l.foldl (fun m y => if m < y then y else m) x = x ∨ l.foldl (fun m y => if m < y then y else m) x ∈ l)
  | [], x => ⟨Int.le_refl _, by simp, .inl rfl⟩
  | z :: l, x => by
    rw [List.foldl_cons]
    have ht : x ≤ (if x < z then z else x) ∧ z ≤ (if x < z then z else x) ∧ ((if x < z then z else x) = x ∨ (if x < z then z else x) = z) := by split <;> omega
    generalize (if x < z then z else x) = t at ht ⊢
    obtain ⟨h1, h2, h3⟩ := maxL_foldl l t
    refine ⟨by omega, fun y hy => ?_, ?_⟩
    · rcases List.mem_cons.1 hy with rfl | hy
      · omega
      · exact h2 y hy
    · rcases h3 with h3 | h3
      · rw [h3]
        rcases ht.2.2 with e | e
        · exact .inl e
        · right; rw [e]; simp
      · right; exact List.mem_cons_of_mem _ h3
theorem minL_le {l : List Int} {y : Int} (h : y ∈ l) : minL l ≤ y := by
  cases l with
  | nil => cases h
  | cons x l =>
    rcases List.mem_cons.1 h with rfl | h
    · exact (minL_foldl l y).1
    · exact (minL_foldl l x).2.1 y h
theorem le_maxL {l : List Int} {y : Int} (h : y ∈ l) : y ≤ maxL l := by
  cases l with
  | nil => cases h
  | cons x l =>
    rcases List.mem_cons.1 h with rfl | h
    · exact (maxL_foldl l y).1
    · exact (maxL_foldl l x).2.1 y h
theorem minL_mem {l : List Int} (h : l ≠ []) : minL l ∈ l := by
  cases l with
  | nil => exact absurd rfl h
  | cons x l =>
    rcases (minL_foldl l x).2.2 with e | e
    · have e' : minL (x :: l) = x := e
      rw [e']; simp
    · exact List.mem_cons_of_mem _ e
theorem maxL_mem {l : List Int} (h : l ≠ []) : maxL l ∈ l := by
  cases l with
  | nil => exact absurd rfl h
  | cons x l =>
    rcases (maxL_foldl l x).2.2 with e | e
    · have e' : maxL (x :: l) = x := e
      rw [e']; simp
    · exact List.mem_cons_of_mem _ e
theorem made_is {F : Int → Int → Int → Int × Bool} {a b : Fr} {ps : List (Int × Int)} (h : (madeE F a b ps).bad = false) : a.fine = true ∧ b.fine = true ∧ (F a.v b.v 0).2 = true ∧ (∀ p ∈ ps, (F p.1 p.2 1).2 = true ∧ (F p.1 p.2 2).2 = true) ∧
    madeE F a b ps = ⟨(F a.v b.v 0).1, minL (ps.map fun p => (F p.1 p.2 1).1), maxL (ps.map fun p => (F p.1 p.2 2).1), false⟩ := by
  unfold madeE at h ⊢
  split at h
  · rename_i hc
    rw [if_pos hc]
    obtain ⟨h1, h2, h3⟩ := hc
    rw [Bool.and_eq_true] at h1
    refine ⟨h2, h3, h1.1, fun p hp => ?_, rfl⟩
    have := List.all_eq_true.1 h1.2 p hp
    unfold okP at this
    exact Bool.and_eq_true_iff.1 this
  · cases h
theorem told_is {n : Int} {is : Bool} {l : List Int} (h : (toldF n is l).2 = true) : is = true ∧ (toldF n is l).1 = n ∧ rightX n = true := by
  unfold toldF at h ⊢
  split at h
  · rename_i hc
    rw [if_pos hc]
    exact ⟨hc.1, rfl, List.all_eq_true.1 hc.2 n (by simp)⟩
  · cases h
theorem fine_is {x : Fr} : x.fine = true ↔ x.bad = false ∧ rightX x.lo = true ∧ rightX x.hi = true ∧ x.lo ≤ x.v ∧ x.v ≤ x.hi := by
  unfold Fr.fine
  simp only [Bool.and_eq_true, Bool.not_eq_true', decide_eq_true_eq]

/-! ### To enclose -/
def Enc (x : Fr) (v : Rat) : Prop := x.fine = true ∧ (x.lo : Rat) ≤ v * 16777216 ∧ v * 16777216 ≤ (x.hi : Rat)
/-- Of what is made: every bound told is rounded to its side. -/
theorem made_enc {F : Int → Int → Int → Int × Bool} {a b : Fr} {ps : List (Int × Int)} {w : Rat} (h : (madeE F a b ps).bad = false)
    (hr : ∀ x y m, (F x y m).2 = true → rightX (F x y m).1 = true)
    (hlo : ∃ p ∈ ps, ((F p.1 p.2 1).1 : Rat) ≤ w * 16777216) (hhi : ∃ p ∈ ps, w * 16777216 ≤ ((F p.1 p.2 2).1 : Rat))
    (hlv : ∃ p ∈ ps, (F p.1 p.2 1).1 ≤ (F a.v b.v 0).1) (hvh : ∃ p ∈ ps, (F a.v b.v 0).1 ≤ (F p.1 p.2 2).1) : Enc (madeE F a b ps) w := by
  obtain ⟨h1, h2, h3, h4, h5⟩ := made_is h
  rw [h5]
  have hne : ps ≠ [] := fun e => by obtain ⟨p, hp, _⟩ := hlo; rw [e] at hp; cases hp
  have hml := minL_mem (l := ps.map fun p => (F p.1 p.2 1).1) (by simpa using hne)
  have hmh := maxL_mem (l := ps.map fun p => (F p.1 p.2 2).1) (by simpa using hne)
  have lo_le : ∀ p ∈ ps, minL (ps.map fun p => (F p.1 p.2 1).1) ≤ (F p.1 p.2 1).1 := fun p hp => minL_le (List.mem_map.2 ⟨p, hp, rfl⟩)
  have le_hi : ∀ p ∈ ps, (F p.1 p.2 2).1 ≤ maxL (ps.map fun p => (F p.1 p.2 2).1) := fun p hp => le_maxL (List.mem_map.2 ⟨p, hp, rfl⟩)
  refine ⟨fine_is.2 ⟨rfl, ?_, ?_, ?_, ?_⟩, ?_, ?_⟩
  · obtain ⟨p, hp, e⟩ := List.mem_map.1 hml
    show rightX (minL _) = true
    rw [← e]; exact hr _ _ _ (h4 p hp).1
  · obtain ⟨p, hp, e⟩ := List.mem_map.1 hmh
    show rightX (maxL _) = true
    rw [← e]; exact hr _ _ _ (h4 p hp).2
  · obtain ⟨p, hp, e⟩ := hlv
    exact Int.le_trans (lo_le p hp) e
  · obtain ⟨p, hp, e⟩ := hvh
    exact Int.le_trans e (le_hi p hp)
  · obtain ⟨p, hp, e⟩ := hlo
    exact Rat.le_trans (Rat.intCast_le_intCast.2 (lo_le p hp)) e
  · obtain ⟨p, hp, e⟩ := hhi
    exact Rat.le_trans e (Rat.intCast_le_intCast.2 (le_hi p hp))

theorem add_spec {x y : Int} (h : (addX x y).2 = true) : (addX x y).1 = x + y ∧ rightX (x + y) = true := by
  unfold addX at h ⊢
  split at h
  · rename_i hc
    rw [if_pos hc]
    exact (told_is h).2
  · cases h
theorem sub_spec {x y : Int} (h : (subX x y).2 = true) : (subX x y).1 = x - y ∧ rightX (x - y) = true := by
  unfold subX at h ⊢
  split at h
  · rename_i hc
    rw [if_pos hc]
    exact (told_is h).2
  · cases h
theorem addF_enc {a b : Fr} {v w : Rat} (ha : a.bad = false → Enc a v) (hb : b.bad = false → Enc b w) (h : (addF a b).bad = false) : Enc (addF a b) (v + w) := by
  unfold addF at h ⊢
  obtain ⟨h1, h2, h3, h4, h5⟩ := made_is h
  obtain ⟨fa, la, ua⟩ := ha (fine_is.1 h1).1
  obtain ⟨fb, lb, ub⟩ := hb (fine_is.1 h2).1
  have p1 := h4 (a.lo, b.lo) (by simp)
  have p2 := h4 (a.hi, b.hi) (by simp)
  have s1 : (addX a.lo b.lo).1 = a.lo + b.lo := (add_spec p1.1).1
  have s2 : (addX a.hi b.hi).1 = a.hi + b.hi := (add_spec p2.1).1
  have s0 : (addX a.v b.v).1 = a.v + b.v := (add_spec h3).1
  have oa := (fine_is.1 h1).2.2.2
  have ob := (fine_is.1 h2).2.2.2
  refine made_enc h (fun x y m hxy => ?_) ⟨_, List.mem_cons_self .., ?_⟩ ⟨(a.hi, b.hi), by simp, ?_⟩ ⟨(a.lo, b.lo), by simp, ?_⟩ ⟨(a.hi, b.hi), by simp, ?_⟩
  · have := add_spec hxy
    show rightX (addX x y).1 = true
    rw [this.1]; exact this.2
  · show ((addX a.lo b.lo).1 : Rat) ≤ _
    rw [s1, Rat.intCast_add]
    grind
  · show _ ≤ ((addX a.hi b.hi).1 : Rat)
    rw [s2, Rat.intCast_add]
    grind
  · show (addX a.lo b.lo).1 ≤ (addX a.v b.v).1
    omega
  · show (addX a.v b.v).1 ≤ (addX a.hi b.hi).1
    omega
theorem subF_enc {a b : Fr} {v w : Rat} (ha : a.bad = false → Enc a v) (hb : b.bad = false → Enc b w) (h : (subF a b).bad = false) : Enc (subF a b) (v - w) := by
  unfold subF at h ⊢
  obtain ⟨h1, h2, h3, h4, h5⟩ := made_is h
  obtain ⟨fa, la, ua⟩ := ha (fine_is.1 h1).1
  obtain ⟨fb, lb, ub⟩ := hb (fine_is.1 h2).1
  have p1 := h4 (a.lo, b.hi) (by simp)
  have p2 := h4 (a.hi, b.lo) (by simp)
  have s1 : (subX a.lo b.hi).1 = a.lo - b.hi := (sub_spec p1.1).1
  have s2 : (subX a.hi b.lo).1 = a.hi - b.lo := (sub_spec p2.1).1
  have s0 : (subX a.v b.v).1 = a.v - b.v := (sub_spec h3).1
  have oa := (fine_is.1 h1).2.2.2
  have ob := (fine_is.1 h2).2.2.2
  refine made_enc h (fun x y m hxy => ?_) ⟨_, List.mem_cons_self .., ?_⟩ ⟨(a.hi, b.lo), by simp, ?_⟩ ⟨(a.lo, b.hi), by simp, ?_⟩ ⟨(a.hi, b.lo), by simp, ?_⟩
  · have := sub_spec hxy
    show rightX (subX x y).1 = true
    rw [this.1]; exact this.2
  · show ((subX a.lo b.hi).1 : Rat) ≤ _
    rw [s1, Rat.intCast_sub]
    grind
  · show _ ≤ ((subX a.hi b.lo).1 : Rat)
    rw [s2, Rat.intCast_sub]
    grind
  · show (subX a.lo b.hi).1 ≤ (subX a.v b.v).1
    omega
  · show (subX a.v b.v).1 ≤ (subX a.hi b.lo).1
    omega

/-! ### Corners -/
theorem corner_lo {l h m n x y : Rat} (h1 : l ≤ x) (h2 : x ≤ h) (h3 : m ≤ y) (h4 : y ≤ n) : l * m ≤ x * y ∨ l * n ≤ x * y ∨ h * m ≤ x * y ∨ h * n ≤ x * y := by
  rcases Rat.le_total (a := 0) (b := y) with hy | hy
  · have k1 := Rat.mul_nonneg (show 0 ≤ x - l by grind) hy
    rcases Rat.le_total (a := 0) (b := l) with hl | hl
    · have k2 := Rat.mul_nonneg hl (show 0 ≤ y - m by grind)
      left; grind
    · have k2 := Rat.mul_nonneg (show 0 ≤ -l by grind) (show 0 ≤ n - y by grind)
      right; left; grind
  · have k1 := Rat.mul_nonneg (show 0 ≤ h - x by grind) (show 0 ≤ -y by grind)
    rcases Rat.le_total (a := 0) (b := h) with hl | hl
    · have k2 := Rat.mul_nonneg hl (show 0 ≤ y - m by grind)
      right; right; left; grind
    · have k2 := Rat.mul_nonneg (show 0 ≤ -h by grind) (show 0 ≤ n - y by grind)
      right; right; right; grind
theorem corner_hi {l h m n x y : Rat} (h1 : l ≤ x) (h2 : x ≤ h) (h3 : m ≤ y) (h4 : y ≤ n) : x * y ≤ l * m ∨ x * y ≤ l * n ∨ x * y ≤ h * m ∨ x * y ≤ h * n := by
  have := corner_lo (l := -h) (h := -l) (m := m) (n := n) (x := -x) (y := y) (by grind) (by grind) h3 h4
  rcases this with h | h | h | h
  · right; right; left; grind
  · right; right; right; grind
  · left; grind
  · right; left; grind

/-! ### Products and quotients -/
theorem mul_told {x y m : Int} (h : (mulX x y m).2 = true) : (mdF x y 16777216 m).2 = true ∧ (mulX x y m).1 = (mdF x y 16777216 m).1 ∧ rightX (mulX x y m).1 = true := by
  unfold mulX at h ⊢
  obtain ⟨h1, h2, h3⟩ := told_is h
  exact ⟨h1, h2, by rw [h2]; exact h3⟩
theorem mul_spec {x y m : Int} (h : (mulX x y m).2 = true) : (mulX x y m).1 * 16777216 < x * y + 16777216 ∧ x * y < (mulX x y m).1 * 16777216 + 16777216 ∧ (m = 1 → (mulX x y m).1 * 16777216 ≤ x * y) ∧ (m = 2 → x * y ≤ (mulX x y m).1 * 16777216) := by
  obtain ⟨h1, h2, h3⟩ := mul_told h
  obtain ⟨Y, C, hC, hcY, k⟩ := md_spec h1
  have : C = 16777216 ∧ Y = x * y := by
    rcases hcY with ⟨e1, e2⟩ | ⟨e1, e2⟩
    · exact ⟨e1.symm, e2⟩
    · omega
  rw [this.1, this.2] at k
  rw [h2]
  exact k
theorem corner_loI {l h m n x y : Int} (h1 : l ≤ x) (h2 : x ≤ h) (h3 : m ≤ y) (h4 : y ≤ n) : l * m ≤ x * y ∨ l * n ≤ x * y ∨ h * m ≤ x * y ∨ h * n ≤ x * y := by
  have := corner_lo (Rat.intCast_le_intCast.2 h1) (Rat.intCast_le_intCast.2 h2) (Rat.intCast_le_intCast.2 h3) (Rat.intCast_le_intCast.2 h4)
  simpa only [← Rat.intCast_mul, Rat.intCast_le_intCast] using this
theorem corner_hiI {l h m n x y : Int} (h1 : l ≤ x) (h2 : x ≤ h) (h3 : m ≤ y) (h4 : y ≤ n) : x * y ≤ l * m ∨ x * y ≤ l * n ∨ x * y ≤ h * m ∨ x * y ≤ h * n := by
  have := corner_hi (Rat.intCast_le_intCast.2 h1) (Rat.intCast_le_intCast.2 h2) (Rat.intCast_le_intCast.2 h3) (Rat.intCast_le_intCast.2 h4)
  simpa only [← Rat.intCast_mul, Rat.intCast_le_intCast] using this
theorem mulF_enc {a b : Fr} {v w : Rat} (ha : a.bad = false → Enc a v) (hb : b.bad = false → Enc b w) (h : (mulF a b).bad = false) : Enc (mulF a b) (v * w) := by
  unfold mulF at h ⊢
  obtain ⟨h1, h2, h3, h4, h5⟩ := made_is h
  obtain ⟨fa, la, ua⟩ := ha (fine_is.1 h1).1
  obtain ⟨fb, lb, ub⟩ := hb (fine_is.1 h2).1
  have oa := (fine_is.1 h1).2.2.2
  have ob := (fine_is.1 h2).2.2.2
  have s0 := mul_spec h3
  have lo : ∀ p ∈ allP a b, ((p.1 * p.2 : Int) : Rat) ≤ (v * 16777216) * (w * 16777216) → ((mulX p.1 p.2 1).1 : Rat) ≤ v * w * 16777216 := fun p hp hle => by
    have k := (mul_spec (h4 p hp).1).2.2.1 rfl
    have k' : ((mulX p.1 p.2 1).1 : Rat) * 16777216 ≤ ((p.1 * p.2 : Int) : Rat) := by
      have := Rat.intCast_le_intCast.2 k
      rw [Rat.intCast_mul] at this
      exact this
    grind
  have hi : ∀ p ∈ allP a b, (v * 16777216) * (w * 16777216) ≤ ((p.1 * p.2 : Int) : Rat) → v * w * 16777216 ≤ ((mulX p.1 p.2 2).1 : Rat) := fun p hp hle => by
    have k := (mul_spec (h4 p hp).2).2.2.2 rfl
    have k' : ((p.1 * p.2 : Int) : Rat) ≤ ((mulX p.1 p.2 2).1 : Rat) * 16777216 := by
      have := Rat.intCast_le_intCast.2 k
      rw [Rat.intCast_mul (mulX p.1 p.2 2).1 16777216] at this
      exact this
    grind
  have lv : ∀ p ∈ allP a b, p.1 * p.2 ≤ a.v * b.v → (mulX p.1 p.2 1).1 ≤ (mulX a.v b.v 0).1 := fun p hp hle => by
    have k := (mul_spec (h4 p hp).1).2.2.1 rfl
    omega
  have vh : ∀ p ∈ allP a b, a.v * b.v ≤ p.1 * p.2 → (mulX a.v b.v 0).1 ≤ (mulX p.1 p.2 2).1 := fun p hp hle => by
    have k := (mul_spec (h4 p hp).2).2.2.2 rfl
    omega
  have m1 : (a.lo, b.lo) ∈ allP a b := by simp [allP]
  have m2 : (a.lo, b.hi) ∈ allP a b := by simp [allP]
  have m3 : (a.hi, b.lo) ∈ allP a b := by simp [allP]
  have m4 : (a.hi, b.hi) ∈ allP a b := by simp [allP]
  refine made_enc h (fun x y m hxy => (mul_told hxy).2.2) ?_ ?_ ?_ ?_
  · have := corner_lo la ua lb ub
    simp only [← Rat.intCast_mul] at this
    rcases this with k | k | k | k
    · exact ⟨_, m1, lo _ m1 k⟩
    · exact ⟨_, m2, lo _ m2 k⟩
    · exact ⟨_, m3, lo _ m3 k⟩
    · exact ⟨_, m4, lo _ m4 k⟩
  · have := corner_hi la ua lb ub
    simp only [← Rat.intCast_mul] at this
    rcases this with k | k | k | k
    · exact ⟨_, m1, hi _ m1 k⟩
    · exact ⟨_, m2, hi _ m2 k⟩
    · exact ⟨_, m3, hi _ m3 k⟩
    · exact ⟨_, m4, hi _ m4 k⟩
  · rcases corner_loI oa.1 oa.2 ob.1 ob.2 with k | k | k | k
    · exact ⟨_, m1, lv _ m1 k⟩
    · exact ⟨_, m2, lv _ m2 k⟩
    · exact ⟨_, m3, lv _ m3 k⟩
    · exact ⟨_, m4, lv _ m4 k⟩
  · rcases corner_hiI oa.1 oa.2 ob.1 ob.2 with k | k | k | k
    · exact ⟨_, m1, vh _ m1 k⟩
    · exact ⟨_, m2, vh _ m2 k⟩
    · exact ⟨_, m3, vh _ m3 k⟩
    · exact ⟨_, m4, vh _ m4 k⟩

theorem inv_nn {y : Rat} (h : 0 < y) : 0 ≤ y⁻¹ := Rat.le_of_lt (Rat.inv_pos.2 h)
theorem inv_mono {m y : Rat} (h : 0 < m) (hy : m ≤ y) : y⁻¹ ≤ m⁻¹ := by
  have h1 : m * m⁻¹ = 1 := Rat.mul_inv_cancel m (by grind)
  have h2 : y * y⁻¹ = 1 := Rat.mul_inv_cancel y (by grind)
  have k := Rat.mul_nonneg (show 0 ≤ y - m by grind) (Rat.mul_nonneg (inv_nn h) (inv_nn (show 0 < y by grind)))
  have e : (y - m) * (m⁻¹ * y⁻¹) = m⁻¹ - y⁻¹ := by grind
  grind
theorem inv_neg' (y : Rat) : (-y)⁻¹ = -y⁻¹ := by
  by_cases h : y = 0
  · subst h
    simp
  · have h1 : y * y⁻¹ = 1 := Rat.mul_inv_cancel y h
    have h2 : (-y) * (-y)⁻¹ = 1 := Rat.mul_inv_cancel (-y) (by grind)
    grind
theorem inv_mono_neg {n y : Rat} (h : n < 0) (hy : y ≤ n) : n⁻¹ ≤ y⁻¹ := by
  have := inv_mono (m := -n) (y := -y) (by grind) (by grind)
  rw [inv_neg', inv_neg'] at this
  grind
theorem inv_between {m n y : Rat} (h1 : m ≤ y) (h2 : y ≤ n) (h : 0 < m ∨ n < 0) : n⁻¹ ≤ y⁻¹ ∧ y⁻¹ ≤ m⁻¹ := by
  rcases h with h | h
  · exact ⟨inv_mono (by grind) h2, inv_mono h h1⟩
  · exact ⟨inv_mono_neg h h2, inv_mono_neg (by grind) h1⟩
theorem div_told {x y m : Int} (h : (divX x y m).2 = true) : (mdF x 16777216 y m).2 = true ∧ (divX x y m).1 = (mdF x 16777216 y m).1 ∧ rightX (divX x y m).1 = true := by
  unfold divX at h ⊢
  obtain ⟨h1, h2, h3⟩ := told_is h
  exact ⟨h1, h2, by rw [h2]; exact h3⟩
theorem div_spec {s t m : Int} (h : (divX s t m).2 = true) : t ≠ 0 ∧ ((divX s t m).1 : Rat) < (s : Rat) * (t : Rat)⁻¹ * 16777216 + 1 ∧ (s : Rat) * (t : Rat)⁻¹ * 16777216 < ((divX s t m).1 : Rat) + 1 ∧
    (m = 1 → ((divX s t m).1 : Rat) ≤ (s : Rat) * (t : Rat)⁻¹ * 16777216) ∧ (m = 2 → (s : Rat) * (t : Rat)⁻¹ * 16777216 ≤ ((divX s t m).1 : Rat)) := by
  obtain ⟨h1, h2, _⟩ := div_told h
  obtain ⟨Y, C, hC, hcY, k1, k2, k3, k4⟩ := md_spec h1
  rw [← h2] at k1 k2 k3 k4
  generalize (divX s t m).1 = q at *
  have ht : t ≠ 0 := by omega
  have hC' : (0 : Rat) < (C : Rat) := by
    have := Rat.intCast_lt_intCast.2 hC
    simpa using this
  have hCi := inv_nn hC'
  have hCC : (C : Rat) * (C : Rat)⁻¹ = 1 := Rat.mul_inv_cancel _ (by grind)
  have hz : (s : Rat) * (t : Rat)⁻¹ * 16777216 = (Y : Rat) * (C : Rat)⁻¹ := by
    rcases hcY with ⟨e1, e2⟩ | ⟨e1, e2⟩
    · rw [e1, e2, Rat.intCast_mul]
      grind
    · rw [e1, e2, Rat.intCast_neg, Rat.intCast_neg, Rat.intCast_mul, inv_neg']
      grind
  rw [hz]
  have r1 := Rat.intCast_lt_intCast.2 k1
  have r2 := Rat.intCast_lt_intCast.2 k2
  rw [Rat.intCast_mul, Rat.intCast_add] at r1
  rw [Rat.intCast_add, Rat.intCast_mul] at r2
  have hCp : 0 < (C : Rat)⁻¹ := Rat.inv_pos.2 hC'
  have r3 : m = 1 → (q : Rat) * C ≤ Y := fun h => by
    have k := Rat.intCast_le_intCast.2 (k3 h)
    rwa [Rat.intCast_mul] at k
  have r4 : m = 2 → (Y : Rat) ≤ q * C := fun h => by
    have k := Rat.intCast_le_intCast.2 (k4 h)
    rwa [Rat.intCast_mul] at k
  clear hz k1 k2 k3 k4 hcY h1 h2 h
  generalize (C : Rat)⁻¹ = i at *
  generalize (C : Rat) = c at *
  generalize (Y : Rat) = y at *
  generalize (q : Rat) = Q at *
  clear hC
  refine ⟨ht, ?_, ?_, fun h => ?_, fun h => ?_⟩
  · have := Rat.mul_pos (show 0 < y + c - Q * c by grind) hCp
    have e : (y + c - Q * c) * i = y * i + c * i - Q * (c * i) := by grind
    rw [e, hCC] at this
    grind
  · have := Rat.mul_pos (show 0 < Q * c + c - y by grind) hCp
    have e : (Q * c + c - y) * i = Q * (c * i) + c * i - y * i := by grind
    rw [e, hCC] at this
    grind
  · have := Rat.mul_nonneg (show 0 ≤ y - Q * c by have := r3 h; grind) hCi
    have e : (y - Q * c) * i = y * i - Q * (c * i) := by grind
    rw [e, hCC] at this
    grind
  · have := Rat.mul_nonneg (show 0 ≤ Q * c - y by have := r4 h; grind) hCi
    have e : (Q * c - y) * i = Q * (c * i) - y * i := by grind
    rw [e, hCC] at this
    grind

theorem divF_enc {a b : Fr} {v w : Rat} (ha : a.bad = false → Enc a v) (hb : b.bad = false → Enc b w) (h : (divF a b).bad = false) : Enc (divF a b) (v / w) := by
  unfold divF at h ⊢
  split at h
  · cases h
  · rename_i h0
    rw [if_neg h0]
    obtain ⟨h1, h2, h3, h4, h5⟩ := made_is h
    obtain ⟨fa, la, ua⟩ := ha (fine_is.1 h1).1
    obtain ⟨fb, lb, ub⟩ := hb (fine_is.1 h2).1
    have oa := (fine_is.1 h1).2.2.2
    have ob := (fine_is.1 h2).2.2.2
    have hs : (0 : Rat) < (b.lo : Rat) ∨ (b.hi : Rat) < 0 := by
      by_cases hl : b.lo ≤ 0
      · right
        have : b.hi < 0 := by omega
        have := Rat.intCast_lt_intCast.2 this
        simpa using this
      · left
        have : 0 < b.lo := by omega
        have := Rat.intCast_lt_intCast.2 this
        simpa using this
    obtain ⟨n1, n2⟩ := inv_between lb ub hs
    obtain ⟨n3, n4⟩ := inv_between (Rat.intCast_le_intCast.2 ob.1) (Rat.intCast_le_intCast.2 ob.2) hs
    have hw : w ≠ 0 := fun e => by subst e; rcases hs with k | k <;> grind
    have hz : v / w * 16777216 = (v * 16777216) * (w * 16777216)⁻¹ * 16777216 := by
      have h1 : w * w⁻¹ = 1 := Rat.mul_inv_cancel w hw
      have h2 : (w * 16777216) * (w * 16777216)⁻¹ = 1 := Rat.mul_inv_cancel _ (by grind)
      rw [Rat.div_def]
      grind
    have s0 := div_spec h3
    have lo : ∀ p ∈ allP a b, (p.1 : Rat) * (p.2 : Rat)⁻¹ ≤ (v * 16777216) * (w * 16777216)⁻¹ → ((divX p.1 p.2 1).1 : Rat) ≤ v / w * 16777216 := fun p hp hle => by
      have k := (div_spec (h4 p hp).1).2.2.2.1 rfl
      rw [hz]
      grind
    have hi : ∀ p ∈ allP a b, (v * 16777216) * (w * 16777216)⁻¹ ≤ (p.1 : Rat) * (p.2 : Rat)⁻¹ → v / w * 16777216 ≤ ((divX p.1 p.2 2).1 : Rat) := fun p hp hle => by
      have k := (div_spec (h4 p hp).2).2.2.2.2 rfl
      rw [hz]
      grind
    have lv : ∀ p ∈ allP a b, (p.1 : Rat) * (p.2 : Rat)⁻¹ ≤ (a.v : Rat) * (b.v : Rat)⁻¹ → (divX p.1 p.2 1).1 ≤ (divX a.v b.v 0).1 := fun p hp hle => by
      have k := (div_spec (h4 p hp).1).2.2.2.1 rfl
      have k2 := s0.2.2.1
      have : ((divX p.1 p.2 1).1 : Rat) < (((divX a.v b.v 0).1 + 1 : Int) : Rat) := by
        rw [Rat.intCast_add]
        grind
      have := Rat.intCast_lt_intCast.1 this
      omega
    have vh : ∀ p ∈ allP a b, (a.v : Rat) * (b.v : Rat)⁻¹ ≤ (p.1 : Rat) * (p.2 : Rat)⁻¹ → (divX a.v b.v 0).1 ≤ (divX p.1 p.2 2).1 := fun p hp hle => by
      have k := (div_spec (h4 p hp).2).2.2.2.2 rfl
      have k2 := s0.2.1
      have : ((divX a.v b.v 0).1 : Rat) < (((divX p.1 p.2 2).1 + 1 : Int) : Rat) := by
        rw [Rat.intCast_add]
        grind
      have := Rat.intCast_lt_intCast.1 this
      omega
    have m1 : (a.lo, b.lo) ∈ allP a b := by simp [allP]
    have m2 : (a.lo, b.hi) ∈ allP a b := by simp [allP]
    have m3 : (a.hi, b.lo) ∈ allP a b := by simp [allP]
    have m4 : (a.hi, b.hi) ∈ allP a b := by simp [allP]
    refine made_enc h (fun x y m hxy => (div_told hxy).2.2) ?_ ?_ ?_ ?_
    · rcases corner_lo la ua n1 n2 with k | k | k | k
      · exact ⟨_, m2, lo _ m2 k⟩
      · exact ⟨_, m1, lo _ m1 k⟩
      · exact ⟨_, m4, lo _ m4 k⟩
      · exact ⟨_, m3, lo _ m3 k⟩
    · rcases corner_hi la ua n1 n2 with k | k | k | k
      · exact ⟨_, m2, hi _ m2 k⟩
      · exact ⟨_, m1, hi _ m1 k⟩
      · exact ⟨_, m4, hi _ m4 k⟩
      · exact ⟨_, m3, hi _ m3 k⟩
    · rcases corner_lo (Rat.intCast_le_intCast.2 oa.1) (Rat.intCast_le_intCast.2 oa.2) n3 n4 with k | k | k | k
      · exact ⟨_, m2, lv _ m2 k⟩
      · exact ⟨_, m1, lv _ m1 k⟩
      · exact ⟨_, m4, lv _ m4 k⟩
      · exact ⟨_, m3, lv _ m3 k⟩
    · rcases corner_hi (Rat.intCast_le_intCast.2 oa.1) (Rat.intCast_le_intCast.2 oa.2) n3 n4 with k | k | k | k
      · exact ⟨_, m2, vh _ m2 k⟩
      · exact ⟨_, m1, vh _ m1 k⟩
      · exact ⟨_, m4, vh _ m4 k⟩
      · exact ⟨_, m3, vh _ m3 k⟩
theorem whole_enc {n : Int} (h : few n) : Enc (newF n 1) (n : Rat) := by
  rw [newF_whole h]
  refine ⟨fine_whole h, ?_, ?_⟩
  · show ((n * 16777216 : Int) : Rat) ≤ _
    rw [Rat.intCast_mul]
    exact Rat.le_refl
  · show _ ≤ ((n * 16777216 : Int) : Rat)
    rw [Rat.intCast_mul]
    exact Rat.le_refl
end Go.Proofs.YtipchjfcjbghnaaGreat.A.E


set_option linter.unusedVariables false
set_option linter.unusedSimpArgs false
set_option maxRecDepth 100000
namespace Go.Proofs.YtipchjfcjbghnaaGreat.A
open Go Go.RowKit Go.Shelf

end Go.Proofs.YtipchjfcjbghnaaGreat.A


set_option linter.unusedVariables false
set_option linter.unusedSimpArgs false
set_option maxRecDepth 100000
namespace Go.Proofs.YtipchjfcjbghnaaGreat.A
open Go Go.RowKit Go.Shelf

/-- A matrix applied to a row. -/
def applyF (r c : Int) (l v : List Fr) : List Fr := (allF r c l).map (dotF · v)

theorem ok62 (ex ev : Bool) (r c : Int) (l v : List Fr) (hv : v.length ≤ 5864062014805) : Ok Tryz.prog 62 [matV ex r c (frs l), .sl ev (frs v)]
    (if right r c l.length = true ∧ (v.length : Int) = c then .tup [.sl false (frs (applyF r c l v)), tru true] else .tup [.sl false [], tru false]) := by
  refine ok_fn mixed Tryz.func62 (code := ?_) (h := h62) ?_ k62 ?_
  rotate_left
  · exact rfl
  unfold h62 initS
  simp -implicitDefEqProofs only [rkA, stepA, valA, storeA, ldA, fieldAddrA, fieldA, idxAddrA, idxA, idxArr, lenA, unA, binA, num2, binV, eqA, rowOf, PV.cells, PV.cell, bndA, appA, reduceIte, reduceCtorEq, Nat.reduceAdd, Nat.reduceSub, Nat.reduceEqDiff, Nat.reduceLeDiff, Nat.reduceLT, Nat.reduceMul, Nat.reduceBEq, Nat.reduceBNe, Int.reduceToNat, Int.reduceLE, Int.reduceLT, allocX, setPs, extremeA, ints, resAll, rinfOk, packR, Tryz.ntmps62, Tryz.results62]
  refine call_fn rfl rfl rfl (ok84 ex r c (frs l)) ?_
  have e : (frs l).length = l.length := by simp
  have ev' : (frs v).length = v.length := by simp
  rw [e]
  cases hr : right r c l.length with
  | false => simp -implicitDefEqProofs only [rkA, stepA, valA, storeA, ldA, fieldAddrA, fieldA, idxAddrA, idxA, idxArr, lenA, unA, binA, num2, binV, eqA, rowOf, PV.cells, PV.cell, bndA, appA, reduceIte, reduceCtorEq, Nat.reduceAdd, Nat.reduceSub, Nat.reduceEqDiff, Nat.reduceLeDiff, Nat.reduceLT, Nat.reduceMul, Nat.reduceBEq, Nat.reduceBNe, Int.reduceToNat, Int.reduceLE, Int.reduceLT, allocX, setPs, extremeA, ints, resAll, rinfOk, packR]
  | true =>
    obtain ⟨r1, r2, c1, c2, hn⟩ := right_spec hr
    simp -implicitDefEqProofs only [ev', rkA, stepA, valA, storeA, ldA, fieldAddrA, fieldA, idxAddrA, idxA, idxArr, lenA, unA, binA, num2, binV, eqA, rowOf, PV.cells, PV.cell, bndA, appA, reduceIte, reduceCtorEq, Nat.reduceAdd, Nat.reduceSub, Nat.reduceEqDiff, Nat.reduceLeDiff, Nat.reduceLT, Nat.reduceMul, Nat.reduceBEq, Nat.reduceBNe, Int.reduceToNat, Int.reduceLE, Int.reduceLT, allocX, setPs, extremeA, ints, resAll, rinfOk, packR]
    refine gB_bool ?_ ?_ <;> intro hb
    · have hm : ¬ (v.length : Int) = c := by simpa using hb
      simp -implicitDefEqProofs only [hm, rkA, stepA, valA, storeA, ldA, fieldAddrA, fieldA, idxAddrA, idxA, idxArr, lenA, unA, binA, num2, binV, eqA, rowOf, PV.cells, PV.cell, bndA, appA, reduceIte, reduceCtorEq, Nat.reduceAdd, Nat.reduceSub, Nat.reduceEqDiff, Nat.reduceLeDiff, Nat.reduceLT, Nat.reduceMul, Nat.reduceBEq, Nat.reduceBNe, Int.reduceToNat, Int.reduceLE, Int.reduceLT, allocX, setPs, extremeA, ints, resAll, rinfOk, packR]
    · have hm : (v.length : Int) = c := by simpa using hb
      clear hb
      simp -implicitDefEqProofs only [hm, rkA, stepA, valA, storeA, ldA, fieldAddrA, fieldA, idxAddrA, idxA, idxArr, lenA, unA, binA, num2, binV, eqA, rowOf, PV.cells, PV.cell, bndA, appA, reduceIte, reduceCtorEq, Nat.reduceAdd, Nat.reduceSub, Nat.reduceEqDiff, Nat.reduceLeDiff, Nat.reduceLT, Nat.reduceMul, Nat.reduceBEq, Nat.reduceBNe, Int.reduceToNat, Int.reduceLE, Int.reduceLT, allocX, setPs, extremeA, ints, resAll, rinfOk, packR]
      refine call_fn rfl rfl rfl (ok92 ex r c l) ?_
      simp -implicitDefEqProofs only [rkA, stepA, valA, storeA, ldA, fieldAddrA, fieldA, idxAddrA, idxA, idxArr, lenA, unA, binA, num2, binV, eqA, rowOf, PV.cells, PV.cell, bndA, appA, reduceIte, reduceCtorEq, Nat.reduceAdd, Nat.reduceSub, Nat.reduceEqDiff, Nat.reduceLeDiff, Nat.reduceLT, Nat.reduceMul, Nat.reduceBEq, Nat.reduceBNe, Int.reduceToNat, Int.reduceLE, Int.reduceLT, allocX, setPs, extremeA, ints, resAll, rinfOk, packR]
      have hal : (applyF r c l v).length = r.toNat := by simp [applyF, allF]
      have hll : l.length ≤ 256 := by
        have : r * c ≤ 16 * 16 := Int.mul_le_mul r2 c2 (by omega) (by omega)
        omega
      refine wp_rf' (items := rowsF r c l) rfl (it119 ex r c l) (fun sv i s => i ≤ r.toNat ∧ s = ⟨[], [(2, [nt r, nt c, .v (.sl ex (frs l))]), (3, [.v (.sl ev (frs v))]), (6, [.acc 1006 (frs ((applyF r c l v).take i))])], [], [(4, 0), (1006, i)], sv, 0, nomem⟩) ?_ ?_ ?_
      · simp -implicitDefEqProofs only [rkA, stepA, valA, storeA, ldA, fieldAddrA, fieldA, idxAddrA, idxA, idxArr, lenA, unA, binA, num2, binV, eqA, rowOf, PV.cells, PV.cell, bndA, appA, reduceIte, reduceCtorEq, Nat.reduceAdd, Nat.reduceSub, Nat.reduceEqDiff, Nat.reduceLeDiff, Nat.reduceLT, Nat.reduceMul, Nat.reduceBEq, Nat.reduceBNe, Int.reduceToNat, Int.reduceLE, Int.reduceLT, allocX, setPs, extremeA, ints, resAll, rinfOk, packR]
        exact Nat.zero_le _
      · rintro i x' s' R hx ⟨hi, rfl⟩ hR
        obtain ⟨hlt, rfl, hxi⟩ := rowsF_all hr hx
        refine ⟨rfl, ?_⟩
        simp -implicitDefEqProofs only [rkA, stepA, valA, storeA, ldA, fieldAddrA, fieldA, idxAddrA, idxA, idxArr, lenA, unA, binA, num2, binV, eqA, rowOf, PV.cells, PV.cell, bndA, appA, reduceIte, reduceCtorEq, Nat.reduceAdd, Nat.reduceSub, Nat.reduceEqDiff, Nat.reduceLeDiff, Nat.reduceLT, Nat.reduceMul, Nat.reduceBEq, Nat.reduceBNe, Int.reduceToNat, Int.reduceLE, Int.reduceLT, allocX, setPs, extremeA, ints, resAll, rinfOk, packR]
        have hra := rowF_length (r := r) (c := c) (l := l) i
        refine call_fn rfl rfl rfl (ok64 false ev (rowF r c l i) v (by omega) hv) ?_
        have hfit : fits 3 24 (frs ((applyF r c l v).take i)) [frV (dotF (rowF r c l i) v)] = true := fits_frs (l := [dotF (rowF r c l i) v]) (by simp only [List.length_cons, List.length_nil, List.length_take]; omega)
        have hl : (frs ((applyF r c l v).take i)).length = i := by simp; omega
        simp -implicitDefEqProofs only [hfit, hl, rkA, stepA, valA, storeA, ldA, fieldAddrA, fieldA, idxAddrA, idxA, idxArr, lenA, unA, binA, num2, binV, eqA, rowOf, PV.cells, PV.cell, bndA, appA, reduceIte, reduceCtorEq, Nat.reduceAdd, Nat.reduceSub, Nat.reduceEqDiff, Nat.reduceLeDiff, Nat.reduceLT, Nat.reduceMul, Nat.reduceBEq, Nat.reduceBNe, Int.reduceToNat, Int.reduceLE, Int.reduceLT, allocX, setPs, extremeA, ints, resAll, rinfOk, packR]
        refine hR _ ⟨by omega, ?_⟩
        have hai : (applyF r c l v)[i]'(by omega) = dotF (rowF r c l i) v := by simp [applyF, allF]
        rw [List.take_succ_eq_append_getElem (by omega), hai]
        simp only [frs, List.map_append, List.map_cons, List.map_nil]
      · rintro s' ⟨hi, rfl⟩
        simp -implicitDefEqProofs only [rkA, stepA, valA, storeA, ldA, fieldAddrA, fieldA, idxAddrA, idxA, idxArr, lenA, unA, binA, num2, binV, eqA, rowOf, PV.cells, PV.cell, bndA, appA, reduceIte, reduceCtorEq, Nat.reduceAdd, Nat.reduceSub, Nat.reduceEqDiff, Nat.reduceLeDiff, Nat.reduceLT, Nat.reduceMul, Nat.reduceBEq, Nat.reduceBNe, Int.reduceToNat, Int.reduceLE, Int.reduceLT, allocX, setPs, extremeA, ints, resAll, rinfOk, packR]
        rw [rowsF_length hr, List.take_of_length_le (by omega)]

end Go.Proofs.YtipchjfcjbghnaaGreat.A


set_option linter.unusedVariables false
set_option linter.unusedSimpArgs false
set_option maxRecDepth 100000
namespace Go.Proofs.YtipchjfcjbghnaaGreat.A.E
open Go Go.RowKit Go.Shelf

/-- A matrix applied to a row. -/
def applyF (r c : Int) (l v : List Fr) : List Fr := (allF r c l).map (dotF · v)

theorem ok34 (ex ev : Bool) (r c : Int) (l v : List Fr) (hv : v.length ≤ 4398046511104) : Ok Tryz.prog 34 [matV ex r c (frs l), .sl ev (frs v)]
    (if right r c l.length = true ∧ (v.length : Int) = c then .tup [.sl false (frs (applyF r c l v)), tru true] else .tup [.sl false [], tru false]) := by
  refine ok_fn mixed Tryz.func34 (code := ?_) (h := h34) ?_ k34 ?_
  rotate_left
  · exact rfl
  unfold h34 initS
  simp -implicitDefEqProofs only [rkA, stepA, valA, storeA, ldA, fieldAddrA, fieldA, idxAddrA, idxA, idxArr, lenA, unA, binA, num2, binV, eqA, rowOf, PV.cells, PV.cell, bndA, appA, reduceIte, reduceCtorEq, Nat.reduceAdd, Nat.reduceSub, Nat.reduceEqDiff, Nat.reduceLeDiff, Nat.reduceLT, Nat.reduceMul, Nat.reduceBEq, Nat.reduceBNe, Int.reduceToNat, Int.reduceLE, Int.reduceLT, allocX, setPs, extremeA, ints, resAll, rinfOk, packR, Tryz.ntmps34, Tryz.results34]
  refine call_fn rfl rfl rfl (ok33 ex r c (frs l)) ?_
  have e : (frs l).length = l.length := by simp
  have ev' : (frs v).length = v.length := by simp
  rw [e]
  cases hr : right r c l.length with
  | false => simp -implicitDefEqProofs only [rkA, stepA, valA, storeA, ldA, fieldAddrA, fieldA, idxAddrA, idxA, idxArr, lenA, unA, binA, num2, binV, eqA, rowOf, PV.cells, PV.cell, bndA, appA, reduceIte, reduceCtorEq, Nat.reduceAdd, Nat.reduceSub, Nat.reduceEqDiff, Nat.reduceLeDiff, Nat.reduceLT, Nat.reduceMul, Nat.reduceBEq, Nat.reduceBNe, Int.reduceToNat, Int.reduceLE, Int.reduceLT, allocX, setPs, extremeA, ints, resAll, rinfOk, packR]
  | true =>
    obtain ⟨r1, r2, c1, c2, hn⟩ := right_spec hr
    simp -implicitDefEqProofs only [ev', rkA, stepA, valA, storeA, ldA, fieldAddrA, fieldA, idxAddrA, idxA, idxArr, lenA, unA, binA, num2, binV, eqA, rowOf, PV.cells, PV.cell, bndA, appA, reduceIte, reduceCtorEq, Nat.reduceAdd, Nat.reduceSub, Nat.reduceEqDiff, Nat.reduceLeDiff, Nat.reduceLT, Nat.reduceMul, Nat.reduceBEq, Nat.reduceBNe, Int.reduceToNat, Int.reduceLE, Int.reduceLT, allocX, setPs, extremeA, ints, resAll, rinfOk, packR]
    refine gB_bool ?_ ?_ <;> intro hb
    · have hm : ¬ (v.length : Int) = c := by simpa using hb
      simp -implicitDefEqProofs only [hm, rkA, stepA, valA, storeA, ldA, fieldAddrA, fieldA, idxAddrA, idxA, idxArr, lenA, unA, binA, num2, binV, eqA, rowOf, PV.cells, PV.cell, bndA, appA, reduceIte, reduceCtorEq, Nat.reduceAdd, Nat.reduceSub, Nat.reduceEqDiff, Nat.reduceLeDiff, Nat.reduceLT, Nat.reduceMul, Nat.reduceBEq, Nat.reduceBNe, Int.reduceToNat, Int.reduceLE, Int.reduceLT, allocX, setPs, extremeA, ints, resAll, rinfOk, packR]
    · have hm : (v.length : Int) = c := by simpa using hb
      clear hb
      simp -implicitDefEqProofs only [hm, rkA, stepA, valA, storeA, ldA, fieldAddrA, fieldA, idxAddrA, idxA, idxArr, lenA, unA, binA, num2, binV, eqA, rowOf, PV.cells, PV.cell, bndA, appA, reduceIte, reduceCtorEq, Nat.reduceAdd, Nat.reduceSub, Nat.reduceEqDiff, Nat.reduceLeDiff, Nat.reduceLT, Nat.reduceMul, Nat.reduceBEq, Nat.reduceBNe, Int.reduceToNat, Int.reduceLE, Int.reduceLT, allocX, setPs, extremeA, ints, resAll, rinfOk, packR]
      refine call_fn rfl rfl rfl (ok75 ex r c l) ?_
      simp -implicitDefEqProofs only [rkA, stepA, valA, storeA, ldA, fieldAddrA, fieldA, idxAddrA, idxA, idxArr, lenA, unA, binA, num2, binV, eqA, rowOf, PV.cells, PV.cell, bndA, appA, reduceIte, reduceCtorEq, Nat.reduceAdd, Nat.reduceSub, Nat.reduceEqDiff, Nat.reduceLeDiff, Nat.reduceLT, Nat.reduceMul, Nat.reduceBEq, Nat.reduceBNe, Int.reduceToNat, Int.reduceLE, Int.reduceLT, allocX, setPs, extremeA, ints, resAll, rinfOk, packR]
      have hal : (applyF r c l v).length = r.toNat := by simp [applyF, allF]
      have hll : l.length ≤ 256 := by
        have : r * c ≤ 16 * 16 := Int.mul_le_mul r2 c2 (by omega) (by omega)
        omega
      refine wp_rf' (items := rowsF r c l) rfl (it103 ex r c l) (fun sv i s => i ≤ r.toNat ∧ s = ⟨[], [(2, [nt r, nt c, .v (.sl ex (frs l))]), (3, [.v (.sl ev (frs v))]), (6, [.acc 1006 (frs ((applyF r c l v).take i))])], [], [(4, 0), (1006, i)], sv, 0, nomem⟩) ?_ ?_ ?_
      · simp -implicitDefEqProofs only [rkA, stepA, valA, storeA, ldA, fieldAddrA, fieldA, idxAddrA, idxA, idxArr, lenA, unA, binA, num2, binV, eqA, rowOf, PV.cells, PV.cell, bndA, appA, reduceIte, reduceCtorEq, Nat.reduceAdd, Nat.reduceSub, Nat.reduceEqDiff, Nat.reduceLeDiff, Nat.reduceLT, Nat.reduceMul, Nat.reduceBEq, Nat.reduceBNe, Int.reduceToNat, Int.reduceLE, Int.reduceLT, allocX, setPs, extremeA, ints, resAll, rinfOk, packR]
        exact Nat.zero_le _
      · rintro i x' s' R hx ⟨hi, rfl⟩ hR
        obtain ⟨hlt, rfl, hxi⟩ := rowsF_all hr hx
        refine ⟨rfl, ?_⟩
        simp -implicitDefEqProofs only [rkA, stepA, valA, storeA, ldA, fieldAddrA, fieldA, idxAddrA, idxA, idxArr, lenA, unA, binA, num2, binV, eqA, rowOf, PV.cells, PV.cell, bndA, appA, reduceIte, reduceCtorEq, Nat.reduceAdd, Nat.reduceSub, Nat.reduceEqDiff, Nat.reduceLeDiff, Nat.reduceLT, Nat.reduceMul, Nat.reduceBEq, Nat.reduceBNe, Int.reduceToNat, Int.reduceLE, Int.reduceLT, allocX, setPs, extremeA, ints, resAll, rinfOk, packR]
        have hra := rowF_length (r := r) (c := c) (l := l) i
        refine call_fn rfl rfl rfl (ok35 false ev (rowF r c l i) v (by omega) hv) ?_
        have hfit : fits 4 32 (frs ((applyF r c l v).take i)) [frV (dotF (rowF r c l i) v)] = true := fits_frs (l := [dotF (rowF r c l i) v]) (by simp only [List.length_cons, List.length_nil, List.length_take]; omega)
        have hl : (frs ((applyF r c l v).take i)).length = i := by simp; omega
        simp -implicitDefEqProofs only [hfit, hl, rkA, stepA, valA, storeA, ldA, fieldAddrA, fieldA, idxAddrA, idxA, idxArr, lenA, unA, binA, num2, binV, eqA, rowOf, PV.cells, PV.cell, bndA, appA, reduceIte, reduceCtorEq, Nat.reduceAdd, Nat.reduceSub, Nat.reduceEqDiff, Nat.reduceLeDiff, Nat.reduceLT, Nat.reduceMul, Nat.reduceBEq, Nat.reduceBNe, Int.reduceToNat, Int.reduceLE, Int.reduceLT, allocX, setPs, extremeA, ints, resAll, rinfOk, packR]
        refine hR _ ⟨by omega, ?_⟩
        have hai : (applyF r c l v)[i]'(by omega) = dotF (rowF r c l i) v := by simp [applyF, allF]
        rw [List.take_succ_eq_append_getElem (by omega), hai]
        simp only [frs, List.map_append, List.map_cons, List.map_nil]
      · rintro s' ⟨hi, rfl⟩
        simp -implicitDefEqProofs only [rkA, stepA, valA, storeA, ldA, fieldAddrA, fieldA, idxAddrA, idxA, idxArr, lenA, unA, binA, num2, binV, eqA, rowOf, PV.cells, PV.cell, bndA, appA, reduceIte, reduceCtorEq, Nat.reduceAdd, Nat.reduceSub, Nat.reduceEqDiff, Nat.reduceLeDiff, Nat.reduceLT, Nat.reduceMul, Nat.reduceBEq, Nat.reduceBNe, Int.reduceToNat, Int.reduceLE, Int.reduceLT, allocX, setPs, extremeA, ints, resAll, rinfOk, packR]
        rw [rowsF_length hr, List.take_of_length_le (by omega)]

end Go.Proofs.YtipchjfcjbghnaaGreat.A.E


set_option linter.unusedVariables false
set_option linter.unusedSimpArgs false
set_option maxRecDepth 100000
namespace Go.Proofs.YtipchjfcjbghnaaGreat.A
open Go Go.RowKit Go.Shelf

theorem methSub : Meth Tryz.prog 66 "Sub" 173 := by
  intro v xs w
  rfl

theorem ok99 (a b : Fr) : Ok Tryz.prog 99 [frV a, frV b] (frV (addF a b)) := by
  refine ok_fn mixed Tryz.func99 (code := ?_) (h := h99) ?_ k99 ?_
  rotate_left
  · exact rfl
  unfold h99 initS
  simp -implicitDefEqProofs only [rkA, stepA, valA, storeA, ldA, fieldAddrA, fieldA, idxAddrA, idxA, idxArr, lenA, unA, binA, num2, binV, eqA, rowOf, PV.cells, PV.cell, bndA, appA, reduceIte, reduceCtorEq, Nat.reduceAdd, Nat.reduceSub, Nat.reduceEqDiff, Nat.reduceLeDiff, Nat.reduceLT, Nat.reduceMul, Nat.reduceBEq, Nat.reduceBNe, Int.reduceToNat, Int.reduceLE, Int.reduceLT, allocX, setPs, extremeA, ints, resAll, rinfOk, packR, Tryz.ntmps99, Tryz.results99]
  refine call_meth rfl rfl methAdd (ok168 a b) ?_
  simp -implicitDefEqProofs only [rkA, stepA, valA, storeA, ldA, fieldAddrA, fieldA, idxAddrA, idxA, idxArr, lenA, unA, binA, num2, binV, eqA, rowOf, PV.cells, PV.cell, bndA, appA, reduceIte, reduceCtorEq, Nat.reduceAdd, Nat.reduceSub, Nat.reduceEqDiff, Nat.reduceLeDiff, Nat.reduceLT, Nat.reduceMul, Nat.reduceBEq, Nat.reduceBNe, Int.reduceToNat, Int.reduceLE, Int.reduceLT, allocX, setPs, extremeA, ints, resAll, rinfOk, packR]
theorem ok122 (a b : Fr) : Ok Tryz.prog 122 [frV a, frV b] (frV (subF a b)) := by
  refine ok_fn mixed Tryz.func122 (code := ?_) (h := h122) ?_ k122 ?_
  rotate_left
  · exact rfl
  unfold h122 initS
  simp -implicitDefEqProofs only [rkA, stepA, valA, storeA, ldA, fieldAddrA, fieldA, idxAddrA, idxA, idxArr, lenA, unA, binA, num2, binV, eqA, rowOf, PV.cells, PV.cell, bndA, appA, reduceIte, reduceCtorEq, Nat.reduceAdd, Nat.reduceSub, Nat.reduceEqDiff, Nat.reduceLeDiff, Nat.reduceLT, Nat.reduceMul, Nat.reduceBEq, Nat.reduceBNe, Int.reduceToNat, Int.reduceLE, Int.reduceLT, allocX, setPs, extremeA, ints, resAll, rinfOk, packR, Tryz.ntmps122, Tryz.results122]
  refine call_meth rfl rfl methSub (ok173 a b) ?_
  simp -implicitDefEqProofs only [rkA, stepA, valA, storeA, ldA, fieldAddrA, fieldA, idxAddrA, idxA, idxArr, lenA, unA, binA, num2, binV, eqA, rowOf, PV.cells, PV.cell, bndA, appA, reduceIte, reduceCtorEq, Nat.reduceAdd, Nat.reduceSub, Nat.reduceEqDiff, Nat.reduceLeDiff, Nat.reduceLT, Nat.reduceMul, Nat.reduceBEq, Nat.reduceBNe, Int.reduceToNat, Int.reduceLE, Int.reduceLT, allocX, setPs, extremeA, ints, resAll, rinfOk, packR]
theorem ok70 (ea eb : Bool) (a b : List Fr) (ha : a.length ≤ 5864062014805) (hb : b.length ≤ 5864062014805) : Ok Tryz.prog 70 [.sl ea (frs a), .sl eb (frs b)] (.sl false (frs (List.zipWith addF a b))) := by
  refine ok_fn mixed Tryz.func70 (code := ?_) (h := h70) ?_ k70 ?_
  rotate_left
  · exact rfl
  unfold h70 initS
  simp -implicitDefEqProofs only [rkA, stepA, valA, storeA, ldA, fieldAddrA, fieldA, idxAddrA, idxA, idxArr, lenA, unA, binA, num2, binV, eqA, rowOf, PV.cells, PV.cell, bndA, appA, reduceIte, reduceCtorEq, Nat.reduceAdd, Nat.reduceSub, Nat.reduceEqDiff, Nat.reduceLeDiff, Nat.reduceLT, Nat.reduceMul, Nat.reduceBEq, Nat.reduceBNe, Int.reduceToNat, Int.reduceLE, Int.reduceLT, allocX, setPs, extremeA, ints, resAll, rinfOk, packR, Tryz.ntmps70, Tryz.results70]
  refine call_fn rfl rfl rfl (ok95 99 addF ok99 ea eb a b ha hb) ?_
  simp -implicitDefEqProofs only [rkA, stepA, valA, storeA, ldA, fieldAddrA, fieldA, idxAddrA, idxA, idxArr, lenA, unA, binA, num2, binV, eqA, rowOf, PV.cells, PV.cell, bndA, appA, reduceIte, reduceCtorEq, Nat.reduceAdd, Nat.reduceSub, Nat.reduceEqDiff, Nat.reduceLeDiff, Nat.reduceLT, Nat.reduceMul, Nat.reduceBEq, Nat.reduceBNe, Int.reduceToNat, Int.reduceLE, Int.reduceLT, allocX, setPs, extremeA, ints, resAll, rinfOk, packR]
theorem ok98 (ea eb : Bool) (a b : List Fr) (ha : a.length ≤ 5864062014805) (hb : b.length ≤ 5864062014805) : Ok Tryz.prog 98 [.sl ea (frs a), .sl eb (frs b)] (.sl false (frs (List.zipWith subF a b))) := by
  refine ok_fn mixed Tryz.func98 (code := ?_) (h := h98) ?_ k98 ?_
  rotate_left
  · exact rfl
  unfold h98 initS
  simp -implicitDefEqProofs only [rkA, stepA, valA, storeA, ldA, fieldAddrA, fieldA, idxAddrA, idxA, idxArr, lenA, unA, binA, num2, binV, eqA, rowOf, PV.cells, PV.cell, bndA, appA, reduceIte, reduceCtorEq, Nat.reduceAdd, Nat.reduceSub, Nat.reduceEqDiff, Nat.reduceLeDiff, Nat.reduceLT, Nat.reduceMul, Nat.reduceBEq, Nat.reduceBNe, Int.reduceToNat, Int.reduceLE, Int.reduceLT, allocX, setPs, extremeA, ints, resAll, rinfOk, packR, Tryz.ntmps98, Tryz.results98]
  refine call_fn rfl rfl rfl (ok95 122 subF ok122 ea eb a b ha hb) ?_
  simp -implicitDefEqProofs only [rkA, stepA, valA, storeA, ldA, fieldAddrA, fieldA, idxAddrA, idxA, idxArr, lenA, unA, binA, num2, binV, eqA, rowOf, PV.cells, PV.cell, bndA, appA, reduceIte, reduceCtorEq, Nat.reduceAdd, Nat.reduceSub, Nat.reduceEqDiff, Nat.reduceLeDiff, Nat.reduceLT, Nat.reduceMul, Nat.reduceBEq, Nat.reduceBNe, Int.reduceToNat, Int.reduceLE, Int.reduceLT, allocX, setPs, extremeA, ints, resAll, rinfOk, packR]

theorem right_le {r c : Int} {n : Nat} (h : right r c n = true) : n ≤ 256 := by
  obtain ⟨r1, r2, c1, c2, hn⟩ := right_spec h
  have : r * c ≤ 16 * 16 := Int.mul_le_mul r2 c2 (by omega) (by omega)
  omega

/-- Number by number. -/
theorem ok97 (k : Nat) (F : Fr → Fr → Fr) (hF : ∀ (ea eb : Bool) (a b : List Fr), a.length ≤ 5864062014805 → b.length ≤ 5864062014805 → Ok Tryz.prog k [.sl ea (frs a), .sl eb (frs b)] (.sl false (frs (List.zipWith F a b)))) (ea eb : Bool) (r c r2 c2 : Int) (a b : List Fr) :
    Ok Tryz.prog 97 [matV ea r c (frs a), matV eb r2 c2 (frs b), .fn (.func k) []] (if right r c a.length = true ∧ right r2 c2 b.length = true ∧ r = r2 ∧ c = c2 then .tup [matV false r c (frs (List.zipWith F a b)), tru true] else .tup [matNil, tru false]) := by
  refine ok_fn mixed Tryz.func97 (code := ?_) (h := h97) ?_ k97 ?_
  rotate_left
  · exact rfl
  unfold h97 initS
  simp -implicitDefEqProofs only [rkA, stepA, valA, storeA, ldA, fieldAddrA, fieldA, idxAddrA, idxA, idxArr, lenA, unA, binA, num2, binV, eqA, rowOf, PV.cells, PV.cell, bndA, appA, reduceIte, reduceCtorEq, Nat.reduceAdd, Nat.reduceSub, Nat.reduceEqDiff, Nat.reduceLeDiff, Nat.reduceLT, Nat.reduceMul, Nat.reduceBEq, Nat.reduceBNe, Int.reduceToNat, Int.reduceLE, Int.reduceLT, allocX, setPs, extremeA, ints, resAll, rinfOk, packR, Tryz.ntmps97, Tryz.results97]
  refine call_fn rfl rfl rfl (ok84 ea r c (frs a)) ?_
  have e : (frs a).length = a.length := by simp
  have e' : (frs b).length = b.length := by simp
  rw [e]
  cases hr : right r c a.length with
  | false => simp -implicitDefEqProofs only [rkA, stepA, valA, storeA, ldA, fieldAddrA, fieldA, idxAddrA, idxA, idxArr, lenA, unA, binA, num2, binV, eqA, rowOf, PV.cells, PV.cell, bndA, appA, reduceIte, reduceCtorEq, Nat.reduceAdd, Nat.reduceSub, Nat.reduceEqDiff, Nat.reduceLeDiff, Nat.reduceLT, Nat.reduceMul, Nat.reduceBEq, Nat.reduceBNe, Int.reduceToNat, Int.reduceLE, Int.reduceLT, allocX, setPs, extremeA, ints, resAll, rinfOk, packR]
  | true =>
    simp -implicitDefEqProofs only [rkA, stepA, valA, storeA, ldA, fieldAddrA, fieldA, idxAddrA, idxA, idxArr, lenA, unA, binA, num2, binV, eqA, rowOf, PV.cells, PV.cell, bndA, appA, reduceIte, reduceCtorEq, Nat.reduceAdd, Nat.reduceSub, Nat.reduceEqDiff, Nat.reduceLeDiff, Nat.reduceLT, Nat.reduceMul, Nat.reduceBEq, Nat.reduceBNe, Int.reduceToNat, Int.reduceLE, Int.reduceLT, allocX, setPs, extremeA, ints, resAll, rinfOk, packR]
    refine call_fn rfl rfl rfl (ok84 eb r2 c2 (frs b)) ?_
    rw [e']
    cases hr2 : right r2 c2 b.length with
    | false => simp -implicitDefEqProofs only [rkA, stepA, valA, storeA, ldA, fieldAddrA, fieldA, idxAddrA, idxA, idxArr, lenA, unA, binA, num2, binV, eqA, rowOf, PV.cells, PV.cell, bndA, appA, reduceIte, reduceCtorEq, Nat.reduceAdd, Nat.reduceSub, Nat.reduceEqDiff, Nat.reduceLeDiff, Nat.reduceLT, Nat.reduceMul, Nat.reduceBEq, Nat.reduceBNe, Int.reduceToNat, Int.reduceLE, Int.reduceLT, allocX, setPs, extremeA, ints, resAll, rinfOk, packR]
    | true =>
      have l1 := right_le hr
      have l2 := right_le hr2
      simp -implicitDefEqProofs only [rkA, stepA, valA, storeA, ldA, fieldAddrA, fieldA, idxAddrA, idxA, idxArr, lenA, unA, binA, num2, binV, eqA, rowOf, PV.cells, PV.cell, bndA, appA, reduceIte, reduceCtorEq, Nat.reduceAdd, Nat.reduceSub, Nat.reduceEqDiff, Nat.reduceLeDiff, Nat.reduceLT, Nat.reduceMul, Nat.reduceBEq, Nat.reduceBNe, Int.reduceToNat, Int.reduceLE, Int.reduceLT, allocX, setPs, extremeA, ints, resAll, rinfOk, packR]
      by_cases h1 : r = r2
      · subst h1
        simp -implicitDefEqProofs only [bne_self_eq_false, rkA, stepA, valA, storeA, ldA, fieldAddrA, fieldA, idxAddrA, idxA, idxArr, lenA, unA, binA, num2, binV, eqA, rowOf, PV.cells, PV.cell, bndA, appA, reduceIte, reduceCtorEq, Nat.reduceAdd, Nat.reduceSub, Nat.reduceEqDiff, Nat.reduceLeDiff, Nat.reduceLT, Nat.reduceMul, Nat.reduceBEq, Nat.reduceBNe, Int.reduceToNat, Int.reduceLE, Int.reduceLT, allocX, setPs, extremeA, ints, resAll, rinfOk, packR]
        by_cases h2 : c = c2
        · subst h2
          simp -implicitDefEqProofs only [bne_self_eq_false, rkA, stepA, valA, storeA, ldA, fieldAddrA, fieldA, idxAddrA, idxA, idxArr, lenA, unA, binA, num2, binV, eqA, rowOf, PV.cells, PV.cell, bndA, appA, reduceIte, reduceCtorEq, Nat.reduceAdd, Nat.reduceSub, Nat.reduceEqDiff, Nat.reduceLeDiff, Nat.reduceLT, Nat.reduceMul, Nat.reduceBEq, Nat.reduceBNe, Int.reduceToNat, Int.reduceLE, Int.reduceLT, allocX, setPs, extremeA, ints, resAll, rinfOk, packR]
          refine call_fn rfl rfl rfl (hF ea eb a b (by omega) (by omega)) ?_
          simp -implicitDefEqProofs only [rkA, stepA, valA, storeA, ldA, fieldAddrA, fieldA, idxAddrA, idxA, idxArr, lenA, unA, binA, num2, binV, eqA, rowOf, PV.cells, PV.cell, bndA, appA, reduceIte, reduceCtorEq, Nat.reduceAdd, Nat.reduceSub, Nat.reduceEqDiff, Nat.reduceLeDiff, Nat.reduceLT, Nat.reduceMul, Nat.reduceBEq, Nat.reduceBNe, Int.reduceToNat, Int.reduceLE, Int.reduceLT, allocX, setPs, extremeA, ints, resAll, rinfOk, packR]
        · have hne : (c != c2) = true := by simp [h2]
          simp -implicitDefEqProofs only [hne, h2, rkA, stepA, valA, storeA, ldA, fieldAddrA, fieldA, idxAddrA, idxA, idxArr, lenA, unA, binA, num2, binV, eqA, rowOf, PV.cells, PV.cell, bndA, appA, reduceIte, reduceCtorEq, Nat.reduceAdd, Nat.reduceSub, Nat.reduceEqDiff, Nat.reduceLeDiff, Nat.reduceLT, Nat.reduceMul, Nat.reduceBEq, Nat.reduceBNe, Int.reduceToNat, Int.reduceLE, Int.reduceLT, allocX, setPs, extremeA, ints, resAll, rinfOk, packR]
      · have hne : (r != r2) = true := by simp [h1]
        simp -implicitDefEqProofs only [hne, h1, rkA, stepA, valA, storeA, ldA, fieldAddrA, fieldA, idxAddrA, idxA, idxArr, lenA, unA, binA, num2, binV, eqA, rowOf, PV.cells, PV.cell, bndA, appA, reduceIte, reduceCtorEq, Nat.reduceAdd, Nat.reduceSub, Nat.reduceEqDiff, Nat.reduceLeDiff, Nat.reduceLT, Nat.reduceMul, Nat.reduceBEq, Nat.reduceBNe, Int.reduceToNat, Int.reduceLE, Int.reduceLT, allocX, setPs, extremeA, ints, resAll, rinfOk, packR]

theorem ok93 (ea eb : Bool) (r c r2 c2 : Int) (a b : List Fr) : Ok Tryz.prog 93 [matV ea r c (frs a), matV eb r2 c2 (frs b)]
    (if right r c a.length = true ∧ right r2 c2 b.length = true ∧ r = r2 ∧ c = c2 then .tup [matV false r c (frs (List.zipWith addF a b)), tru true] else .tup [matNil, tru false]) := by
  refine ok_fn mixed Tryz.func93 (code := ?_) (h := h93) ?_ k93 ?_
  rotate_left
  · exact rfl
  unfold h93 initS
  simp -implicitDefEqProofs only [rkA, stepA, valA, storeA, ldA, fieldAddrA, fieldA, idxAddrA, idxA, idxArr, lenA, unA, binA, num2, binV, eqA, rowOf, PV.cells, PV.cell, bndA, appA, reduceIte, reduceCtorEq, Nat.reduceAdd, Nat.reduceSub, Nat.reduceEqDiff, Nat.reduceLeDiff, Nat.reduceLT, Nat.reduceMul, Nat.reduceBEq, Nat.reduceBNe, Int.reduceToNat, Int.reduceLE, Int.reduceLT, allocX, setPs, extremeA, ints, resAll, rinfOk, packR, Tryz.ntmps93, Tryz.results93]
  refine call_fn rfl rfl rfl (ok97 70 addF ok70 ea eb r c r2 c2 a b) ?_
  split <;> simp -implicitDefEqProofs only [rkA, stepA, valA, storeA, ldA, fieldAddrA, fieldA, idxAddrA, idxA, idxArr, lenA, unA, binA, num2, binV, eqA, rowOf, PV.cells, PV.cell, bndA, appA, reduceIte, reduceCtorEq, Nat.reduceAdd, Nat.reduceSub, Nat.reduceEqDiff, Nat.reduceLeDiff, Nat.reduceLT, Nat.reduceMul, Nat.reduceBEq, Nat.reduceBNe, Int.reduceToNat, Int.reduceLE, Int.reduceLT, allocX, setPs, extremeA, ints, resAll, rinfOk, packR]
theorem ok67 (ea eb : Bool) (r c r2 c2 : Int) (a b : List Fr) : Ok Tryz.prog 67 [matV ea r c (frs a), matV eb r2 c2 (frs b)]
    (if right r c a.length = true ∧ right r2 c2 b.length = true ∧ r = r2 ∧ c = c2 then .tup [matV false r c (frs (List.zipWith subF a b)), tru true] else .tup [matNil, tru false]) := by
  refine ok_fn mixed Tryz.func67 (code := ?_) (h := h67) ?_ k67 ?_
  rotate_left
  · exact rfl
  unfold h67 initS
  simp -implicitDefEqProofs only [rkA, stepA, valA, storeA, ldA, fieldAddrA, fieldA, idxAddrA, idxA, idxArr, lenA, unA, binA, num2, binV, eqA, rowOf, PV.cells, PV.cell, bndA, appA, reduceIte, reduceCtorEq, Nat.reduceAdd, Nat.reduceSub, Nat.reduceEqDiff, Nat.reduceLeDiff, Nat.reduceLT, Nat.reduceMul, Nat.reduceBEq, Nat.reduceBNe, Int.reduceToNat, Int.reduceLE, Int.reduceLT, allocX, setPs, extremeA, ints, resAll, rinfOk, packR, Tryz.ntmps67, Tryz.results67]
  refine call_fn rfl rfl rfl (ok97 98 subF ok98 ea eb r c r2 c2 a b) ?_
  split <;> simp -implicitDefEqProofs only [rkA, stepA, valA, storeA, ldA, fieldAddrA, fieldA, idxAddrA, idxA, idxArr, lenA, unA, binA, num2, binV, eqA, rowOf, PV.cells, PV.cell, bndA, appA, reduceIte, reduceCtorEq, Nat.reduceAdd, Nat.reduceSub, Nat.reduceEqDiff, Nat.reduceLeDiff, Nat.reduceLT, Nat.reduceMul, Nat.reduceBEq, Nat.reduceBNe, Int.reduceToNat, Int.reduceLE, Int.reduceLT, allocX, setPs, extremeA, ints, resAll, rinfOk, packR]

/-! ### Beside -/
/-! ### Mirrored -/
def mirF (r : Int) (l : List Fr) : List Fr := gridP (fun i k => atF r r l (max i k : Nat) (min i k : Nat)) r.toNat r.toNat 0
theorem ok91 (ex : Bool) (r c : Int) (l : List Fr) : Ok Tryz.prog 91 [matV ex r c (frs l)] (if right r c l.length = true ∧ r = c then .tup [matV false r c (frs (mirF r l)), tru true] else .tup [matNil, tru false]) := by
  refine ok_fn mixed Tryz.func91 (code := ?_) (h := h91) ?_ k91 ?_
  rotate_left
  · exact rfl
  unfold h91 initS
  simp -implicitDefEqProofs only [rkA, stepA, valA, storeA, ldA, fieldAddrA, fieldA, idxAddrA, idxA, idxArr, lenA, unA, binA, num2, binV, eqA, rowOf, PV.cells, PV.cell, bndA, appA, reduceIte, reduceCtorEq, Nat.reduceAdd, Nat.reduceSub, Nat.reduceEqDiff, Nat.reduceLeDiff, Nat.reduceLT, Nat.reduceMul, Nat.reduceBEq, Nat.reduceBNe, Int.reduceToNat, Int.reduceLE, Int.reduceLT, allocX, setPs, extremeA, ints, resAll, rinfOk, packR, Tryz.ntmps91, Tryz.results91]
  refine call_fn rfl rfl rfl (ok84 ex r c (frs l)) ?_
  have e : (frs l).length = l.length := by simp
  rw [e]
  cases hr : right r c l.length with
  | false => simp -implicitDefEqProofs only [rkA, stepA, valA, storeA, ldA, fieldAddrA, fieldA, idxAddrA, idxA, idxArr, lenA, unA, binA, num2, binV, eqA, rowOf, PV.cells, PV.cell, bndA, appA, reduceIte, reduceCtorEq, Nat.reduceAdd, Nat.reduceSub, Nat.reduceEqDiff, Nat.reduceLeDiff, Nat.reduceLT, Nat.reduceMul, Nat.reduceBEq, Nat.reduceBNe, Int.reduceToNat, Int.reduceLE, Int.reduceLT, allocX, setPs, extremeA, ints, resAll, rinfOk, packR]
  | true =>
    obtain ⟨r1, r2, c1, c2, hn⟩ := right_spec hr
    simp -implicitDefEqProofs only [rkA, stepA, valA, storeA, ldA, fieldAddrA, fieldA, idxAddrA, idxA, idxArr, lenA, unA, binA, num2, binV, eqA, rowOf, PV.cells, PV.cell, bndA, appA, reduceIte, reduceCtorEq, Nat.reduceAdd, Nat.reduceSub, Nat.reduceEqDiff, Nat.reduceLeDiff, Nat.reduceLT, Nat.reduceMul, Nat.reduceBEq, Nat.reduceBNe, Int.reduceToNat, Int.reduceLE, Int.reduceLT, allocX, setPs, extremeA, ints, resAll, rinfOk, packR]
    by_cases h1 : r = c
    · subst h1
      simp -implicitDefEqProofs only [bne_self_eq_false, rkA, stepA, valA, storeA, ldA, fieldAddrA, fieldA, idxAddrA, idxA, idxArr, lenA, unA, binA, num2, binV, eqA, rowOf, PV.cells, PV.cell, bndA, appA, reduceIte, reduceCtorEq, Nat.reduceAdd, Nat.reduceSub, Nat.reduceEqDiff, Nat.reduceLeDiff, Nat.reduceLT, Nat.reduceMul, Nat.reduceBEq, Nat.reduceBNe, Int.reduceToNat, Int.reduceLE, Int.reduceLT, allocX, setPs, extremeA, ints, resAll, rinfOk, packR]
      have hlen := gridP_length (fun i k => atF r r l (max i k : Nat) (min i k : Nat)) r.toNat
      refine wp_loop (fun m s => ∃ i : Nat, i + m = r.toNat ∧ s = ⟨[jk, .ptr 1 0, .ptr 2 0, jk, .ptr 4 0, jk, jk, jk, jk, jk, jk, jk, jk, jk, jk, jk, jk, jk, jk, jk, jk, jk, jk, jk, nt r, nt i, jk, jk, jk, jk, jk, jk, jk, jk, jk, jk, jk, jk, jk, jk, jk, jk, jk, jk, jk, jk, jk, jk, jk], [(1, [nt r, nt r, .v (.sl ex (frs l))]), (2, [nt 0, nt 0, .acc 3002 []]), (4, [nt r, nt r, .acc 15004 (frs (gridP (fun i k => atF r r l (max i k : Nat) (min i k : Nat)) r.toNat i 0))])], [],
        [(3002, 0), (3004, 0), (15004, (gridP (fun i k => atF r r l (max i k : Nat) (min i k : Nat)) r.toNat i 0).length)], [], 0, nomem⟩) r.toNat ?_ ?_
      · simp -implicitDefEqProofs only [rkA, stepA, valA, storeA, ldA, fieldAddrA, fieldA, idxAddrA, idxA, idxArr, lenA, unA, binA, num2, binV, eqA, rowOf, PV.cells, PV.cell, bndA, appA, reduceIte, reduceCtorEq, Nat.reduceAdd, Nat.reduceSub, Nat.reduceEqDiff, Nat.reduceLeDiff, Nat.reduceLT, Nat.reduceMul, Nat.reduceBEq, Nat.reduceBNe, Int.reduceToNat, Int.reduceLE, Int.reduceLT, allocX, setPs, extremeA, ints, resAll, rinfOk, packR]
        exact ⟨0, by simp, rfl⟩
      rintro m s ⟨i, hi, rfl⟩
      simp -implicitDefEqProofs only [rkA, stepA, valA, storeA, ldA, fieldAddrA, fieldA, idxAddrA, idxA, idxArr, lenA, unA, binA, num2, binV, eqA, rowOf, PV.cells, PV.cell, bndA, appA, reduceIte, reduceCtorEq, Nat.reduceAdd, Nat.reduceSub, Nat.reduceEqDiff, Nat.reduceLeDiff, Nat.reduceLT, Nat.reduceMul, Nat.reduceBEq, Nat.reduceBNe, Int.reduceToNat, Int.reduceLE, Int.reduceLT, allocX, setPs, extremeA, ints, resAll, rinfOk, packR]
      refine gB_dec ?_ ?_ <;> intro hc <;> simp -implicitDefEqProofs only [hc, rkA, stepA, valA, storeA, ldA, fieldAddrA, fieldA, idxAddrA, idxA, idxArr, lenA, unA, binA, num2, binV, eqA, rowOf, PV.cells, PV.cell, bndA, appA, reduceIte, reduceCtorEq, Nat.reduceAdd, Nat.reduceSub, Nat.reduceEqDiff, Nat.reduceLeDiff, Nat.reduceLT, Nat.reduceMul, Nat.reduceBEq, Nat.reduceBNe, Int.reduceToNat, Int.reduceLE, Int.reduceLT, allocX, setPs, extremeA, ints, resAll, rinfOk, packR]
      · refine wp_loop (fun m s => ∃ k : Nat, k + m = r.toNat ∧ s = ⟨[jk, .ptr 1 0, .ptr 2 0, jk, .ptr 4 0, nt i, jk, jk, jk, jk, jk, jk, jk, jk, jk, jk, jk, jk, jk, jk, jk, jk, jk, jk, nt r, nt i, jk, jk, jk, nt r, nt k, jk, jk, jk, jk, jk, jk, jk, jk, jk, jk, jk, jk, jk, jk, jk, jk, jk, jk], [(1, [nt r, nt r, .v (.sl ex (frs l))]), (2, [nt 0, nt 0, .acc 3002 []]), (4, [nt r, nt r, .acc 15004 (frs (gridP (fun i k => atF r r l (max i k : Nat) (min i k : Nat)) r.toNat i k))])], [],
          [(3002, 0), (3004, 0), (15004, (gridP (fun i k => atF r r l (max i k : Nat) (min i k : Nat)) r.toNat i k).length)], [], 0, nomem⟩) r.toNat ?_ ?_
        · simp -implicitDefEqProofs only [rkA, stepA, valA, storeA, ldA, fieldAddrA, fieldA, idxAddrA, idxA, idxArr, lenA, unA, binA, num2, binV, eqA, rowOf, PV.cells, PV.cell, bndA, appA, reduceIte, reduceCtorEq, Nat.reduceAdd, Nat.reduceSub, Nat.reduceEqDiff, Nat.reduceLeDiff, Nat.reduceLT, Nat.reduceMul, Nat.reduceBEq, Nat.reduceBNe, Int.reduceToNat, Int.reduceLE, Int.reduceLT, allocX, setPs, extremeA, ints, resAll, rinfOk, packR]
          exact ⟨0, by simp, rfl⟩
        rintro m' s ⟨k, hk, rfl⟩
        simp -implicitDefEqProofs only [rkA, stepA, valA, storeA, ldA, fieldAddrA, fieldA, idxAddrA, idxA, idxArr, lenA, unA, binA, num2, binV, eqA, rowOf, PV.cells, PV.cell, bndA, appA, reduceIte, reduceCtorEq, Nat.reduceAdd, Nat.reduceSub, Nat.reduceEqDiff, Nat.reduceLeDiff, Nat.reduceLT, Nat.reduceMul, Nat.reduceBEq, Nat.reduceBNe, Int.reduceToNat, Int.reduceLE, Int.reduceLT, allocX, setPs, extremeA, ints, resAll, rinfOk, packR]
        refine gB_dec ?_ ?_ <;> intro hc2 <;> simp -implicitDefEqProofs only [hc2, rkA, stepA, valA, storeA, ldA, fieldAddrA, fieldA, idxAddrA, idxA, idxArr, lenA, unA, binA, num2, binV, eqA, rowOf, PV.cells, PV.cell, bndA, appA, reduceIte, reduceCtorEq, Nat.reduceAdd, Nat.reduceSub, Nat.reduceEqDiff, Nat.reduceLeDiff, Nat.reduceLT, Nat.reduceMul, Nat.reduceBEq, Nat.reduceBNe, Int.reduceToNat, Int.reduceLE, Int.reduceLT, allocX, setPs, extremeA, ints, resAll, rinfOk, packR]
        · have hb : i * r.toNat + k ≤ 256 := by
            have : (i + 1) * r.toNat ≤ 16 * 16 := Nat.mul_le_mul (by omega) (by omega)
            rw [Nat.add_mul] at this
            omega
          have m1 : (if (i : Int) < (k : Int) then (k : Int) else (i : Int)) = ((max i k : Nat) : Int) := by split <;> omega
          have m2 : (if (k : Int) < (i : Int) then (k : Int) else (i : Int)) = ((min i k : Nat) : Int) := by split <;> omega
          simp only [m1, m2]
          refine call_fn rfl rfl rfl (ok44 ex r r (max i k : Nat) (min i k : Nat) l) ?_
          have hl1 := hlen i k
          have hfit : fits 3 24 (frs (gridP (fun i k => atF r r l (max i k : Nat) (min i k : Nat)) r.toNat i k)) [frV (atF r r l (max i k : Nat) (min i k : Nat))] = true := fits_frs (l := [atF r r l (max i k : Nat) (min i k : Nat)]) (by simp only [List.length_cons, List.length_nil]; omega)
          have hl : (frs (gridP (fun i k => atF r r l (max i k : Nat) (min i k : Nat)) r.toNat i k)).length = (gridP (fun i k => atF r r l (max i k : Nat) (min i k : Nat)) r.toNat i k).length := by simp
          have hw := wrapped (x := (k : Int) + 1) (by omega) (by omega)
          simp -implicitDefEqProofs only [hfit, hl, hw, rkA, stepA, valA, storeA, ldA, fieldAddrA, fieldA, idxAddrA, idxA, idxArr, lenA, unA, binA, num2, binV, eqA, rowOf, PV.cells, PV.cell, bndA, appA, reduceIte, reduceCtorEq, Nat.reduceAdd, Nat.reduceSub, Nat.reduceEqDiff, Nat.reduceLeDiff, Nat.reduceLT, Nat.reduceMul, Nat.reduceBEq, Nat.reduceBNe, Int.reduceToNat, Int.reduceLE, Int.reduceLT, allocX, setPs, extremeA, ints, resAll, rinfOk, packR]
          refine loopK_of (m' := m' - 1) (by omega) ?_
          simp -implicitDefEqProofs only [rkA, stepA, valA, storeA, ldA, fieldAddrA, fieldA, idxAddrA, idxA, idxArr, lenA, unA, binA, num2, binV, eqA, rowOf, PV.cells, PV.cell, bndA, appA, reduceIte, reduceCtorEq, Nat.reduceAdd, Nat.reduceSub, Nat.reduceEqDiff, Nat.reduceLeDiff, Nat.reduceLT, Nat.reduceMul, Nat.reduceBEq, Nat.reduceBNe, Int.reduceToNat, Int.reduceLE, Int.reduceLT, allocX, setPs, extremeA, ints, resAll, rinfOk, packR]
          refine ⟨k + 1, by omega, ?_⟩
          rw [gridP_succ]
          simp only [frs, List.map_append, List.map_cons, List.map_nil, List.length_append, List.length_cons, List.length_nil, Int.natCast_add, Int.natCast_one]
        · have hkr : k = r.toNat := by omega
          have hw := wrapped (x := (i : Int) + 1) (by omega) (by omega)
          simp -implicitDefEqProofs only [hw, rkA, stepA, valA, storeA, ldA, fieldAddrA, fieldA, idxAddrA, idxA, idxArr, lenA, unA, binA, num2, binV, eqA, rowOf, PV.cells, PV.cell, bndA, appA, reduceIte, reduceCtorEq, Nat.reduceAdd, Nat.reduceSub, Nat.reduceEqDiff, Nat.reduceLeDiff, Nat.reduceLT, Nat.reduceMul, Nat.reduceBEq, Nat.reduceBNe, Int.reduceToNat, Int.reduceLE, Int.reduceLT, allocX, setPs, extremeA, ints, resAll, rinfOk, packR]
          refine loopK_of (m' := m - 1) (by omega) ?_
          simp -implicitDefEqProofs only [rkA, stepA, valA, storeA, ldA, fieldAddrA, fieldA, idxAddrA, idxA, idxArr, lenA, unA, binA, num2, binV, eqA, rowOf, PV.cells, PV.cell, bndA, appA, reduceIte, reduceCtorEq, Nat.reduceAdd, Nat.reduceSub, Nat.reduceEqDiff, Nat.reduceLeDiff, Nat.reduceLT, Nat.reduceMul, Nat.reduceBEq, Nat.reduceBNe, Int.reduceToNat, Int.reduceLE, Int.reduceLT, allocX, setPs, extremeA, ints, resAll, rinfOk, packR]
          refine ⟨i + 1, by omega, ?_⟩
          rw [hkr, gridP_next]
          simp only [Int.natCast_add, Int.natCast_one]
      · have : i = r.toNat := by omega
        subst this
        simp only [mirF]
    · have hne : (r != c) = true := by simp [h1]
      simp -implicitDefEqProofs only [hne, h1, rkA, stepA, valA, storeA, ldA, fieldAddrA, fieldA, idxAddrA, idxA, idxArr, lenA, unA, binA, num2, binV, eqA, rowOf, PV.cells, PV.cell, bndA, appA, reduceIte, reduceCtorEq, Nat.reduceAdd, Nat.reduceSub, Nat.reduceEqDiff, Nat.reduceLeDiff, Nat.reduceLT, Nat.reduceMul, Nat.reduceBEq, Nat.reduceBNe, Int.reduceToNat, Int.reduceLE, Int.reduceLT, allocX, setPs, extremeA, ints, resAll, rinfOk, packR]

/-! ### Alike -/
end Go.Proofs.YtipchjfcjbghnaaGreat.A


set_option linter.unusedVariables false
set_option linter.unusedSimpArgs false
set_option maxRecDepth 100000
namespace Go.Proofs.YtipchjfcjbghnaaGreat.A.E
open Go Go.RowKit Go.Shelf

theorem methSub : Meth Tryz.prog 24 "Sub" 157 := by
  intro v xs w
  rfl

theorem ok82 (a b : Fr) : Ok Tryz.prog 82 [frV a, frV b] (frV (addF a b)) := by
  refine ok_fn mixed Tryz.func82 (code := ?_) (h := h82) ?_ k82 ?_
  rotate_left
  · exact rfl
  unfold h82 initS
  simp -implicitDefEqProofs only [rkA, stepA, valA, storeA, ldA, fieldAddrA, fieldA, idxAddrA, idxA, idxArr, lenA, unA, binA, num2, binV, eqA, rowOf, PV.cells, PV.cell, bndA, appA, reduceIte, reduceCtorEq, Nat.reduceAdd, Nat.reduceSub, Nat.reduceEqDiff, Nat.reduceLeDiff, Nat.reduceLT, Nat.reduceMul, Nat.reduceBEq, Nat.reduceBNe, Int.reduceToNat, Int.reduceLE, Int.reduceLT, allocX, setPs, extremeA, ints, resAll, rinfOk, packR, Tryz.ntmps82, Tryz.results82]
  refine call_meth rfl rfl methAdd (ok154 a b) ?_
  simp -implicitDefEqProofs only [rkA, stepA, valA, storeA, ldA, fieldAddrA, fieldA, idxAddrA, idxA, idxArr, lenA, unA, binA, num2, binV, eqA, rowOf, PV.cells, PV.cell, bndA, appA, reduceIte, reduceCtorEq, Nat.reduceAdd, Nat.reduceSub, Nat.reduceEqDiff, Nat.reduceLeDiff, Nat.reduceLT, Nat.reduceMul, Nat.reduceBEq, Nat.reduceBNe, Int.reduceToNat, Int.reduceLE, Int.reduceLT, allocX, setPs, extremeA, ints, resAll, rinfOk, packR]
theorem ok106 (a b : Fr) : Ok Tryz.prog 106 [frV a, frV b] (frV (subF a b)) := by
  refine ok_fn mixed Tryz.func106 (code := ?_) (h := h106) ?_ k106 ?_
  rotate_left
  · exact rfl
  unfold h106 initS
  simp -implicitDefEqProofs only [rkA, stepA, valA, storeA, ldA, fieldAddrA, fieldA, idxAddrA, idxA, idxArr, lenA, unA, binA, num2, binV, eqA, rowOf, PV.cells, PV.cell, bndA, appA, reduceIte, reduceCtorEq, Nat.reduceAdd, Nat.reduceSub, Nat.reduceEqDiff, Nat.reduceLeDiff, Nat.reduceLT, Nat.reduceMul, Nat.reduceBEq, Nat.reduceBNe, Int.reduceToNat, Int.reduceLE, Int.reduceLT, allocX, setPs, extremeA, ints, resAll, rinfOk, packR, Tryz.ntmps106, Tryz.results106]
  refine call_meth rfl rfl methSub (ok157 a b) ?_
  simp -implicitDefEqProofs only [rkA, stepA, valA, storeA, ldA, fieldAddrA, fieldA, idxAddrA, idxA, idxArr, lenA, unA, binA, num2, binV, eqA, rowOf, PV.cells, PV.cell, bndA, appA, reduceIte, reduceCtorEq, Nat.reduceAdd, Nat.reduceSub, Nat.reduceEqDiff, Nat.reduceLeDiff, Nat.reduceLT, Nat.reduceMul, Nat.reduceBEq, Nat.reduceBNe, Int.reduceToNat, Int.reduceLE, Int.reduceLT, allocX, setPs, extremeA, ints, resAll, rinfOk, packR]
theorem ok42 (ea eb : Bool) (a b : List Fr) (ha : a.length ≤ 4398046511104) (hb : b.length ≤ 4398046511104) : Ok Tryz.prog 42 [.sl ea (frs a), .sl eb (frs b)] (.sl false (frs (List.zipWith addF a b))) := by
  refine ok_fn mixed Tryz.func42 (code := ?_) (h := h42) ?_ k42 ?_
  rotate_left
  · exact rfl
  unfold h42 initS
  simp -implicitDefEqProofs only [rkA, stepA, valA, storeA, ldA, fieldAddrA, fieldA, idxAddrA, idxA, idxArr, lenA, unA, binA, num2, binV, eqA, rowOf, PV.cells, PV.cell, bndA, appA, reduceIte, reduceCtorEq, Nat.reduceAdd, Nat.reduceSub, Nat.reduceEqDiff, Nat.reduceLeDiff, Nat.reduceLT, Nat.reduceMul, Nat.reduceBEq, Nat.reduceBNe, Int.reduceToNat, Int.reduceLE, Int.reduceLT, allocX, setPs, extremeA, ints, resAll, rinfOk, packR, Tryz.ntmps42, Tryz.results42]
  refine call_fn rfl rfl rfl (ok77 82 addF ok82 ea eb a b ha hb) ?_
  simp -implicitDefEqProofs only [rkA, stepA, valA, storeA, ldA, fieldAddrA, fieldA, idxAddrA, idxA, idxArr, lenA, unA, binA, num2, binV, eqA, rowOf, PV.cells, PV.cell, bndA, appA, reduceIte, reduceCtorEq, Nat.reduceAdd, Nat.reduceSub, Nat.reduceEqDiff, Nat.reduceLeDiff, Nat.reduceLT, Nat.reduceMul, Nat.reduceBEq, Nat.reduceBNe, Int.reduceToNat, Int.reduceLE, Int.reduceLT, allocX, setPs, extremeA, ints, resAll, rinfOk, packR]
theorem ok80 (ea eb : Bool) (a b : List Fr) (ha : a.length ≤ 4398046511104) (hb : b.length ≤ 4398046511104) : Ok Tryz.prog 80 [.sl ea (frs a), .sl eb (frs b)] (.sl false (frs (List.zipWith subF a b))) := by
  refine ok_fn mixed Tryz.func80 (code := ?_) (h := h80) ?_ k80 ?_
  rotate_left
  · exact rfl
  unfold h80 initS
  simp -implicitDefEqProofs only [rkA, stepA, valA, storeA, ldA, fieldAddrA, fieldA, idxAddrA, idxA, idxArr, lenA, unA, binA, num2, binV, eqA, rowOf, PV.cells, PV.cell, bndA, appA, reduceIte, reduceCtorEq, Nat.reduceAdd, Nat.reduceSub, Nat.reduceEqDiff, Nat.reduceLeDiff, Nat.reduceLT, Nat.reduceMul, Nat.reduceBEq, Nat.reduceBNe, Int.reduceToNat, Int.reduceLE, Int.reduceLT, allocX, setPs, extremeA, ints, resAll, rinfOk, packR, Tryz.ntmps80, Tryz.results80]
  refine call_fn rfl rfl rfl (ok77 106 subF ok106 ea eb a b ha hb) ?_
  simp -implicitDefEqProofs only [rkA, stepA, valA, storeA, ldA, fieldAddrA, fieldA, idxAddrA, idxA, idxArr, lenA, unA, binA, num2, binV, eqA, rowOf, PV.cells, PV.cell, bndA, appA, reduceIte, reduceCtorEq, Nat.reduceAdd, Nat.reduceSub, Nat.reduceEqDiff, Nat.reduceLeDiff, Nat.reduceLT, Nat.reduceMul, Nat.reduceBEq, Nat.reduceBNe, Int.reduceToNat, Int.reduceLE, Int.reduceLT, allocX, setPs, extremeA, ints, resAll, rinfOk, packR]

/-- Number by number. -/
theorem ok79 (k : Nat) (F : Fr → Fr → Fr) (hF : ∀ (ea eb : Bool) (a b : List Fr), a.length ≤ 4398046511104 → b.length ≤ 4398046511104 → Ok Tryz.prog k [.sl ea (frs a), .sl eb (frs b)] (.sl false (frs (List.zipWith F a b)))) (ea eb : Bool) (r c r2 c2 : Int) (a b : List Fr) :
    Ok Tryz.prog 79 [matV ea r c (frs a), matV eb r2 c2 (frs b), .fn (.func k) []] (if right r c a.length = true ∧ right r2 c2 b.length = true ∧ r = r2 ∧ c = c2 then .tup [matV false r c (frs (List.zipWith F a b)), tru true] else .tup [matNil, tru false]) := by
  refine ok_fn mixed Tryz.func79 (code := ?_) (h := h79) ?_ k79 ?_
  rotate_left
  · exact rfl
  unfold h79 initS
  simp -implicitDefEqProofs only [rkA, stepA, valA, storeA, ldA, fieldAddrA, fieldA, idxAddrA, idxA, idxArr, lenA, unA, binA, num2, binV, eqA, rowOf, PV.cells, PV.cell, bndA, appA, reduceIte, reduceCtorEq, Nat.reduceAdd, Nat.reduceSub, Nat.reduceEqDiff, Nat.reduceLeDiff, Nat.reduceLT, Nat.reduceMul, Nat.reduceBEq, Nat.reduceBNe, Int.reduceToNat, Int.reduceLE, Int.reduceLT, allocX, setPs, extremeA, ints, resAll, rinfOk, packR, Tryz.ntmps79, Tryz.results79]
  refine call_fn rfl rfl rfl (ok33 ea r c (frs a)) ?_
  have e : (frs a).length = a.length := by simp
  have e' : (frs b).length = b.length := by simp
  rw [e]
  cases hr : right r c a.length with
  | false => simp -implicitDefEqProofs only [rkA, stepA, valA, storeA, ldA, fieldAddrA, fieldA, idxAddrA, idxA, idxArr, lenA, unA, binA, num2, binV, eqA, rowOf, PV.cells, PV.cell, bndA, appA, reduceIte, reduceCtorEq, Nat.reduceAdd, Nat.reduceSub, Nat.reduceEqDiff, Nat.reduceLeDiff, Nat.reduceLT, Nat.reduceMul, Nat.reduceBEq, Nat.reduceBNe, Int.reduceToNat, Int.reduceLE, Int.reduceLT, allocX, setPs, extremeA, ints, resAll, rinfOk, packR]
  | true =>
    simp -implicitDefEqProofs only [rkA, stepA, valA, storeA, ldA, fieldAddrA, fieldA, idxAddrA, idxA, idxArr, lenA, unA, binA, num2, binV, eqA, rowOf, PV.cells, PV.cell, bndA, appA, reduceIte, reduceCtorEq, Nat.reduceAdd, Nat.reduceSub, Nat.reduceEqDiff, Nat.reduceLeDiff, Nat.reduceLT, Nat.reduceMul, Nat.reduceBEq, Nat.reduceBNe, Int.reduceToNat, Int.reduceLE, Int.reduceLT, allocX, setPs, extremeA, ints, resAll, rinfOk, packR]
    refine call_fn rfl rfl rfl (ok33 eb r2 c2 (frs b)) ?_
    rw [e']
    cases hr2 : right r2 c2 b.length with
    | false => simp -implicitDefEqProofs only [rkA, stepA, valA, storeA, ldA, fieldAddrA, fieldA, idxAddrA, idxA, idxArr, lenA, unA, binA, num2, binV, eqA, rowOf, PV.cells, PV.cell, bndA, appA, reduceIte, reduceCtorEq, Nat.reduceAdd, Nat.reduceSub, Nat.reduceEqDiff, Nat.reduceLeDiff, Nat.reduceLT, Nat.reduceMul, Nat.reduceBEq, Nat.reduceBNe, Int.reduceToNat, Int.reduceLE, Int.reduceLT, allocX, setPs, extremeA, ints, resAll, rinfOk, packR]
    | true =>
      have l1 := right_le hr
      have l2 := right_le hr2
      simp -implicitDefEqProofs only [rkA, stepA, valA, storeA, ldA, fieldAddrA, fieldA, idxAddrA, idxA, idxArr, lenA, unA, binA, num2, binV, eqA, rowOf, PV.cells, PV.cell, bndA, appA, reduceIte, reduceCtorEq, Nat.reduceAdd, Nat.reduceSub, Nat.reduceEqDiff, Nat.reduceLeDiff, Nat.reduceLT, Nat.reduceMul, Nat.reduceBEq, Nat.reduceBNe, Int.reduceToNat, Int.reduceLE, Int.reduceLT, allocX, setPs, extremeA, ints, resAll, rinfOk, packR]
      by_cases h1 : r = r2
      · subst h1
        simp -implicitDefEqProofs only [bne_self_eq_false, rkA, stepA, valA, storeA, ldA, fieldAddrA, fieldA, idxAddrA, idxA, idxArr, lenA, unA, binA, num2, binV, eqA, rowOf, PV.cells, PV.cell, bndA, appA, reduceIte, reduceCtorEq, Nat.reduceAdd, Nat.reduceSub, Nat.reduceEqDiff, Nat.reduceLeDiff, Nat.reduceLT, Nat.reduceMul, Nat.reduceBEq, Nat.reduceBNe, Int.reduceToNat, Int.reduceLE, Int.reduceLT, allocX, setPs, extremeA, ints, resAll, rinfOk, packR]
        by_cases h2 : c = c2
        · subst h2
          simp -implicitDefEqProofs only [bne_self_eq_false, rkA, stepA, valA, storeA, ldA, fieldAddrA, fieldA, idxAddrA, idxA, idxArr, lenA, unA, binA, num2, binV, eqA, rowOf, PV.cells, PV.cell, bndA, appA, reduceIte, reduceCtorEq, Nat.reduceAdd, Nat.reduceSub, Nat.reduceEqDiff, Nat.reduceLeDiff, Nat.reduceLT, Nat.reduceMul, Nat.reduceBEq, Nat.reduceBNe, Int.reduceToNat, Int.reduceLE, Int.reduceLT, allocX, setPs, extremeA, ints, resAll, rinfOk, packR]
          refine call_fn rfl rfl rfl (hF ea eb a b (by omega) (by omega)) ?_
          simp -implicitDefEqProofs only [rkA, stepA, valA, storeA, ldA, fieldAddrA, fieldA, idxAddrA, idxA, idxArr, lenA, unA, binA, num2, binV, eqA, rowOf, PV.cells, PV.cell, bndA, appA, reduceIte, reduceCtorEq, Nat.reduceAdd, Nat.reduceSub, Nat.reduceEqDiff, Nat.reduceLeDiff, Nat.reduceLT, Nat.reduceMul, Nat.reduceBEq, Nat.reduceBNe, Int.reduceToNat, Int.reduceLE, Int.reduceLT, allocX, setPs, extremeA, ints, resAll, rinfOk, packR]
        · have hne : (c != c2) = true := by simp [h2]
          simp -implicitDefEqProofs only [hne, h2, rkA, stepA, valA, storeA, ldA, fieldAddrA, fieldA, idxAddrA, idxA, idxArr, lenA, unA, binA, num2, binV, eqA, rowOf, PV.cells, PV.cell, bndA, appA, reduceIte, reduceCtorEq, Nat.reduceAdd, Nat.reduceSub, Nat.reduceEqDiff, Nat.reduceLeDiff, Nat.reduceLT, Nat.reduceMul, Nat.reduceBEq, Nat.reduceBNe, Int.reduceToNat, Int.reduceLE, Int.reduceLT, allocX, setPs, extremeA, ints, resAll, rinfOk, packR]
      · have hne : (r != r2) = true := by simp [h1]
        simp -implicitDefEqProofs only [hne, h1, rkA, stepA, valA, storeA, ldA, fieldAddrA, fieldA, idxAddrA, idxA, idxArr, lenA, unA, binA, num2, binV, eqA, rowOf, PV.cells, PV.cell, bndA, appA, reduceIte, reduceCtorEq, Nat.reduceAdd, Nat.reduceSub, Nat.reduceEqDiff, Nat.reduceLeDiff, Nat.reduceLT, Nat.reduceMul, Nat.reduceBEq, Nat.reduceBNe, Int.reduceToNat, Int.reduceLE, Int.reduceLT, allocX, setPs, extremeA, ints, resAll, rinfOk, packR]

theorem ok81 (ea eb : Bool) (r c r2 c2 : Int) (a b : List Fr) : Ok Tryz.prog 81 [matV ea r c (frs a), matV eb r2 c2 (frs b)]
    (if right r c a.length = true ∧ right r2 c2 b.length = true ∧ r = r2 ∧ c = c2 then .tup [matV false r c (frs (List.zipWith addF a b)), tru true] else .tup [matNil, tru false]) := by
  refine ok_fn mixed Tryz.func81 (code := ?_) (h := h81) ?_ k81 ?_
  rotate_left
  · exact rfl
  unfold h81 initS
  simp -implicitDefEqProofs only [rkA, stepA, valA, storeA, ldA, fieldAddrA, fieldA, idxAddrA, idxA, idxArr, lenA, unA, binA, num2, binV, eqA, rowOf, PV.cells, PV.cell, bndA, appA, reduceIte, reduceCtorEq, Nat.reduceAdd, Nat.reduceSub, Nat.reduceEqDiff, Nat.reduceLeDiff, Nat.reduceLT, Nat.reduceMul, Nat.reduceBEq, Nat.reduceBNe, Int.reduceToNat, Int.reduceLE, Int.reduceLT, allocX, setPs, extremeA, ints, resAll, rinfOk, packR, Tryz.ntmps81, Tryz.results81]
  refine call_fn rfl rfl rfl (ok79 42 addF ok42 ea eb r c r2 c2 a b) ?_
  split <;> simp -implicitDefEqProofs only [rkA, stepA, valA, storeA, ldA, fieldAddrA, fieldA, idxAddrA, idxA, idxArr, lenA, unA, binA, num2, binV, eqA, rowOf, PV.cells, PV.cell, bndA, appA, reduceIte, reduceCtorEq, Nat.reduceAdd, Nat.reduceSub, Nat.reduceEqDiff, Nat.reduceLeDiff, Nat.reduceLT, Nat.reduceMul, Nat.reduceBEq, Nat.reduceBNe, Int.reduceToNat, Int.reduceLE, Int.reduceLT, allocX, setPs, extremeA, ints, resAll, rinfOk, packR]
theorem ok38 (ea eb : Bool) (r c r2 c2 : Int) (a b : List Fr) : Ok Tryz.prog 38 [matV ea r c (frs a), matV eb r2 c2 (frs b)]
    (if right r c a.length = true ∧ right r2 c2 b.length = true ∧ r = r2 ∧ c = c2 then .tup [matV false r c (frs (List.zipWith subF a b)), tru true] else .tup [matNil, tru false]) := by
  refine ok_fn mixed Tryz.func38 (code := ?_) (h := h38) ?_ k38 ?_
  rotate_left
  · exact rfl
  unfold h38 initS
  simp -implicitDefEqProofs only [rkA, stepA, valA, storeA, ldA, fieldAddrA, fieldA, idxAddrA, idxA, idxArr, lenA, unA, binA, num2, binV, eqA, rowOf, PV.cells, PV.cell, bndA, appA, reduceIte, reduceCtorEq, Nat.reduceAdd, Nat.reduceSub, Nat.reduceEqDiff, Nat.reduceLeDiff, Nat.reduceLT, Nat.reduceMul, Nat.reduceBEq, Nat.reduceBNe, Int.reduceToNat, Int.reduceLE, Int.reduceLT, allocX, setPs, extremeA, ints, resAll, rinfOk, packR, Tryz.ntmps38, Tryz.results38]
  refine call_fn rfl rfl rfl (ok79 80 subF ok80 ea eb r c r2 c2 a b) ?_
  split <;> simp -implicitDefEqProofs only [rkA, stepA, valA, storeA, ldA, fieldAddrA, fieldA, idxAddrA, idxA, idxArr, lenA, unA, binA, num2, binV, eqA, rowOf, PV.cells, PV.cell, bndA, appA, reduceIte, reduceCtorEq, Nat.reduceAdd, Nat.reduceSub, Nat.reduceEqDiff, Nat.reduceLeDiff, Nat.reduceLT, Nat.reduceMul, Nat.reduceBEq, Nat.reduceBNe, Int.reduceToNat, Int.reduceLE, Int.reduceLT, allocX, setPs, extremeA, ints, resAll, rinfOk, packR]

def mirF (r : Int) (l : List Fr) : List Fr := gridP (fun i k => atF r r l (max i k : Nat) (min i k : Nat)) r.toNat r.toNat 0
theorem ok24 (ex : Bool) (r c : Int) (l : List Fr) : Ok Tryz.prog 24 [matV ex r c (frs l)] (if right r c l.length = true ∧ r = c then .tup [matV false r c (frs (mirF r l)), tru true] else .tup [matNil, tru false]) := by
  refine ok_fn mixed Tryz.func24 (code := ?_) (h := h24) ?_ k24 ?_
  rotate_left
  · exact rfl
  unfold h24 initS
  simp -implicitDefEqProofs only [rkA, stepA, valA, storeA, ldA, fieldAddrA, fieldA, idxAddrA, idxA, idxArr, lenA, unA, binA, num2, binV, eqA, rowOf, PV.cells, PV.cell, bndA, appA, reduceIte, reduceCtorEq, Nat.reduceAdd, Nat.reduceSub, Nat.reduceEqDiff, Nat.reduceLeDiff, Nat.reduceLT, Nat.reduceMul, Nat.reduceBEq, Nat.reduceBNe, Int.reduceToNat, Int.reduceLE, Int.reduceLT, allocX, setPs, extremeA, ints, resAll, rinfOk, packR, Tryz.ntmps24, Tryz.results24]
  refine call_fn rfl rfl rfl (ok33 ex r c (frs l)) ?_
  have e : (frs l).length = l.length := by simp
  rw [e]
  cases hr : right r c l.length with
  | false => simp -implicitDefEqProofs only [rkA, stepA, valA, storeA, ldA, fieldAddrA, fieldA, idxAddrA, idxA, idxArr, lenA, unA, binA, num2, binV, eqA, rowOf, PV.cells, PV.cell, bndA, appA, reduceIte, reduceCtorEq, Nat.reduceAdd, Nat.reduceSub, Nat.reduceEqDiff, Nat.reduceLeDiff, Nat.reduceLT, Nat.reduceMul, Nat.reduceBEq, Nat.reduceBNe, Int.reduceToNat, Int.reduceLE, Int.reduceLT, allocX, setPs, extremeA, ints, resAll, rinfOk, packR]
  | true =>
    obtain ⟨r1, r2, c1, c2, hn⟩ := right_spec hr
    simp -implicitDefEqProofs only [rkA, stepA, valA, storeA, ldA, fieldAddrA, fieldA, idxAddrA, idxA, idxArr, lenA, unA, binA, num2, binV, eqA, rowOf, PV.cells, PV.cell, bndA, appA, reduceIte, reduceCtorEq, Nat.reduceAdd, Nat.reduceSub, Nat.reduceEqDiff, Nat.reduceLeDiff, Nat.reduceLT, Nat.reduceMul, Nat.reduceBEq, Nat.reduceBNe, Int.reduceToNat, Int.reduceLE, Int.reduceLT, allocX, setPs, extremeA, ints, resAll, rinfOk, packR]
    by_cases h1 : r = c
    · subst h1
      simp -implicitDefEqProofs only [bne_self_eq_false, rkA, stepA, valA, storeA, ldA, fieldAddrA, fieldA, idxAddrA, idxA, idxArr, lenA, unA, binA, num2, binV, eqA, rowOf, PV.cells, PV.cell, bndA, appA, reduceIte, reduceCtorEq, Nat.reduceAdd, Nat.reduceSub, Nat.reduceEqDiff, Nat.reduceLeDiff, Nat.reduceLT, Nat.reduceMul, Nat.reduceBEq, Nat.reduceBNe, Int.reduceToNat, Int.reduceLE, Int.reduceLT, allocX, setPs, extremeA, ints, resAll, rinfOk, packR]
      have hlen := gridP_length (fun i k => atF r r l (max i k : Nat) (min i k : Nat)) r.toNat
      refine wp_loop (fun m s => ∃ i : Nat, i + m = r.toNat ∧ s = ⟨[jk, .ptr 1 0, .ptr 2 0, jk, .ptr 4 0, jk, jk, jk, jk, jk, jk, jk, jk, jk, jk, jk, jk, jk, jk, jk, jk, jk, jk, jk, nt r, nt i, jk, jk, jk, jk, jk, jk, jk, jk, jk, jk, jk, jk, jk, jk, jk, jk, jk, jk, jk, jk, jk, jk, jk], [(1, [nt r, nt r, .v (.sl ex (frs l))]), (2, [nt 0, nt 0, .acc 3002 []]), (4, [nt r, nt r, .acc 15004 (frs (gridP (fun i k => atF r r l (max i k : Nat) (min i k : Nat)) r.toNat i 0))])], [],
        [(3002, 0), (3004, 0), (15004, (gridP (fun i k => atF r r l (max i k : Nat) (min i k : Nat)) r.toNat i 0).length)], [], 0, nomem⟩) r.toNat ?_ ?_
      · simp -implicitDefEqProofs only [rkA, stepA, valA, storeA, ldA, fieldAddrA, fieldA, idxAddrA, idxA, idxArr, lenA, unA, binA, num2, binV, eqA, rowOf, PV.cells, PV.cell, bndA, appA, reduceIte, reduceCtorEq, Nat.reduceAdd, Nat.reduceSub, Nat.reduceEqDiff, Nat.reduceLeDiff, Nat.reduceLT, Nat.reduceMul, Nat.reduceBEq, Nat.reduceBNe, Int.reduceToNat, Int.reduceLE, Int.reduceLT, allocX, setPs, extremeA, ints, resAll, rinfOk, packR]
        exact ⟨0, by simp, rfl⟩
      rintro m s ⟨i, hi, rfl⟩
      simp -implicitDefEqProofs only [rkA, stepA, valA, storeA, ldA, fieldAddrA, fieldA, idxAddrA, idxA, idxArr, lenA, unA, binA, num2, binV, eqA, rowOf, PV.cells, PV.cell, bndA, appA, reduceIte, reduceCtorEq, Nat.reduceAdd, Nat.reduceSub, Nat.reduceEqDiff, Nat.reduceLeDiff, Nat.reduceLT, Nat.reduceMul, Nat.reduceBEq, Nat.reduceBNe, Int.reduceToNat, Int.reduceLE, Int.reduceLT, allocX, setPs, extremeA, ints, resAll, rinfOk, packR]
      refine gB_dec ?_ ?_ <;> intro hc <;> simp -implicitDefEqProofs only [hc, rkA, stepA, valA, storeA, ldA, fieldAddrA, fieldA, idxAddrA, idxA, idxArr, lenA, unA, binA, num2, binV, eqA, rowOf, PV.cells, PV.cell, bndA, appA, reduceIte, reduceCtorEq, Nat.reduceAdd, Nat.reduceSub, Nat.reduceEqDiff, Nat.reduceLeDiff, Nat.reduceLT, Nat.reduceMul, Nat.reduceBEq, Nat.reduceBNe, Int.reduceToNat, Int.reduceLE, Int.reduceLT, allocX, setPs, extremeA, ints, resAll, rinfOk, packR]
      · refine wp_loop (fun m s => ∃ k : Nat, k + m = r.toNat ∧ s = ⟨[jk, .ptr 1 0, .ptr 2 0, jk, .ptr 4 0, nt i, jk, jk, jk, jk, jk, jk, jk, jk, jk, jk, jk, jk, jk, jk, jk, jk, jk, jk, nt r, nt i, jk, jk, jk, nt r, nt k, jk, jk, jk, jk, jk, jk, jk, jk, jk, jk, jk, jk, jk, jk, jk, jk, jk, jk], [(1, [nt r, nt r, .v (.sl ex (frs l))]), (2, [nt 0, nt 0, .acc 3002 []]), (4, [nt r, nt r, .acc 15004 (frs (gridP (fun i k => atF r r l (max i k : Nat) (min i k : Nat)) r.toNat i k))])], [],
          [(3002, 0), (3004, 0), (15004, (gridP (fun i k => atF r r l (max i k : Nat) (min i k : Nat)) r.toNat i k).length)], [], 0, nomem⟩) r.toNat ?_ ?_
        · simp -implicitDefEqProofs only [rkA, stepA, valA, storeA, ldA, fieldAddrA, fieldA, idxAddrA, idxA, idxArr, lenA, unA, binA, num2, binV, eqA, rowOf, PV.cells, PV.cell, bndA, appA, reduceIte, reduceCtorEq, Nat.reduceAdd, Nat.reduceSub, Nat.reduceEqDiff, Nat.reduceLeDiff, Nat.reduceLT, Nat.reduceMul, Nat.reduceBEq, Nat.reduceBNe, Int.reduceToNat, Int.reduceLE, Int.reduceLT, allocX, setPs, extremeA, ints, resAll, rinfOk, packR]
          exact ⟨0, by simp, rfl⟩
        rintro m' s ⟨k, hk, rfl⟩
        simp -implicitDefEqProofs only [rkA, stepA, valA, storeA, ldA, fieldAddrA, fieldA, idxAddrA, idxA, idxArr, lenA, unA, binA, num2, binV, eqA, rowOf, PV.cells, PV.cell, bndA, appA, reduceIte, reduceCtorEq, Nat.reduceAdd, Nat.reduceSub, Nat.reduceEqDiff, Nat.reduceLeDiff, Nat.reduceLT, Nat.reduceMul, Nat.reduceBEq, Nat.reduceBNe, Int.reduceToNat, Int.reduceLE, Int.reduceLT, allocX, setPs, extremeA, ints, resAll, rinfOk, packR]
        refine gB_dec ?_ ?_ <;> intro hc2 <;> simp -implicitDefEqProofs only [hc2, rkA, stepA, valA, storeA, ldA, fieldAddrA, fieldA, idxAddrA, idxA, idxArr, lenA, unA, binA, num2, binV, eqA, rowOf, PV.cells, PV.cell, bndA, appA, reduceIte, reduceCtorEq, Nat.reduceAdd, Nat.reduceSub, Nat.reduceEqDiff, Nat.reduceLeDiff, Nat.reduceLT, Nat.reduceMul, Nat.reduceBEq, Nat.reduceBNe, Int.reduceToNat, Int.reduceLE, Int.reduceLT, allocX, setPs, extremeA, ints, resAll, rinfOk, packR]
        · have hb : i * r.toNat + k ≤ 256 := by
            have : (i + 1) * r.toNat ≤ 16 * 16 := Nat.mul_le_mul (by omega) (by omega)
            rw [Nat.add_mul] at this
            omega
          have m1 : (if (i : Int) < (k : Int) then (k : Int) else (i : Int)) = ((max i k : Nat) : Int) := by split <;> omega
          have m2 : (if (k : Int) < (i : Int) then (k : Int) else (i : Int)) = ((min i k : Nat) : Int) := by split <;> omega
          simp only [m1, m2]
          refine call_fn rfl rfl rfl (ok59 ex r r (max i k : Nat) (min i k : Nat) l) ?_
          have hl1 := hlen i k
          have hfit : fits 4 32 (frs (gridP (fun i k => atF r r l (max i k : Nat) (min i k : Nat)) r.toNat i k)) [frV (atF r r l (max i k : Nat) (min i k : Nat))] = true := fits_frs (l := [atF r r l (max i k : Nat) (min i k : Nat)]) (by simp only [List.length_cons, List.length_nil]; omega)
          have hl : (frs (gridP (fun i k => atF r r l (max i k : Nat) (min i k : Nat)) r.toNat i k)).length = (gridP (fun i k => atF r r l (max i k : Nat) (min i k : Nat)) r.toNat i k).length := by simp
          have hw := wrapped (x := (k : Int) + 1) (by omega) (by omega)
          simp -implicitDefEqProofs only [hfit, hl, hw, rkA, stepA, valA, storeA, ldA, fieldAddrA, fieldA, idxAddrA, idxA, idxArr, lenA, unA, binA, num2, binV, eqA, rowOf, PV.cells, PV.cell, bndA, appA, reduceIte, reduceCtorEq, Nat.reduceAdd, Nat.reduceSub, Nat.reduceEqDiff, Nat.reduceLeDiff, Nat.reduceLT, Nat.reduceMul, Nat.reduceBEq, Nat.reduceBNe, Int.reduceToNat, Int.reduceLE, Int.reduceLT, allocX, setPs, extremeA, ints, resAll, rinfOk, packR]
          refine loopK_of (m' := m' - 1) (by omega) ?_
          simp -implicitDefEqProofs only [rkA, stepA, valA, storeA, ldA, fieldAddrA, fieldA, idxAddrA, idxA, idxArr, lenA, unA, binA, num2, binV, eqA, rowOf, PV.cells, PV.cell, bndA, appA, reduceIte, reduceCtorEq, Nat.reduceAdd, Nat.reduceSub, Nat.reduceEqDiff, Nat.reduceLeDiff, Nat.reduceLT, Nat.reduceMul, Nat.reduceBEq, Nat.reduceBNe, Int.reduceToNat, Int.reduceLE, Int.reduceLT, allocX, setPs, extremeA, ints, resAll, rinfOk, packR]
          refine ⟨k + 1, by omega, ?_⟩
          rw [gridP_succ]
          simp only [frs, List.map_append, List.map_cons, List.map_nil, List.length_append, List.length_cons, List.length_nil, Int.natCast_add, Int.natCast_one]
        · have hkr : k = r.toNat := by omega
          have hw := wrapped (x := (i : Int) + 1) (by omega) (by omega)
          simp -implicitDefEqProofs only [hw, rkA, stepA, valA, storeA, ldA, fieldAddrA, fieldA, idxAddrA, idxA, idxArr, lenA, unA, binA, num2, binV, eqA, rowOf, PV.cells, PV.cell, bndA, appA, reduceIte, reduceCtorEq, Nat.reduceAdd, Nat.reduceSub, Nat.reduceEqDiff, Nat.reduceLeDiff, Nat.reduceLT, Nat.reduceMul, Nat.reduceBEq, Nat.reduceBNe, Int.reduceToNat, Int.reduceLE, Int.reduceLT, allocX, setPs, extremeA, ints, resAll, rinfOk, packR]
          refine loopK_of (m' := m - 1) (by omega) ?_
          simp -implicitDefEqProofs only [rkA, stepA, valA, storeA, ldA, fieldAddrA, fieldA, idxAddrA, idxA, idxArr, lenA, unA, binA, num2, binV, eqA, rowOf, PV.cells, PV.cell, bndA, appA, reduceIte, reduceCtorEq, Nat.reduceAdd, Nat.reduceSub, Nat.reduceEqDiff, Nat.reduceLeDiff, Nat.reduceLT, Nat.reduceMul, Nat.reduceBEq, Nat.reduceBNe, Int.reduceToNat, Int.reduceLE, Int.reduceLT, allocX, setPs, extremeA, ints, resAll, rinfOk, packR]
          refine ⟨i + 1, by omega, ?_⟩
          rw [hkr, gridP_next]
          simp only [Int.natCast_add, Int.natCast_one]
      · have : i = r.toNat := by omega
        subst this
        simp only [mirF]
    · have hne : (r != c) = true := by simp [h1]
      simp -implicitDefEqProofs only [hne, h1, rkA, stepA, valA, storeA, ldA, fieldAddrA, fieldA, idxAddrA, idxA, idxArr, lenA, unA, binA, num2, binV, eqA, rowOf, PV.cells, PV.cell, bndA, appA, reduceIte, reduceCtorEq, Nat.reduceAdd, Nat.reduceSub, Nat.reduceEqDiff, Nat.reduceLeDiff, Nat.reduceLT, Nat.reduceMul, Nat.reduceBEq, Nat.reduceBNe, Int.reduceToNat, Int.reduceLE, Int.reduceLT, allocX, setPs, extremeA, ints, resAll, rinfOk, packR]

end Go.Proofs.YtipchjfcjbghnaaGreat.A.E


set_option linter.unusedVariables false
set_option linter.unusedSimpArgs false
set_option maxRecDepth 100000
namespace Go.Proofs.YtipchjfcjbghnaaGreat.A
open Go Go.RowKit Go.Shelf

theorem grid_of {α : Type} {g : Nat → Nat → α} {n N : Nat} {l : List α} (hl : l.length = N * n) (h : ∀ i k, i < N → k < n → l[i * n + k]? = some (g i k)) : l = gridP g n N 0 := by
  have hg := gridP_length g n N 0
  apply List.ext_getElem?
  intro j
  by_cases hj : j < N * n
  · have hn : 0 < n := by
      rcases Nat.eq_zero_or_pos n with h0 | h0
      · subst h0; simp at hj
      · exact h0
    have h1 : j / n < N := Nat.div_lt_of_lt_mul (by rwa [Nat.mul_comm] at hj)
    have h2 : j % n < n := Nat.mod_lt _ hn
    have h3 : j / n * n + j % n = j := by rw [Nat.mul_comm]; exact Nat.div_add_mod j n
    have e1 := h _ _ h1 h2
    have e2 := gridP_get g n N _ _ h1 h2
    rw [h3] at e1 e2
    rw [e1, e2]
  · rw [List.getElem?_eq_none (by omega), List.getElem?_eq_none (by omega)]
theorem gridP_congr {α : Type} {g f : Nat → Nat → α} {n N : Nat} (h : ∀ i k, i < N → k < n → g i k = f i k) : gridP g n N 0 = gridP f n N 0 := by
  rw [gridP_zero, gridP_zero]
  apply flatMap_same
  intro i hi
  apply List.map_congr_left
  intro k hk
  exact h i k (List.mem_range.1 hi) (List.mem_range.1 hk)

section
variable (a b : List Int) (R K : Nat)
end

section
variable {a b : List Int} {R K : Nat}
theorem right_nat (hR : 1 ≤ R ∧ R ≤ 16) (hK : 1 ≤ K ∧ K ≤ 16) {n : Nat} (hl : n = R * K) : right (R : Int) (K : Int) n = true := by
  simp only [right, Bool.and_eq_true, decide_eq_true_eq, beq_iff_eq]
  refine ⟨by omega, by omega, ?_⟩
  rw [hl]
  simp
end
end Go.Proofs.YtipchjfcjbghnaaGreat.A


set_option linter.unusedVariables false
set_option linter.unusedSimpArgs false
namespace Go.Proofs.YtipchjfcjbghnaaGreat.A
open Go Go.RowKit Go.Shelf

/-- All numbers of a row lie within a bound. -/
def bnd (B : Nat) (l : List Int) : Prop := ∀ x ∈ l, x.natAbs ≤ B
theorem grid_getD {g : Nat → Nat → Int} {n N i k : Nat} (hi : i < N) (hk : k < n) : (gridP g n N 0).getD (i * n + k) 0 = g i k := by
  rw [List.getD_eq_getElem?_getD, gridP_get g n N i k hi hk, Option.getD_some]
end Go.Proofs.YtipchjfcjbghnaaGreat.A


