import Derived.Test.YtipchjfcjbghnaaGreatM4
set_option linter.unusedVariables false
set_option linter.unusedSimpArgs false
set_option maxRecDepth 100000
namespace Go.Proofs.YtipchjfcjbghnaaGreat.A
open Go Go.RowKit Go.Shelf

/-! ### Products, divided -/
def rightW (n : Int) : Bool := decide (-4611686018427387903 ≤ n ∧ n ≤ 4611686018427387903)
theorem ok101' (n : Int) : Ok Tryz.prog 101 [num n] (tru (rightW n)) := ok101 n
theorem ok117 (n : Int) (h : rightW n = true) : Ok Tryz.prog 117 [num n] (uw n.natAbs) := by
  simp only [rightW, decide_eq_true_eq] at h
  have w1 := wrapped (x := 0 - n) (by omega) (by omega)
  refine ok_fn mixed Tryz.func117 (code := ?_) (h := h117) ?_ k117 ?_
  rotate_left
  · exact rfl
  unfold h117 initS
  simp -implicitDefEqProofs (maxSteps := 10000000) only [rkA, stepA, valA, storeA, ldA, fieldAddrA, fieldA, idxAddrA, idxA, idxArr, lenA, unA, binA, num2, binV, eqA, rowOf, PV.cells, PV.cell, bndA, appA, reduceIte, reduceCtorEq, Nat.reduceAdd, Nat.reduceSub, Nat.reduceEqDiff, Nat.reduceLeDiff, Nat.reduceLT, Nat.reduceMul, Nat.reduceBEq, Nat.reduceBNe, Int.reduceToNat, Int.reduceLE, Int.reduceLT, allocX, setPs, extremeA, ints, resAll, rinfOk, packR, Tryz.ntmps117, Tryz.results117]
  simp -implicitDefEqProofs (maxSteps := 10000000) only [w1, rkA, stepA, valA, storeA, ldA, fieldAddrA, fieldA, idxAddrA, idxA, idxArr, lenA, unA, binA, num2, binV, eqA, rowOf, PV.cells, PV.cell, bndA, appA, reduceIte, reduceCtorEq, Nat.reduceAdd, Nat.reduceSub, Nat.reduceEqDiff, Nat.reduceLeDiff, Nat.reduceLT, Nat.reduceMul, Nat.reduceBEq, Nat.reduceBNe, Int.reduceToNat, Int.reduceLE, Int.reduceLT, allocX, setPs, extremeA, ints, resAll, rinfOk, packR]
  have e : IntKind.wrap .u64 (if n < 0 - n then 0 - n else n) = (n.natAbs : Int) := by rw [wrapU]; split <;> omega
  first | rw [e] | (simp -implicitDefEqProofs (maxSteps := 10000000) only [e, rkA, stepA, valA, storeA, ldA, fieldAddrA, fieldA, idxAddrA, idxA, idxArr, lenA, unA, binA, num2, binV, eqA, rowOf, PV.cells, PV.cell, bndA, appA, reduceIte, reduceCtorEq, Nat.reduceAdd, Nat.reduceSub, Nat.reduceEqDiff, Nat.reduceLeDiff, Nat.reduceLT, Nat.reduceMul, Nat.reduceBEq, Nat.reduceBNe, Int.reduceToNat, Int.reduceLE, Int.reduceLT, allocX, setPs, extremeA, ints, resAll, rinfOk, packR])
theorem ok116 (a b : Nat) (ha : a < 18446744073709551616) (hb : b < 18446744073709551616) : Ok Tryz.prog 116 [uw a, uw b] (.agg [uw (a * b / 18446744073709551616), uw (a * b % 18446744073709551616)]) := by
  refine ok_fn mixed Tryz.func116 (code := ?_) (h := h116) ?_ k116 ?_
  rotate_left
  · exact rfl
  unfold h116 initS
  simp -implicitDefEqProofs (maxSteps := 10000000) only [rkA, stepA, valA, storeA, ldA, fieldAddrA, fieldA, idxAddrA, idxA, idxArr, lenA, unA, binA, num2, binV, eqA, rowOf, PV.cells, PV.cell, bndA, appA, reduceIte, reduceCtorEq, Nat.reduceAdd, Nat.reduceSub, Nat.reduceEqDiff, Nat.reduceLeDiff, Nat.reduceLT, Nat.reduceMul, Nat.reduceBEq, Nat.reduceBNe, Int.reduceToNat, Int.reduceLE, Int.reduceLT, allocX, setPs, extremeA, ints, resAll, rinfOk, packR, Tryz.ntmps116, Tryz.results116]
  refine call_fn rfl rfl rfl (ok131 a b ha hb) ?_
  simp -implicitDefEqProofs (maxSteps := 10000000) only [rkA, stepA, valA, storeA, ldA, fieldAddrA, fieldA, idxAddrA, idxA, idxArr, lenA, unA, binA, num2, binV, eqA, rowOf, PV.cells, PV.cell, bndA, appA, reduceIte, reduceCtorEq, Nat.reduceAdd, Nat.reduceSub, Nat.reduceEqDiff, Nat.reduceLeDiff, Nat.reduceLT, Nat.reduceMul, Nat.reduceBEq, Nat.reduceBNe, Int.reduceToNat, Int.reduceLE, Int.reduceLT, allocX, setPs, extremeA, ints, resAll, rinfOk, packR]
theorem ok115 (m : Int) : Ok Tryz.prog 115 [num m] (tru (decide (0 ≤ m ∧ m ≤ 2))) := by
  refine ok_fn mixed Tryz.func115 (code := ?_) (h := h115) ?_ k115 ?_
  rotate_left
  · exact rfl
  unfold h115 initS
  simp -implicitDefEqProofs (maxSteps := 10000000) only [rkA, stepA, valA, storeA, ldA, fieldAddrA, fieldA, idxAddrA, idxA, idxArr, lenA, unA, binA, num2, binV, eqA, rowOf, PV.cells, PV.cell, bndA, appA, reduceIte, reduceCtorEq, Nat.reduceAdd, Nat.reduceSub, Nat.reduceEqDiff, Nat.reduceLeDiff, Nat.reduceLT, Nat.reduceMul, Nat.reduceBEq, Nat.reduceBNe, Int.reduceToNat, Int.reduceLE, Int.reduceLT, allocX, setPs, extremeA, ints, resAll, rinfOk, packR, Tryz.ntmps115, Tryz.results115]
  by_cases h : m ≥ 0
  · simp -implicitDefEqProofs (maxSteps := 10000000) only [h, rkA, stepA, valA, storeA, ldA, fieldAddrA, fieldA, idxAddrA, idxA, idxArr, lenA, unA, binA, num2, binV, eqA, rowOf, PV.cells, PV.cell, bndA, appA, reduceIte, reduceCtorEq, Nat.reduceAdd, Nat.reduceSub, Nat.reduceEqDiff, Nat.reduceLeDiff, Nat.reduceLT, Nat.reduceMul, Nat.reduceBEq, Nat.reduceBNe, Int.reduceToNat, Int.reduceLE, Int.reduceLT, allocX, setPs, extremeA, ints, resAll, rinfOk, packR]
  · simp -implicitDefEqProofs (maxSteps := 10000000) only [h, rkA, stepA, valA, storeA, ldA, fieldAddrA, fieldA, idxAddrA, idxA, idxArr, lenA, unA, binA, num2, binV, eqA, rowOf, PV.cells, PV.cell, bndA, appA, reduceIte, reduceCtorEq, Nat.reduceAdd, Nat.reduceSub, Nat.reduceEqDiff, Nat.reduceLeDiff, Nat.reduceLT, Nat.reduceMul, Nat.reduceBEq, Nat.reduceBNe, Int.reduceToNat, Int.reduceLE, Int.reduceLT, allocX, setPs, extremeA, ints, resAll, rinfOk, packR]

theorem and1 {a : Nat} (ha : a < 18446744073709551616) : IntKind.wrap .u64 ((BitVec.ofInt (IntKind.bits .u64) (a : Int) &&& BitVec.ofInt (IntKind.bits .u64) 1).toNat : Int) = ((a % 2 : Nat) : Int) := by
  have e : (BitVec.ofInt 64 (a : Int) &&& BitVec.ofInt 64 1).toNat = a % 2 := by
    have : (1 : Int) = ((1 : Nat) : Int) := rfl
    rw [this, ofIntN, ofIntN, BitVec.toNat_and, BitVec.toNat_ofNat, BitVec.toNat_ofNat]
    have h1 : a % 2 ^ 64 = a := Nat.mod_eq_of_lt (by omega)
    have h2 : 1 % 2 ^ 64 = 2 ^ 1 - 1 := by decide
    rw [h1, h2, Nat.and_two_pow_sub_one_eq_mod]
  rw [bitsU, e, wrapN (by omega)]
theorem toI {q : Nat} (h : q ≤ 4611686018427387903) : IntKind.wrap .i64 (q : Int) = (q : Int) ∧ IntKind.wrap .i64 (0 - (q : Int)) = -(q : Int) := by
  refine ⟨wrapped (by omega) (by omega), ?_⟩
  rw [wrapped (by omega) (by omega)]
  omega
def moreF (mode : Int) (q r d : Nat) (minus : Bool) : Bool :=
  if r = 0 then false else if mode = 0 then (decide (r > d - r) || (decide (r = d - r) && decide (q % 2 = 1))) else (decide (mode = 2) != minus)
def minus3 (a b c : Int) : Bool := (decide (a < 0) != decide (b < 0)) != decide (c < 0)
def mdN (a b c mode : Int) : Nat := a.natAbs * b.natAbs / c.natAbs + (if moreF mode (a.natAbs * b.natAbs / c.natAbs) (a.natAbs * b.natAbs % c.natAbs) c.natAbs (minus3 a b c) = true then 1 else 0)
def mdOk (a b c mode : Int) : Bool := rightW a && (rightW b && (rightW c && (decide (c ≠ 0) && (decide (0 ≤ mode ∧ mode ≤ 2) && decide (mdN a b c mode ≤ 4611686018427387903)))))
/-- A product, divided, and rounded; false: it may not be. -/
def mdF (a b c mode : Int) : Int × Bool := if mdOk a b c mode = true then (if minus3 a b c = true then -(mdN a b c mode : Int) else (mdN a b c mode : Int), true) else (0, false)

theorem nb1 : (!(true == false)) = true := rfl
theorem nb2 : (!(true == true)) = false := rfl
theorem nb3 : (!(false == true)) = true := rfl
theorem nb4 : (!(false == false)) = false := rfl
set_option maxHeartbeats 4000000 in
theorem ok88 (a b c mode : Int) : Ok Tryz.prog 88 [num a, num b, num c, num mode] (.tup [num (mdF a b c mode).1, tru (mdF a b c mode).2]) := by
  have bad : mdOk a b c mode = false → mdF a b c mode = (0, false) := fun h => by unfold mdF; rw [h]; rfl
  refine ok_fn mixed Tryz.func88 (code := ?_) (h := h88) ?_ k88 ?_
  rotate_left
  · exact rfl
  unfold h88 initS
  simp -implicitDefEqProofs (maxSteps := 10000000) only [rkA, stepA, valA, storeA, ldA, fieldAddrA, fieldA, idxAddrA, idxA, idxArr, lenA, unA, binA, num2, binV, eqA, rowOf, PV.cells, PV.cell, bndA, appA, reduceIte, reduceCtorEq, Nat.reduceAdd, Nat.reduceSub, Nat.reduceEqDiff, Nat.reduceLeDiff, Nat.reduceLT, Nat.reduceMul, Nat.reduceBEq, Nat.reduceBNe, Int.reduceToNat, Int.reduceLE, Int.reduceLT, allocX, setPs, extremeA, ints, resAll, rinfOk, packR, Tryz.ntmps88, Tryz.results88]
  refine call_fn rfl rfl rfl (ok101' a) ?_
  cases ha : rightW a with
  | false => 
    rw [bad (by simp [mdOk, ha])]
    simp -implicitDefEqProofs (maxSteps := 10000000) only [rkA, stepA, valA, storeA, ldA, fieldAddrA, fieldA, idxAddrA, idxA, idxArr, lenA, unA, binA, num2, binV, eqA, rowOf, PV.cells, PV.cell, bndA, appA, reduceIte, reduceCtorEq, Nat.reduceAdd, Nat.reduceSub, Nat.reduceEqDiff, Nat.reduceLeDiff, Nat.reduceLT, Nat.reduceMul, Nat.reduceBEq, Nat.reduceBNe, Int.reduceToNat, Int.reduceLE, Int.reduceLT, allocX, setPs, extremeA, ints, resAll, rinfOk, packR]
  | true =>
    simp -implicitDefEqProofs (maxSteps := 10000000) only [rkA, stepA, valA, storeA, ldA, fieldAddrA, fieldA, idxAddrA, idxA, idxArr, lenA, unA, binA, num2, binV, eqA, rowOf, PV.cells, PV.cell, bndA, appA, reduceIte, reduceCtorEq, Nat.reduceAdd, Nat.reduceSub, Nat.reduceEqDiff, Nat.reduceLeDiff, Nat.reduceLT, Nat.reduceMul, Nat.reduceBEq, Nat.reduceBNe, Int.reduceToNat, Int.reduceLE, Int.reduceLT, allocX, setPs, extremeA, ints, resAll, rinfOk, packR]
    refine call_fn rfl rfl rfl (ok101' b) ?_
    cases hb : rightW b with
    | false => 
      rw [bad (by simp [mdOk, hb])]
      simp -implicitDefEqProofs (maxSteps := 10000000) only [rkA, stepA, valA, storeA, ldA, fieldAddrA, fieldA, idxAddrA, idxA, idxArr, lenA, unA, binA, num2, binV, eqA, rowOf, PV.cells, PV.cell, bndA, appA, reduceIte, reduceCtorEq, Nat.reduceAdd, Nat.reduceSub, Nat.reduceEqDiff, Nat.reduceLeDiff, Nat.reduceLT, Nat.reduceMul, Nat.reduceBEq, Nat.reduceBNe, Int.reduceToNat, Int.reduceLE, Int.reduceLT, allocX, setPs, extremeA, ints, resAll, rinfOk, packR]
    | true =>
      simp -implicitDefEqProofs (maxSteps := 10000000) only [rkA, stepA, valA, storeA, ldA, fieldAddrA, fieldA, idxAddrA, idxA, idxArr, lenA, unA, binA, num2, binV, eqA, rowOf, PV.cells, PV.cell, bndA, appA, reduceIte, reduceCtorEq, Nat.reduceAdd, Nat.reduceSub, Nat.reduceEqDiff, Nat.reduceLeDiff, Nat.reduceLT, Nat.reduceMul, Nat.reduceBEq, Nat.reduceBNe, Int.reduceToNat, Int.reduceLE, Int.reduceLT, allocX, setPs, extremeA, ints, resAll, rinfOk, packR]
      refine call_fn rfl rfl rfl (ok101' c) ?_
      cases hc : rightW c with
      | false => 
        rw [bad (by simp [mdOk, hc])]
        simp -implicitDefEqProofs (maxSteps := 10000000) only [rkA, stepA, valA, storeA, ldA, fieldAddrA, fieldA, idxAddrA, idxA, idxArr, lenA, unA, binA, num2, binV, eqA, rowOf, PV.cells, PV.cell, bndA, appA, reduceIte, reduceCtorEq, Nat.reduceAdd, Nat.reduceSub, Nat.reduceEqDiff, Nat.reduceLeDiff, Nat.reduceLT, Nat.reduceMul, Nat.reduceBEq, Nat.reduceBNe, Int.reduceToNat, Int.reduceLE, Int.reduceLT, allocX, setPs, extremeA, ints, resAll, rinfOk, packR]
      | true =>
        simp -implicitDefEqProofs (maxSteps := 10000000) only [rkA, stepA, valA, storeA, ldA, fieldAddrA, fieldA, idxAddrA, idxA, idxArr, lenA, unA, binA, num2, binV, eqA, rowOf, PV.cells, PV.cell, bndA, appA, reduceIte, reduceCtorEq, Nat.reduceAdd, Nat.reduceSub, Nat.reduceEqDiff, Nat.reduceLeDiff, Nat.reduceLT, Nat.reduceMul, Nat.reduceBEq, Nat.reduceBNe, Int.reduceToNat, Int.reduceLE, Int.reduceLT, allocX, setPs, extremeA, ints, resAll, rinfOk, packR]
        by_cases c0 : c = 0
        · rw [bad (by simp [mdOk, c0])]
          simp -implicitDefEqProofs (maxSteps := 10000000) only [c0, beq_self_eq_true, rkA, stepA, valA, storeA, ldA, fieldAddrA, fieldA, idxAddrA, idxA, idxArr, lenA, unA, binA, num2, binV, eqA, rowOf, PV.cells, PV.cell, bndA, appA, reduceIte, reduceCtorEq, Nat.reduceAdd, Nat.reduceSub, Nat.reduceEqDiff, Nat.reduceLeDiff, Nat.reduceLT, Nat.reduceMul, Nat.reduceBEq, Nat.reduceBNe, Int.reduceToNat, Int.reduceLE, Int.reduceLT, allocX, setPs, extremeA, ints, resAll, rinfOk, packR]
        · have c0' : (c == 0) = false := by simp [c0]
          simp -implicitDefEqProofs (maxSteps := 10000000) only [c0', rkA, stepA, valA, storeA, ldA, fieldAddrA, fieldA, idxAddrA, idxA, idxArr, lenA, unA, binA, num2, binV, eqA, rowOf, PV.cells, PV.cell, bndA, appA, reduceIte, reduceCtorEq, Nat.reduceAdd, Nat.reduceSub, Nat.reduceEqDiff, Nat.reduceLeDiff, Nat.reduceLT, Nat.reduceMul, Nat.reduceBEq, Nat.reduceBNe, Int.reduceToNat, Int.reduceLE, Int.reduceLT, allocX, setPs, extremeA, ints, resAll, rinfOk, packR]
          refine call_fn rfl rfl rfl (ok115 mode) ?_
          by_cases hm : 0 ≤ mode ∧ mode ≤ 2
          · simp -implicitDefEqProofs (maxSteps := 10000000) only [hm, rkA, stepA, valA, storeA, ldA, fieldAddrA, fieldA, idxAddrA, idxA, idxArr, lenA, unA, binA, num2, binV, eqA, rowOf, PV.cells, PV.cell, bndA, appA, reduceIte, reduceCtorEq, Nat.reduceAdd, Nat.reduceSub, Nat.reduceEqDiff, Nat.reduceLeDiff, Nat.reduceLT, Nat.reduceMul, Nat.reduceBEq, Nat.reduceBNe, Int.reduceToNat, Int.reduceLE, Int.reduceLT, allocX, setPs, extremeA, ints, resAll, rinfOk, packR]
            refine call_fn rfl rfl rfl (ok117 a ha) ?_
            simp -implicitDefEqProofs (maxSteps := 10000000) only [rkA, stepA, valA, storeA, ldA, fieldAddrA, fieldA, idxAddrA, idxA, idxArr, lenA, unA, binA, num2, binV, eqA, rowOf, PV.cells, PV.cell, bndA, appA, reduceIte, reduceCtorEq, Nat.reduceAdd, Nat.reduceSub, Nat.reduceEqDiff, Nat.reduceLeDiff, Nat.reduceLT, Nat.reduceMul, Nat.reduceBEq, Nat.reduceBNe, Int.reduceToNat, Int.reduceLE, Int.reduceLT, allocX, setPs, extremeA, ints, resAll, rinfOk, packR]
            refine call_fn rfl rfl rfl (ok117 b hb) ?_
            simp only [rightW, decide_eq_true_eq] at ha hb
            simp -implicitDefEqProofs (maxSteps := 10000000) only [rkA, stepA, valA, storeA, ldA, fieldAddrA, fieldA, idxAddrA, idxA, idxArr, lenA, unA, binA, num2, binV, eqA, rowOf, PV.cells, PV.cell, bndA, appA, reduceIte, reduceCtorEq, Nat.reduceAdd, Nat.reduceSub, Nat.reduceEqDiff, Nat.reduceLeDiff, Nat.reduceLT, Nat.reduceMul, Nat.reduceBEq, Nat.reduceBNe, Int.reduceToNat, Int.reduceLE, Int.reduceLT, allocX, setPs, extremeA, ints, resAll, rinfOk, packR]
            refine call_fn rfl rfl rfl (ok116 a.natAbs b.natAbs (by omega) (by omega)) ?_
            simp -implicitDefEqProofs (maxSteps := 10000000) only [rkA, stepA, valA, storeA, ldA, fieldAddrA, fieldA, idxAddrA, idxA, idxArr, lenA, unA, binA, num2, binV, eqA, rowOf, PV.cells, PV.cell, bndA, appA, reduceIte, reduceCtorEq, Nat.reduceAdd, Nat.reduceSub, Nat.reduceEqDiff, Nat.reduceLeDiff, Nat.reduceLT, Nat.reduceMul, Nat.reduceBEq, Nat.reduceBNe, Int.reduceToNat, Int.reduceLE, Int.reduceLT, allocX, setPs, extremeA, ints, resAll, rinfOk, packR]
            refine call_fn rfl rfl rfl (ok117 c hc) ?_
            have hc' := hc
            simp only [rightW, decide_eq_true_eq] at hc'
            simp -implicitDefEqProofs (maxSteps := 10000000) only [rkA, stepA, valA, storeA, ldA, fieldAddrA, fieldA, idxAddrA, idxA, idxArr, lenA, unA, binA, num2, binV, eqA, rowOf, PV.cells, PV.cell, bndA, appA, reduceIte, reduceCtorEq, Nat.reduceAdd, Nat.reduceSub, Nat.reduceEqDiff, Nat.reduceLeDiff, Nat.reduceLT, Nat.reduceMul, Nat.reduceBEq, Nat.reduceBNe, Int.reduceToNat, Int.reduceLE, Int.reduceLT, allocX, setPs, extremeA, ints, resAll, rinfOk, packR]
            have hd : 0 < c.natAbs := by omega
            have e2 : ((2 : Nat) : Int) = 2 := rfl
            have p1 := Nat.div_add_mod (a.natAbs * b.natAbs) 18446744073709551616
            have p2 := Nat.mod_lt (a.natAbs * b.natAbs) (show 0 < 18446744073709551616 by omega)
            refine gB_dec ?_ ?_ <;> intro hg <;> simp -implicitDefEqProofs (maxSteps := 10000000) only [hg, e2, rkA, stepA, valA, storeA, ldA, fieldAddrA, fieldA, idxAddrA, idxA, idxArr, lenA, unA, binA, num2, binV, eqA, rowOf, PV.cells, PV.cell, bndA, appA, reduceIte, reduceCtorEq, Nat.reduceAdd, Nat.reduceSub, Nat.reduceEqDiff, Nat.reduceLeDiff, Nat.reduceLT, Nat.reduceMul, Nat.reduceBEq, Nat.reduceBNe, Int.reduceToNat, Int.reduceLE, Int.reduceLT, allocX, setPs, extremeA, ints, resAll, rinfOk, packR]
            · have hq : 18446744073709551616 ≤ a.natAbs * b.natAbs / c.natAbs := by
                rw [Nat.le_div_iff_mul_le hd]
                have : c.natAbs * 18446744073709551616 ≤ a.natAbs * b.natAbs / 18446744073709551616 * 18446744073709551616 := Nat.mul_le_mul_right _ (by omega)
                rw [Nat.mul_comm 18446744073709551616]
                omega
              have hn : ¬ mdN a b c mode ≤ 4611686018427387903 := by
                unfold mdN
                generalize a.natAbs * b.natAbs / c.natAbs = q at *
                split <;> omega
              rw [bad (by simp only [mdOk, hn, decide_false, Bool.and_false])]
            · have h131 := ok118 (a.natAbs * b.natAbs / 18446744073709551616) (a.natAbs * b.natAbs % 18446744073709551616) c.natAbs (by omega) (by omega) p2
              rw [Nat.mul_comm _ 18446744073709551616, p1] at h131
              refine call_fn rfl rfl rfl (h131) ?_
              have q1 := Nat.mod_lt (a.natAbs * b.natAbs) hd
              simp -implicitDefEqProofs (maxSteps := 10000000) only [rkA, stepA, valA, storeA, ldA, fieldAddrA, fieldA, idxAddrA, idxA, idxArr, lenA, unA, binA, num2, binV, eqA, rowOf, PV.cells, PV.cell, bndA, appA, reduceIte, reduceCtorEq, Nat.reduceAdd, Nat.reduceSub, Nat.reduceEqDiff, Nat.reduceLeDiff, Nat.reduceLT, Nat.reduceMul, Nat.reduceBEq, Nat.reduceBNe, Int.reduceToNat, Int.reduceLE, Int.reduceLT, allocX, setPs, extremeA, ints, resAll, rinfOk, packR]
              have q2 : a.natAbs * b.natAbs / c.natAbs < 18446744073709551616 := by
                refine Nat.div_lt_of_lt_mul ?_
                have : (a.natAbs * b.natAbs / 18446744073709551616 + 1) * 18446744073709551616 ≤ c.natAbs * 18446744073709551616 := Nat.mul_le_mul_right _ (by omega)
                omega
              have hmin : (!((!(decide (a < 0) == decide (b < 0))) == decide (c < 0))) = minus3 a b c := rfl
              have spec : ∀ mo, moreF mode (a.natAbs * b.natAbs / c.natAbs) (a.natAbs * b.natAbs % c.natAbs) c.natAbs (minus3 a b c) = mo → mdF a b c mode = if a.natAbs * b.natAbs / c.natAbs + (if mo = true then 1 else 0) ≤ 4611686018427387903 then
                  (if minus3 a b c = true then -((a.natAbs * b.natAbs / c.natAbs + (if mo = true then 1 else 0) : Nat) : Int) else ((a.natAbs * b.natAbs / c.natAbs + (if mo = true then 1 else 0) : Nat) : Int), true) else (0, false) := by
                have r1 : rightW a = true := by simp only [rightW, decide_eq_true_eq]; exact ha
                have r2 : rightW b = true := by simp only [rightW, decide_eq_true_eq]; exact hb
                have r3 : decide (0 ≤ mode ∧ mode ≤ 2) = true := decide_eq_true hm
                intro mo h
                unfold mdF mdOk
                rw [r1, r2, hc, r3, decide_eq_true (show c ≠ 0 from c0)]
                simp only [Bool.true_and, decide_eq_true_eq]
                unfold mdN
                rw [h]
              simp only [hmin]
              clear bad
              have dN : c.natAbs < 18446744073709551616 := by omega
              generalize a.natAbs * b.natAbs / c.natAbs = q at *
              generalize a.natAbs * b.natAbs % c.natAbs = r at *
              generalize minus3 a b c = mi at *
              generalize c.natAbs = d at *
              by_cases r0 : r = 0
              · subst r0
                have hmo : moreF mode q 0 d mi = false := rfl
                simp -implicitDefEqProofs (maxSteps := 10000000) only [Int.natCast_zero, beq_self_eq_true, rkA, stepA, valA, storeA, ldA, fieldAddrA, fieldA, idxAddrA, idxA, idxArr, lenA, unA, binA, num2, binV, eqA, rowOf, PV.cells, PV.cell, bndA, appA, reduceIte, reduceCtorEq, Nat.reduceAdd, Nat.reduceSub, Nat.reduceEqDiff, Nat.reduceLeDiff, Nat.reduceLT, Nat.reduceMul, Nat.reduceBEq, Nat.reduceBNe, Int.reduceToNat, Int.reduceLE, Int.reduceLT, allocX, setPs, extremeA, ints, resAll, rinfOk, packR]
                by_cases big : q > 4611686018427387903
                · have big' : (q : Int) > 4611686018427387903 := by omega
                  rw [(spec false hmo).trans (if_neg (by simp; omega))]
                  simp -implicitDefEqProofs (maxSteps := 10000000) only [big', rkA, stepA, valA, storeA, ldA, fieldAddrA, fieldA, idxAddrA, idxA, idxArr, lenA, unA, binA, num2, binV, eqA, rowOf, PV.cells, PV.cell, bndA, appA, reduceIte, reduceCtorEq, Nat.reduceAdd, Nat.reduceSub, Nat.reduceEqDiff, Nat.reduceLeDiff, Nat.reduceLT, Nat.reduceMul, Nat.reduceBEq, Nat.reduceBNe, Int.reduceToNat, Int.reduceLE, Int.reduceLT, allocX, setPs, extremeA, ints, resAll, rinfOk, packR]
                · have big' : ¬ (q : Int) > 4611686018427387903 := by omega
                  rw [(spec false hmo).trans (if_pos (by simp; omega))]
                  obtain ⟨t1, t2⟩ := toI (q := q) (by omega)
                  simp -implicitDefEqProofs (maxSteps := 10000000) only [big', Nat.add_zero, rkA, stepA, valA, storeA, ldA, fieldAddrA, fieldA, idxAddrA, idxA, idxArr, lenA, unA, binA, num2, binV, eqA, rowOf, PV.cells, PV.cell, bndA, appA, reduceIte, reduceCtorEq, Nat.reduceAdd, Nat.reduceSub, Nat.reduceEqDiff, Nat.reduceLeDiff, Nat.reduceLT, Nat.reduceMul, Nat.reduceBEq, Nat.reduceBNe, Int.reduceToNat, Int.reduceLE, Int.reduceLT, allocX, setPs, extremeA, ints, resAll, rinfOk, packR]
                  first
                    | (cases mi with
                       | true => simp -implicitDefEqProofs (maxSteps := 10000000) only [t1, t2, rkA, stepA, valA, storeA, ldA, fieldAddrA, fieldA, idxAddrA, idxA, idxArr, lenA, unA, binA, num2, binV, eqA, rowOf, PV.cells, PV.cell, bndA, appA, reduceIte, reduceCtorEq, Nat.reduceAdd, Nat.reduceSub, Nat.reduceEqDiff, Nat.reduceLeDiff, Nat.reduceLT, Nat.reduceMul, Nat.reduceBEq, Nat.reduceBNe, Int.reduceToNat, Int.reduceLE, Int.reduceLT, allocX, setPs, extremeA, ints, resAll, rinfOk, packR]
                       | false => simp -implicitDefEqProofs (maxSteps := 10000000) only [t1, t2, rkA, stepA, valA, storeA, ldA, fieldAddrA, fieldA, idxAddrA, idxA, idxArr, lenA, unA, binA, num2, binV, eqA, rowOf, PV.cells, PV.cell, bndA, appA, reduceIte, reduceCtorEq, Nat.reduceAdd, Nat.reduceSub, Nat.reduceEqDiff, Nat.reduceLeDiff, Nat.reduceLT, Nat.reduceMul, Nat.reduceBEq, Nat.reduceBNe, Int.reduceToNat, Int.reduceLE, Int.reduceLT, allocX, setPs, extremeA, ints, resAll, rinfOk, packR])
                    | simp -implicitDefEqProofs (maxSteps := 10000000) only [t1, t2, rkA, stepA, valA, storeA, ldA, fieldAddrA, fieldA, idxAddrA, idxA, idxArr, lenA, unA, binA, num2, binV, eqA, rowOf, PV.cells, PV.cell, bndA, appA, reduceIte, reduceCtorEq, Nat.reduceAdd, Nat.reduceSub, Nat.reduceEqDiff, Nat.reduceLeDiff, Nat.reduceLT, Nat.reduceMul, Nat.reduceBEq, Nat.reduceBNe, Int.reduceToNat, Int.reduceLE, Int.reduceLT, allocX, setPs, extremeA, ints, resAll, rinfOk, packR]
              · have r0' : ((r : Int) == 0) = false := by simp; omega
                simp -implicitDefEqProofs (maxSteps := 10000000) only [r0', rkA, stepA, valA, storeA, ldA, fieldAddrA, fieldA, idxAddrA, idxA, idxArr, lenA, unA, binA, num2, binV, eqA, rowOf, PV.cells, PV.cell, bndA, appA, reduceIte, reduceCtorEq, Nat.reduceAdd, Nat.reduceSub, Nat.reduceEqDiff, Nat.reduceLeDiff, Nat.reduceLT, Nat.reduceMul, Nat.reduceBEq, Nat.reduceBNe, Int.reduceToNat, Int.reduceLE, Int.reduceLT, allocX, setPs, extremeA, ints, resAll, rinfOk, packR]
                by_cases m0 : mode = 0
                · have m0' : (mode == 0) = true := by simp [m0]
                  have hsub : IntKind.wrap .u64 ((d : Int) - (r : Int)) = ((d - r : Nat) : Int) := by rw [wrapU]; omega
                  simp -implicitDefEqProofs (maxSteps := 10000000) only [m0', hsub, rkA, stepA, valA, storeA, ldA, fieldAddrA, fieldA, idxAddrA, idxA, idxArr, lenA, unA, binA, num2, binV, eqA, rowOf, PV.cells, PV.cell, bndA, appA, reduceIte, reduceCtorEq, Nat.reduceAdd, Nat.reduceSub, Nat.reduceEqDiff, Nat.reduceLeDiff, Nat.reduceLT, Nat.reduceMul, Nat.reduceBEq, Nat.reduceBNe, Int.reduceToNat, Int.reduceLE, Int.reduceLT, allocX, setPs, extremeA, ints, resAll, rinfOk, packR]
                  by_cases h1 : r > d - r
                  · have hmo : moreF mode q r d mi = true := by simp [moreF, r0, m0, h1]
                    have h1' : (r : Int) > ((d - r : Nat) : Int) := by omega
                    simp -implicitDefEqProofs (maxSteps := 10000000) only [h1', hsub, rkA, stepA, valA, storeA, ldA, fieldAddrA, fieldA, idxAddrA, idxA, idxArr, lenA, unA, binA, num2, binV, eqA, rowOf, PV.cells, PV.cell, bndA, appA, reduceIte, reduceCtorEq, Nat.reduceAdd, Nat.reduceSub, Nat.reduceEqDiff, Nat.reduceLeDiff, Nat.reduceLT, Nat.reduceMul, Nat.reduceBEq, Nat.reduceBNe, Int.reduceToNat, Int.reduceLE, Int.reduceLT, allocX, setPs, extremeA, ints, resAll, rinfOk, packR]
                    by_cases big : q > 4611686018427387903
                    · have big' : (q : Int) > 4611686018427387903 := by omega
                      rw [(spec true hmo).trans (if_neg (by simp; omega))]
                      simp -implicitDefEqProofs (maxSteps := 10000000) only [big', rkA, stepA, valA, storeA, ldA, fieldAddrA, fieldA, idxAddrA, idxA, idxArr, lenA, unA, binA, num2, binV, eqA, rowOf, PV.cells, PV.cell, bndA, appA, reduceIte, reduceCtorEq, Nat.reduceAdd, Nat.reduceSub, Nat.reduceEqDiff, Nat.reduceLeDiff, Nat.reduceLT, Nat.reduceMul, Nat.reduceBEq, Nat.reduceBNe, Int.reduceToNat, Int.reduceLE, Int.reduceLT, allocX, setPs, extremeA, ints, resAll, rinfOk, packR]
                    · have big' : ¬ (q : Int) > 4611686018427387903 := by omega
                      by_cases edge : q = 4611686018427387903
                      · have edge' : ((q : Int) == 4611686018427387903) = true := by simp; omega
                        rw [(spec true hmo).trans (if_neg (by simp; omega))]
                        simp -implicitDefEqProofs (maxSteps := 10000000) only [big', edge', rkA, stepA, valA, storeA, ldA, fieldAddrA, fieldA, idxAddrA, idxA, idxArr, lenA, unA, binA, num2, binV, eqA, rowOf, PV.cells, PV.cell, bndA, appA, reduceIte, reduceCtorEq, Nat.reduceAdd, Nat.reduceSub, Nat.reduceEqDiff, Nat.reduceLeDiff, Nat.reduceLT, Nat.reduceMul, Nat.reduceBEq, Nat.reduceBNe, Int.reduceToNat, Int.reduceLE, Int.reduceLT, allocX, setPs, extremeA, ints, resAll, rinfOk, packR]
                      · have edge' : ((q : Int) == 4611686018427387903) = false := by simp; omega
                        have hw : IntKind.wrap .u64 ((q : Int) + 1) = ((q + 1 : Nat) : Int) := by rw [wrapU]; omega
                        rw [(spec true hmo).trans (if_pos (by simp; omega))]
                        obtain ⟨t1, t2⟩ := toI (q := q + 1) (by omega)
                        simp -implicitDefEqProofs (maxSteps := 10000000) only [big', edge', hw, rkA, stepA, valA, storeA, ldA, fieldAddrA, fieldA, idxAddrA, idxA, idxArr, lenA, unA, binA, num2, binV, eqA, rowOf, PV.cells, PV.cell, bndA, appA, reduceIte, reduceCtorEq, Nat.reduceAdd, Nat.reduceSub, Nat.reduceEqDiff, Nat.reduceLeDiff, Nat.reduceLT, Nat.reduceMul, Nat.reduceBEq, Nat.reduceBNe, Int.reduceToNat, Int.reduceLE, Int.reduceLT, allocX, setPs, extremeA, ints, resAll, rinfOk, packR]
                        first
                          | (cases mi with
                             | true => simp -implicitDefEqProofs (maxSteps := 10000000) only [t1, t2, rkA, stepA, valA, storeA, ldA, fieldAddrA, fieldA, idxAddrA, idxA, idxArr, lenA, unA, binA, num2, binV, eqA, rowOf, PV.cells, PV.cell, bndA, appA, reduceIte, reduceCtorEq, Nat.reduceAdd, Nat.reduceSub, Nat.reduceEqDiff, Nat.reduceLeDiff, Nat.reduceLT, Nat.reduceMul, Nat.reduceBEq, Nat.reduceBNe, Int.reduceToNat, Int.reduceLE, Int.reduceLT, allocX, setPs, extremeA, ints, resAll, rinfOk, packR]
                             | false => simp -implicitDefEqProofs (maxSteps := 10000000) only [t1, t2, rkA, stepA, valA, storeA, ldA, fieldAddrA, fieldA, idxAddrA, idxA, idxArr, lenA, unA, binA, num2, binV, eqA, rowOf, PV.cells, PV.cell, bndA, appA, reduceIte, reduceCtorEq, Nat.reduceAdd, Nat.reduceSub, Nat.reduceEqDiff, Nat.reduceLeDiff, Nat.reduceLT, Nat.reduceMul, Nat.reduceBEq, Nat.reduceBNe, Int.reduceToNat, Int.reduceLE, Int.reduceLT, allocX, setPs, extremeA, ints, resAll, rinfOk, packR])
                          | simp -implicitDefEqProofs (maxSteps := 10000000) only [t1, t2, rkA, stepA, valA, storeA, ldA, fieldAddrA, fieldA, idxAddrA, idxA, idxArr, lenA, unA, binA, num2, binV, eqA, rowOf, PV.cells, PV.cell, bndA, appA, reduceIte, reduceCtorEq, Nat.reduceAdd, Nat.reduceSub, Nat.reduceEqDiff, Nat.reduceLeDiff, Nat.reduceLT, Nat.reduceMul, Nat.reduceBEq, Nat.reduceBNe, Int.reduceToNat, Int.reduceLE, Int.reduceLT, allocX, setPs, extremeA, ints, resAll, rinfOk, packR]
                  · have h1' : ¬ (r : Int) > ((d - r : Nat) : Int) := by omega
                    simp -implicitDefEqProofs (maxSteps := 10000000) only [h1', hsub, rkA, stepA, valA, storeA, ldA, fieldAddrA, fieldA, idxAddrA, idxA, idxArr, lenA, unA, binA, num2, binV, eqA, rowOf, PV.cells, PV.cell, bndA, appA, reduceIte, reduceCtorEq, Nat.reduceAdd, Nat.reduceSub, Nat.reduceEqDiff, Nat.reduceLeDiff, Nat.reduceLT, Nat.reduceMul, Nat.reduceBEq, Nat.reduceBNe, Int.reduceToNat, Int.reduceLE, Int.reduceLT, allocX, setPs, extremeA, ints, resAll, rinfOk, packR]
                    by_cases h2 : r = d - r
                    · have h2' : ((r : Int) == ((d - r : Nat) : Int)) = true := by simp; omega
                      simp -implicitDefEqProofs (maxSteps := 10000000) only [h2', and1 q2, rkA, stepA, valA, storeA, ldA, fieldAddrA, fieldA, idxAddrA, idxA, idxArr, lenA, unA, binA, num2, binV, eqA, rowOf, PV.cells, PV.cell, bndA, appA, reduceIte, reduceCtorEq, Nat.reduceAdd, Nat.reduceSub, Nat.reduceEqDiff, Nat.reduceLeDiff, Nat.reduceLT, Nat.reduceMul, Nat.reduceBEq, Nat.reduceBNe, Int.reduceToNat, Int.reduceLE, Int.reduceLT, allocX, setPs, extremeA, ints, resAll, rinfOk, packR]
                      by_cases h3 : q % 2 = 1
                      · have hmo : moreF mode q r d mi = true := by simp [moreF, r0, m0, h3]; omega
                        have h3' : (((q % 2 : Nat) : Int) == 1) = true := by simp; omega
                        simp -implicitDefEqProofs (maxSteps := 10000000) only [h3', rkA, stepA, valA, storeA, ldA, fieldAddrA, fieldA, idxAddrA, idxA, idxArr, lenA, unA, binA, num2, binV, eqA, rowOf, PV.cells, PV.cell, bndA, appA, reduceIte, reduceCtorEq, Nat.reduceAdd, Nat.reduceSub, Nat.reduceEqDiff, Nat.reduceLeDiff, Nat.reduceLT, Nat.reduceMul, Nat.reduceBEq, Nat.reduceBNe, Int.reduceToNat, Int.reduceLE, Int.reduceLT, allocX, setPs, extremeA, ints, resAll, rinfOk, packR]
                        by_cases big : q > 4611686018427387903
                        · have big' : (q : Int) > 4611686018427387903 := by omega
                          rw [(spec true hmo).trans (if_neg (by simp; omega))]
                          simp -implicitDefEqProofs (maxSteps := 10000000) only [big', rkA, stepA, valA, storeA, ldA, fieldAddrA, fieldA, idxAddrA, idxA, idxArr, lenA, unA, binA, num2, binV, eqA, rowOf, PV.cells, PV.cell, bndA, appA, reduceIte, reduceCtorEq, Nat.reduceAdd, Nat.reduceSub, Nat.reduceEqDiff, Nat.reduceLeDiff, Nat.reduceLT, Nat.reduceMul, Nat.reduceBEq, Nat.reduceBNe, Int.reduceToNat, Int.reduceLE, Int.reduceLT, allocX, setPs, extremeA, ints, resAll, rinfOk, packR]
                        · have big' : ¬ (q : Int) > 4611686018427387903 := by omega
                          by_cases edge : q = 4611686018427387903
                          · have edge' : ((q : Int) == 4611686018427387903) = true := by simp; omega
                            rw [(spec true hmo).trans (if_neg (by simp; omega))]
                            simp -implicitDefEqProofs (maxSteps := 10000000) only [big', edge', rkA, stepA, valA, storeA, ldA, fieldAddrA, fieldA, idxAddrA, idxA, idxArr, lenA, unA, binA, num2, binV, eqA, rowOf, PV.cells, PV.cell, bndA, appA, reduceIte, reduceCtorEq, Nat.reduceAdd, Nat.reduceSub, Nat.reduceEqDiff, Nat.reduceLeDiff, Nat.reduceLT, Nat.reduceMul, Nat.reduceBEq, Nat.reduceBNe, Int.reduceToNat, Int.reduceLE, Int.reduceLT, allocX, setPs, extremeA, ints, resAll, rinfOk, packR]
                          · have edge' : ((q : Int) == 4611686018427387903) = false := by simp; omega
                            have hw : IntKind.wrap .u64 ((q : Int) + 1) = ((q + 1 : Nat) : Int) := by rw [wrapU]; omega
                            rw [(spec true hmo).trans (if_pos (by simp; omega))]
                            obtain ⟨t1, t2⟩ := toI (q := q + 1) (by omega)
                            simp -implicitDefEqProofs (maxSteps := 10000000) only [big', edge', hw, rkA, stepA, valA, storeA, ldA, fieldAddrA, fieldA, idxAddrA, idxA, idxArr, lenA, unA, binA, num2, binV, eqA, rowOf, PV.cells, PV.cell, bndA, appA, reduceIte, reduceCtorEq, Nat.reduceAdd, Nat.reduceSub, Nat.reduceEqDiff, Nat.reduceLeDiff, Nat.reduceLT, Nat.reduceMul, Nat.reduceBEq, Nat.reduceBNe, Int.reduceToNat, Int.reduceLE, Int.reduceLT, allocX, setPs, extremeA, ints, resAll, rinfOk, packR]
                            first
                              | (cases mi with
                                 | true => simp -implicitDefEqProofs (maxSteps := 10000000) only [t1, t2, rkA, stepA, valA, storeA, ldA, fieldAddrA, fieldA, idxAddrA, idxA, idxArr, lenA, unA, binA, num2, binV, eqA, rowOf, PV.cells, PV.cell, bndA, appA, reduceIte, reduceCtorEq, Nat.reduceAdd, Nat.reduceSub, Nat.reduceEqDiff, Nat.reduceLeDiff, Nat.reduceLT, Nat.reduceMul, Nat.reduceBEq, Nat.reduceBNe, Int.reduceToNat, Int.reduceLE, Int.reduceLT, allocX, setPs, extremeA, ints, resAll, rinfOk, packR]
                                 | false => simp -implicitDefEqProofs (maxSteps := 10000000) only [t1, t2, rkA, stepA, valA, storeA, ldA, fieldAddrA, fieldA, idxAddrA, idxA, idxArr, lenA, unA, binA, num2, binV, eqA, rowOf, PV.cells, PV.cell, bndA, appA, reduceIte, reduceCtorEq, Nat.reduceAdd, Nat.reduceSub, Nat.reduceEqDiff, Nat.reduceLeDiff, Nat.reduceLT, Nat.reduceMul, Nat.reduceBEq, Nat.reduceBNe, Int.reduceToNat, Int.reduceLE, Int.reduceLT, allocX, setPs, extremeA, ints, resAll, rinfOk, packR])
                              | simp -implicitDefEqProofs (maxSteps := 10000000) only [t1, t2, rkA, stepA, valA, storeA, ldA, fieldAddrA, fieldA, idxAddrA, idxA, idxArr, lenA, unA, binA, num2, binV, eqA, rowOf, PV.cells, PV.cell, bndA, appA, reduceIte, reduceCtorEq, Nat.reduceAdd, Nat.reduceSub, Nat.reduceEqDiff, Nat.reduceLeDiff, Nat.reduceLT, Nat.reduceMul, Nat.reduceBEq, Nat.reduceBNe, Int.reduceToNat, Int.reduceLE, Int.reduceLT, allocX, setPs, extremeA, ints, resAll, rinfOk, packR]
                      · have hmo : moreF mode q r d mi = false := by simp only [moreF, r0, m0, h1, h3]; simp
                        have h3' : (((q % 2 : Nat) : Int) == 1) = false := by simp; omega
                        simp -implicitDefEqProofs (maxSteps := 10000000) only [h3', rkA, stepA, valA, storeA, ldA, fieldAddrA, fieldA, idxAddrA, idxA, idxArr, lenA, unA, binA, num2, binV, eqA, rowOf, PV.cells, PV.cell, bndA, appA, reduceIte, reduceCtorEq, Nat.reduceAdd, Nat.reduceSub, Nat.reduceEqDiff, Nat.reduceLeDiff, Nat.reduceLT, Nat.reduceMul, Nat.reduceBEq, Nat.reduceBNe, Int.reduceToNat, Int.reduceLE, Int.reduceLT, allocX, setPs, extremeA, ints, resAll, rinfOk, packR]
                        by_cases big : q > 4611686018427387903
                        · have big' : (q : Int) > 4611686018427387903 := by omega
                          rw [(spec false hmo).trans (if_neg (by simp; omega))]
                          simp -implicitDefEqProofs (maxSteps := 10000000) only [big', rkA, stepA, valA, storeA, ldA, fieldAddrA, fieldA, idxAddrA, idxA, idxArr, lenA, unA, binA, num2, binV, eqA, rowOf, PV.cells, PV.cell, bndA, appA, reduceIte, reduceCtorEq, Nat.reduceAdd, Nat.reduceSub, Nat.reduceEqDiff, Nat.reduceLeDiff, Nat.reduceLT, Nat.reduceMul, Nat.reduceBEq, Nat.reduceBNe, Int.reduceToNat, Int.reduceLE, Int.reduceLT, allocX, setPs, extremeA, ints, resAll, rinfOk, packR]
                        · have big' : ¬ (q : Int) > 4611686018427387903 := by omega
                          rw [(spec false hmo).trans (if_pos (by simp; omega))]
                          obtain ⟨t1, t2⟩ := toI (q := q) (by omega)
                          simp -implicitDefEqProofs (maxSteps := 10000000) only [big', Nat.add_zero, rkA, stepA, valA, storeA, ldA, fieldAddrA, fieldA, idxAddrA, idxA, idxArr, lenA, unA, binA, num2, binV, eqA, rowOf, PV.cells, PV.cell, bndA, appA, reduceIte, reduceCtorEq, Nat.reduceAdd, Nat.reduceSub, Nat.reduceEqDiff, Nat.reduceLeDiff, Nat.reduceLT, Nat.reduceMul, Nat.reduceBEq, Nat.reduceBNe, Int.reduceToNat, Int.reduceLE, Int.reduceLT, allocX, setPs, extremeA, ints, resAll, rinfOk, packR]
                          first
                            | (cases mi with
                               | true => simp -implicitDefEqProofs (maxSteps := 10000000) only [t1, t2, rkA, stepA, valA, storeA, ldA, fieldAddrA, fieldA, idxAddrA, idxA, idxArr, lenA, unA, binA, num2, binV, eqA, rowOf, PV.cells, PV.cell, bndA, appA, reduceIte, reduceCtorEq, Nat.reduceAdd, Nat.reduceSub, Nat.reduceEqDiff, Nat.reduceLeDiff, Nat.reduceLT, Nat.reduceMul, Nat.reduceBEq, Nat.reduceBNe, Int.reduceToNat, Int.reduceLE, Int.reduceLT, allocX, setPs, extremeA, ints, resAll, rinfOk, packR]
                               | false => simp -implicitDefEqProofs (maxSteps := 10000000) only [t1, t2, rkA, stepA, valA, storeA, ldA, fieldAddrA, fieldA, idxAddrA, idxA, idxArr, lenA, unA, binA, num2, binV, eqA, rowOf, PV.cells, PV.cell, bndA, appA, reduceIte, reduceCtorEq, Nat.reduceAdd, Nat.reduceSub, Nat.reduceEqDiff, Nat.reduceLeDiff, Nat.reduceLT, Nat.reduceMul, Nat.reduceBEq, Nat.reduceBNe, Int.reduceToNat, Int.reduceLE, Int.reduceLT, allocX, setPs, extremeA, ints, resAll, rinfOk, packR])
                            | simp -implicitDefEqProofs (maxSteps := 10000000) only [t1, t2, rkA, stepA, valA, storeA, ldA, fieldAddrA, fieldA, idxAddrA, idxA, idxArr, lenA, unA, binA, num2, binV, eqA, rowOf, PV.cells, PV.cell, bndA, appA, reduceIte, reduceCtorEq, Nat.reduceAdd, Nat.reduceSub, Nat.reduceEqDiff, Nat.reduceLeDiff, Nat.reduceLT, Nat.reduceMul, Nat.reduceBEq, Nat.reduceBNe, Int.reduceToNat, Int.reduceLE, Int.reduceLT, allocX, setPs, extremeA, ints, resAll, rinfOk, packR]
                    · have h2' : ((r : Int) == ((d - r : Nat) : Int)) = false := by simp; omega
                      have hmo : moreF mode q r d mi = false := by simp only [moreF, r0, m0, h1, h2]; simp
                      simp -implicitDefEqProofs (maxSteps := 10000000) only [h2', rkA, stepA, valA, storeA, ldA, fieldAddrA, fieldA, idxAddrA, idxA, idxArr, lenA, unA, binA, num2, binV, eqA, rowOf, PV.cells, PV.cell, bndA, appA, reduceIte, reduceCtorEq, Nat.reduceAdd, Nat.reduceSub, Nat.reduceEqDiff, Nat.reduceLeDiff, Nat.reduceLT, Nat.reduceMul, Nat.reduceBEq, Nat.reduceBNe, Int.reduceToNat, Int.reduceLE, Int.reduceLT, allocX, setPs, extremeA, ints, resAll, rinfOk, packR]
                      by_cases big : q > 4611686018427387903
                      · have big' : (q : Int) > 4611686018427387903 := by omega
                        rw [(spec false hmo).trans (if_neg (by simp; omega))]
                        simp -implicitDefEqProofs (maxSteps := 10000000) only [big', rkA, stepA, valA, storeA, ldA, fieldAddrA, fieldA, idxAddrA, idxA, idxArr, lenA, unA, binA, num2, binV, eqA, rowOf, PV.cells, PV.cell, bndA, appA, reduceIte, reduceCtorEq, Nat.reduceAdd, Nat.reduceSub, Nat.reduceEqDiff, Nat.reduceLeDiff, Nat.reduceLT, Nat.reduceMul, Nat.reduceBEq, Nat.reduceBNe, Int.reduceToNat, Int.reduceLE, Int.reduceLT, allocX, setPs, extremeA, ints, resAll, rinfOk, packR]
                      · have big' : ¬ (q : Int) > 4611686018427387903 := by omega
                        rw [(spec false hmo).trans (if_pos (by simp; omega))]
                        obtain ⟨t1, t2⟩ := toI (q := q) (by omega)
                        simp -implicitDefEqProofs (maxSteps := 10000000) only [big', Nat.add_zero, rkA, stepA, valA, storeA, ldA, fieldAddrA, fieldA, idxAddrA, idxA, idxArr, lenA, unA, binA, num2, binV, eqA, rowOf, PV.cells, PV.cell, bndA, appA, reduceIte, reduceCtorEq, Nat.reduceAdd, Nat.reduceSub, Nat.reduceEqDiff, Nat.reduceLeDiff, Nat.reduceLT, Nat.reduceMul, Nat.reduceBEq, Nat.reduceBNe, Int.reduceToNat, Int.reduceLE, Int.reduceLT, allocX, setPs, extremeA, ints, resAll, rinfOk, packR]
                        first
                          | (cases mi with
                             | true => simp -implicitDefEqProofs (maxSteps := 10000000) only [t1, t2, rkA, stepA, valA, storeA, ldA, fieldAddrA, fieldA, idxAddrA, idxA, idxArr, lenA, unA, binA, num2, binV, eqA, rowOf, PV.cells, PV.cell, bndA, appA, reduceIte, reduceCtorEq, Nat.reduceAdd, Nat.reduceSub, Nat.reduceEqDiff, Nat.reduceLeDiff, Nat.reduceLT, Nat.reduceMul, Nat.reduceBEq, Nat.reduceBNe, Int.reduceToNat, Int.reduceLE, Int.reduceLT, allocX, setPs, extremeA, ints, resAll, rinfOk, packR]
                             | false => simp -implicitDefEqProofs (maxSteps := 10000000) only [t1, t2, rkA, stepA, valA, storeA, ldA, fieldAddrA, fieldA, idxAddrA, idxA, idxArr, lenA, unA, binA, num2, binV, eqA, rowOf, PV.cells, PV.cell, bndA, appA, reduceIte, reduceCtorEq, Nat.reduceAdd, Nat.reduceSub, Nat.reduceEqDiff, Nat.reduceLeDiff, Nat.reduceLT, Nat.reduceMul, Nat.reduceBEq, Nat.reduceBNe, Int.reduceToNat, Int.reduceLE, Int.reduceLT, allocX, setPs, extremeA, ints, resAll, rinfOk, packR])
                          | simp -implicitDefEqProofs (maxSteps := 10000000) only [t1, t2, rkA, stepA, valA, storeA, ldA, fieldAddrA, fieldA, idxAddrA, idxA, idxArr, lenA, unA, binA, num2, binV, eqA, rowOf, PV.cells, PV.cell, bndA, appA, reduceIte, reduceCtorEq, Nat.reduceAdd, Nat.reduceSub, Nat.reduceEqDiff, Nat.reduceLeDiff, Nat.reduceLT, Nat.reduceMul, Nat.reduceBEq, Nat.reduceBNe, Int.reduceToNat, Int.reduceLE, Int.reduceLT, allocX, setPs, extremeA, ints, resAll, rinfOk, packR]
                · have m0' : (mode == 0) = false := by simp [m0]
                  simp -implicitDefEqProofs (maxSteps := 10000000) only [m0', rkA, stepA, valA, storeA, ldA, fieldAddrA, fieldA, idxAddrA, idxA, idxArr, lenA, unA, binA, num2, binV, eqA, rowOf, PV.cells, PV.cell, bndA, appA, reduceIte, reduceCtorEq, Nat.reduceAdd, Nat.reduceSub, Nat.reduceEqDiff, Nat.reduceLeDiff, Nat.reduceLT, Nat.reduceMul, Nat.reduceBEq, Nat.reduceBNe, Int.reduceToNat, Int.reduceLE, Int.reduceLT, allocX, setPs, extremeA, ints, resAll, rinfOk, packR]
                  by_cases m2 : mode = 2
                  · have m2' : (mode == 2) = true := by simp [m2]
                    cases mi with
                    | true =>
                      have hmo : moreF mode q r d true = false := by simp [moreF, r0, m2]
                      simp -implicitDefEqProofs (maxSteps := 10000000) only [m2', nb1, nb2, nb3, nb4, rkA, stepA, valA, storeA, ldA, fieldAddrA, fieldA, idxAddrA, idxA, idxArr, lenA, unA, binA, num2, binV, eqA, rowOf, PV.cells, PV.cell, bndA, appA, reduceIte, reduceCtorEq, Nat.reduceAdd, Nat.reduceSub, Nat.reduceEqDiff, Nat.reduceLeDiff, Nat.reduceLT, Nat.reduceMul, Nat.reduceBEq, Nat.reduceBNe, Int.reduceToNat, Int.reduceLE, Int.reduceLT, allocX, setPs, extremeA, ints, resAll, rinfOk, packR]
                      by_cases big : q > 4611686018427387903
                      · have big' : (q : Int) > 4611686018427387903 := by omega
                        rw [(spec false hmo).trans (if_neg (by simp; omega))]
                        simp -implicitDefEqProofs (maxSteps := 10000000) only [big', rkA, stepA, valA, storeA, ldA, fieldAddrA, fieldA, idxAddrA, idxA, idxArr, lenA, unA, binA, num2, binV, eqA, rowOf, PV.cells, PV.cell, bndA, appA, reduceIte, reduceCtorEq, Nat.reduceAdd, Nat.reduceSub, Nat.reduceEqDiff, Nat.reduceLeDiff, Nat.reduceLT, Nat.reduceMul, Nat.reduceBEq, Nat.reduceBNe, Int.reduceToNat, Int.reduceLE, Int.reduceLT, allocX, setPs, extremeA, ints, resAll, rinfOk, packR]
                      · have big' : ¬ (q : Int) > 4611686018427387903 := by omega
                        rw [(spec false hmo).trans (if_pos (by simp; omega))]
                        obtain ⟨t1, t2⟩ := toI (q := q) (by omega)
                        simp -implicitDefEqProofs (maxSteps := 10000000) only [big', Nat.add_zero, rkA, stepA, valA, storeA, ldA, fieldAddrA, fieldA, idxAddrA, idxA, idxArr, lenA, unA, binA, num2, binV, eqA, rowOf, PV.cells, PV.cell, bndA, appA, reduceIte, reduceCtorEq, Nat.reduceAdd, Nat.reduceSub, Nat.reduceEqDiff, Nat.reduceLeDiff, Nat.reduceLT, Nat.reduceMul, Nat.reduceBEq, Nat.reduceBNe, Int.reduceToNat, Int.reduceLE, Int.reduceLT, allocX, setPs, extremeA, ints, resAll, rinfOk, packR]
                        first
                          | (cases mi with
                             | true => simp -implicitDefEqProofs (maxSteps := 10000000) only [t1, t2, rkA, stepA, valA, storeA, ldA, fieldAddrA, fieldA, idxAddrA, idxA, idxArr, lenA, unA, binA, num2, binV, eqA, rowOf, PV.cells, PV.cell, bndA, appA, reduceIte, reduceCtorEq, Nat.reduceAdd, Nat.reduceSub, Nat.reduceEqDiff, Nat.reduceLeDiff, Nat.reduceLT, Nat.reduceMul, Nat.reduceBEq, Nat.reduceBNe, Int.reduceToNat, Int.reduceLE, Int.reduceLT, allocX, setPs, extremeA, ints, resAll, rinfOk, packR]
                             | false => simp -implicitDefEqProofs (maxSteps := 10000000) only [t1, t2, rkA, stepA, valA, storeA, ldA, fieldAddrA, fieldA, idxAddrA, idxA, idxArr, lenA, unA, binA, num2, binV, eqA, rowOf, PV.cells, PV.cell, bndA, appA, reduceIte, reduceCtorEq, Nat.reduceAdd, Nat.reduceSub, Nat.reduceEqDiff, Nat.reduceLeDiff, Nat.reduceLT, Nat.reduceMul, Nat.reduceBEq, Nat.reduceBNe, Int.reduceToNat, Int.reduceLE, Int.reduceLT, allocX, setPs, extremeA, ints, resAll, rinfOk, packR])
                          | simp -implicitDefEqProofs (maxSteps := 10000000) only [t1, t2, rkA, stepA, valA, storeA, ldA, fieldAddrA, fieldA, idxAddrA, idxA, idxArr, lenA, unA, binA, num2, binV, eqA, rowOf, PV.cells, PV.cell, bndA, appA, reduceIte, reduceCtorEq, Nat.reduceAdd, Nat.reduceSub, Nat.reduceEqDiff, Nat.reduceLeDiff, Nat.reduceLT, Nat.reduceMul, Nat.reduceBEq, Nat.reduceBNe, Int.reduceToNat, Int.reduceLE, Int.reduceLT, allocX, setPs, extremeA, ints, resAll, rinfOk, packR]
                    | false =>
                      have hmo : moreF mode q r d false = true := by simp [moreF, r0, m2]
                      simp -implicitDefEqProofs (maxSteps := 10000000) only [m2', nb1, nb2, nb3, nb4, rkA, stepA, valA, storeA, ldA, fieldAddrA, fieldA, idxAddrA, idxA, idxArr, lenA, unA, binA, num2, binV, eqA, rowOf, PV.cells, PV.cell, bndA, appA, reduceIte, reduceCtorEq, Nat.reduceAdd, Nat.reduceSub, Nat.reduceEqDiff, Nat.reduceLeDiff, Nat.reduceLT, Nat.reduceMul, Nat.reduceBEq, Nat.reduceBNe, Int.reduceToNat, Int.reduceLE, Int.reduceLT, allocX, setPs, extremeA, ints, resAll, rinfOk, packR]
                      by_cases big : q > 4611686018427387903
                      · have big' : (q : Int) > 4611686018427387903 := by omega
                        rw [(spec true hmo).trans (if_neg (by simp; omega))]
                        simp -implicitDefEqProofs (maxSteps := 10000000) only [big', rkA, stepA, valA, storeA, ldA, fieldAddrA, fieldA, idxAddrA, idxA, idxArr, lenA, unA, binA, num2, binV, eqA, rowOf, PV.cells, PV.cell, bndA, appA, reduceIte, reduceCtorEq, Nat.reduceAdd, Nat.reduceSub, Nat.reduceEqDiff, Nat.reduceLeDiff, Nat.reduceLT, Nat.reduceMul, Nat.reduceBEq, Nat.reduceBNe, Int.reduceToNat, Int.reduceLE, Int.reduceLT, allocX, setPs, extremeA, ints, resAll, rinfOk, packR]
                      · have big' : ¬ (q : Int) > 4611686018427387903 := by omega
                        by_cases edge : q = 4611686018427387903
                        · have edge' : ((q : Int) == 4611686018427387903) = true := by simp; omega
                          rw [(spec true hmo).trans (if_neg (by simp; omega))]
                          simp -implicitDefEqProofs (maxSteps := 10000000) only [big', edge', rkA, stepA, valA, storeA, ldA, fieldAddrA, fieldA, idxAddrA, idxA, idxArr, lenA, unA, binA, num2, binV, eqA, rowOf, PV.cells, PV.cell, bndA, appA, reduceIte, reduceCtorEq, Nat.reduceAdd, Nat.reduceSub, Nat.reduceEqDiff, Nat.reduceLeDiff, Nat.reduceLT, Nat.reduceMul, Nat.reduceBEq, Nat.reduceBNe, Int.reduceToNat, Int.reduceLE, Int.reduceLT, allocX, setPs, extremeA, ints, resAll, rinfOk, packR]
                        · have edge' : ((q : Int) == 4611686018427387903) = false := by simp; omega
                          have hw : IntKind.wrap .u64 ((q : Int) + 1) = ((q + 1 : Nat) : Int) := by rw [wrapU]; omega
                          rw [(spec true hmo).trans (if_pos (by simp; omega))]
                          obtain ⟨t1, t2⟩ := toI (q := q + 1) (by omega)
                          simp -implicitDefEqProofs (maxSteps := 10000000) only [big', edge', hw, rkA, stepA, valA, storeA, ldA, fieldAddrA, fieldA, idxAddrA, idxA, idxArr, lenA, unA, binA, num2, binV, eqA, rowOf, PV.cells, PV.cell, bndA, appA, reduceIte, reduceCtorEq, Nat.reduceAdd, Nat.reduceSub, Nat.reduceEqDiff, Nat.reduceLeDiff, Nat.reduceLT, Nat.reduceMul, Nat.reduceBEq, Nat.reduceBNe, Int.reduceToNat, Int.reduceLE, Int.reduceLT, allocX, setPs, extremeA, ints, resAll, rinfOk, packR]
                          first
                            | (cases mi with
                               | true => simp -implicitDefEqProofs (maxSteps := 10000000) only [t1, t2, rkA, stepA, valA, storeA, ldA, fieldAddrA, fieldA, idxAddrA, idxA, idxArr, lenA, unA, binA, num2, binV, eqA, rowOf, PV.cells, PV.cell, bndA, appA, reduceIte, reduceCtorEq, Nat.reduceAdd, Nat.reduceSub, Nat.reduceEqDiff, Nat.reduceLeDiff, Nat.reduceLT, Nat.reduceMul, Nat.reduceBEq, Nat.reduceBNe, Int.reduceToNat, Int.reduceLE, Int.reduceLT, allocX, setPs, extremeA, ints, resAll, rinfOk, packR]
                               | false => simp -implicitDefEqProofs (maxSteps := 10000000) only [t1, t2, rkA, stepA, valA, storeA, ldA, fieldAddrA, fieldA, idxAddrA, idxA, idxArr, lenA, unA, binA, num2, binV, eqA, rowOf, PV.cells, PV.cell, bndA, appA, reduceIte, reduceCtorEq, Nat.reduceAdd, Nat.reduceSub, Nat.reduceEqDiff, Nat.reduceLeDiff, Nat.reduceLT, Nat.reduceMul, Nat.reduceBEq, Nat.reduceBNe, Int.reduceToNat, Int.reduceLE, Int.reduceLT, allocX, setPs, extremeA, ints, resAll, rinfOk, packR])
                            | simp -implicitDefEqProofs (maxSteps := 10000000) only [t1, t2, rkA, stepA, valA, storeA, ldA, fieldAddrA, fieldA, idxAddrA, idxA, idxArr, lenA, unA, binA, num2, binV, eqA, rowOf, PV.cells, PV.cell, bndA, appA, reduceIte, reduceCtorEq, Nat.reduceAdd, Nat.reduceSub, Nat.reduceEqDiff, Nat.reduceLeDiff, Nat.reduceLT, Nat.reduceMul, Nat.reduceBEq, Nat.reduceBNe, Int.reduceToNat, Int.reduceLE, Int.reduceLT, allocX, setPs, extremeA, ints, resAll, rinfOk, packR]
                  · have m2' : (mode == 2) = false := by simp [m2]
                    cases mi with
                    | true =>
                      have hmo : moreF mode q r d true = true := by simp [moreF, r0, m0, m2]
                      simp -implicitDefEqProofs (maxSteps := 10000000) only [m2', nb1, nb2, nb3, nb4, rkA, stepA, valA, storeA, ldA, fieldAddrA, fieldA, idxAddrA, idxA, idxArr, lenA, unA, binA, num2, binV, eqA, rowOf, PV.cells, PV.cell, bndA, appA, reduceIte, reduceCtorEq, Nat.reduceAdd, Nat.reduceSub, Nat.reduceEqDiff, Nat.reduceLeDiff, Nat.reduceLT, Nat.reduceMul, Nat.reduceBEq, Nat.reduceBNe, Int.reduceToNat, Int.reduceLE, Int.reduceLT, allocX, setPs, extremeA, ints, resAll, rinfOk, packR]
                      by_cases big : q > 4611686018427387903
                      · have big' : (q : Int) > 4611686018427387903 := by omega
                        rw [(spec true hmo).trans (if_neg (by simp; omega))]
                        simp -implicitDefEqProofs (maxSteps := 10000000) only [big', rkA, stepA, valA, storeA, ldA, fieldAddrA, fieldA, idxAddrA, idxA, idxArr, lenA, unA, binA, num2, binV, eqA, rowOf, PV.cells, PV.cell, bndA, appA, reduceIte, reduceCtorEq, Nat.reduceAdd, Nat.reduceSub, Nat.reduceEqDiff, Nat.reduceLeDiff, Nat.reduceLT, Nat.reduceMul, Nat.reduceBEq, Nat.reduceBNe, Int.reduceToNat, Int.reduceLE, Int.reduceLT, allocX, setPs, extremeA, ints, resAll, rinfOk, packR]
                      · have big' : ¬ (q : Int) > 4611686018427387903 := by omega
                        by_cases edge : q = 4611686018427387903
                        · have edge' : ((q : Int) == 4611686018427387903) = true := by simp; omega
                          rw [(spec true hmo).trans (if_neg (by simp; omega))]
                          simp -implicitDefEqProofs (maxSteps := 10000000) only [big', edge', rkA, stepA, valA, storeA, ldA, fieldAddrA, fieldA, idxAddrA, idxA, idxArr, lenA, unA, binA, num2, binV, eqA, rowOf, PV.cells, PV.cell, bndA, appA, reduceIte, reduceCtorEq, Nat.reduceAdd, Nat.reduceSub, Nat.reduceEqDiff, Nat.reduceLeDiff, Nat.reduceLT, Nat.reduceMul, Nat.reduceBEq, Nat.reduceBNe, Int.reduceToNat, Int.reduceLE, Int.reduceLT, allocX, setPs, extremeA, ints, resAll, rinfOk, packR]
                        · have edge' : ((q : Int) == 4611686018427387903) = false := by simp; omega
                          have hw : IntKind.wrap .u64 ((q : Int) + 1) = ((q + 1 : Nat) : Int) := by rw [wrapU]; omega
                          rw [(spec true hmo).trans (if_pos (by simp; omega))]
                          obtain ⟨t1, t2⟩ := toI (q := q + 1) (by omega)
                          simp -implicitDefEqProofs (maxSteps := 10000000) only [big', edge', hw, rkA, stepA, valA, storeA, ldA, fieldAddrA, fieldA, idxAddrA, idxA, idxArr, lenA, unA, binA, num2, binV, eqA, rowOf, PV.cells, PV.cell, bndA, appA, reduceIte, reduceCtorEq, Nat.reduceAdd, Nat.reduceSub, Nat.reduceEqDiff, Nat.reduceLeDiff, Nat.reduceLT, Nat.reduceMul, Nat.reduceBEq, Nat.reduceBNe, Int.reduceToNat, Int.reduceLE, Int.reduceLT, allocX, setPs, extremeA, ints, resAll, rinfOk, packR]
                          first
                            | (cases mi with
                               | true => simp -implicitDefEqProofs (maxSteps := 10000000) only [t1, t2, rkA, stepA, valA, storeA, ldA, fieldAddrA, fieldA, idxAddrA, idxA, idxArr, lenA, unA, binA, num2, binV, eqA, rowOf, PV.cells, PV.cell, bndA, appA, reduceIte, reduceCtorEq, Nat.reduceAdd, Nat.reduceSub, Nat.reduceEqDiff, Nat.reduceLeDiff, Nat.reduceLT, Nat.reduceMul, Nat.reduceBEq, Nat.reduceBNe, Int.reduceToNat, Int.reduceLE, Int.reduceLT, allocX, setPs, extremeA, ints, resAll, rinfOk, packR]
                               | false => simp -implicitDefEqProofs (maxSteps := 10000000) only [t1, t2, rkA, stepA, valA, storeA, ldA, fieldAddrA, fieldA, idxAddrA, idxA, idxArr, lenA, unA, binA, num2, binV, eqA, rowOf, PV.cells, PV.cell, bndA, appA, reduceIte, reduceCtorEq, Nat.reduceAdd, Nat.reduceSub, Nat.reduceEqDiff, Nat.reduceLeDiff, Nat.reduceLT, Nat.reduceMul, Nat.reduceBEq, Nat.reduceBNe, Int.reduceToNat, Int.reduceLE, Int.reduceLT, allocX, setPs, extremeA, ints, resAll, rinfOk, packR])
                            | simp -implicitDefEqProofs (maxSteps := 10000000) only [t1, t2, rkA, stepA, valA, storeA, ldA, fieldAddrA, fieldA, idxAddrA, idxA, idxArr, lenA, unA, binA, num2, binV, eqA, rowOf, PV.cells, PV.cell, bndA, appA, reduceIte, reduceCtorEq, Nat.reduceAdd, Nat.reduceSub, Nat.reduceEqDiff, Nat.reduceLeDiff, Nat.reduceLT, Nat.reduceMul, Nat.reduceBEq, Nat.reduceBNe, Int.reduceToNat, Int.reduceLE, Int.reduceLT, allocX, setPs, extremeA, ints, resAll, rinfOk, packR]
                    | false =>
                      have hmo : moreF mode q r d false = false := by simp [moreF, r0, m0, m2]
                      simp -implicitDefEqProofs (maxSteps := 10000000) only [m2', nb1, nb2, nb3, nb4, rkA, stepA, valA, storeA, ldA, fieldAddrA, fieldA, idxAddrA, idxA, idxArr, lenA, unA, binA, num2, binV, eqA, rowOf, PV.cells, PV.cell, bndA, appA, reduceIte, reduceCtorEq, Nat.reduceAdd, Nat.reduceSub, Nat.reduceEqDiff, Nat.reduceLeDiff, Nat.reduceLT, Nat.reduceMul, Nat.reduceBEq, Nat.reduceBNe, Int.reduceToNat, Int.reduceLE, Int.reduceLT, allocX, setPs, extremeA, ints, resAll, rinfOk, packR]
                      by_cases big : q > 4611686018427387903
                      · have big' : (q : Int) > 4611686018427387903 := by omega
                        rw [(spec false hmo).trans (if_neg (by simp; omega))]
                        simp -implicitDefEqProofs (maxSteps := 10000000) only [big', rkA, stepA, valA, storeA, ldA, fieldAddrA, fieldA, idxAddrA, idxA, idxArr, lenA, unA, binA, num2, binV, eqA, rowOf, PV.cells, PV.cell, bndA, appA, reduceIte, reduceCtorEq, Nat.reduceAdd, Nat.reduceSub, Nat.reduceEqDiff, Nat.reduceLeDiff, Nat.reduceLT, Nat.reduceMul, Nat.reduceBEq, Nat.reduceBNe, Int.reduceToNat, Int.reduceLE, Int.reduceLT, allocX, setPs, extremeA, ints, resAll, rinfOk, packR]
                      · have big' : ¬ (q : Int) > 4611686018427387903 := by omega
                        rw [(spec false hmo).trans (if_pos (by simp; omega))]
                        obtain ⟨t1, t2⟩ := toI (q := q) (by omega)
                        simp -implicitDefEqProofs (maxSteps := 10000000) only [big', Nat.add_zero, rkA, stepA, valA, storeA, ldA, fieldAddrA, fieldA, idxAddrA, idxA, idxArr, lenA, unA, binA, num2, binV, eqA, rowOf, PV.cells, PV.cell, bndA, appA, reduceIte, reduceCtorEq, Nat.reduceAdd, Nat.reduceSub, Nat.reduceEqDiff, Nat.reduceLeDiff, Nat.reduceLT, Nat.reduceMul, Nat.reduceBEq, Nat.reduceBNe, Int.reduceToNat, Int.reduceLE, Int.reduceLT, allocX, setPs, extremeA, ints, resAll, rinfOk, packR]
                        first
                          | (cases mi with
                             | true => simp -implicitDefEqProofs (maxSteps := 10000000) only [t1, t2, rkA, stepA, valA, storeA, ldA, fieldAddrA, fieldA, idxAddrA, idxA, idxArr, lenA, unA, binA, num2, binV, eqA, rowOf, PV.cells, PV.cell, bndA, appA, reduceIte, reduceCtorEq, Nat.reduceAdd, Nat.reduceSub, Nat.reduceEqDiff, Nat.reduceLeDiff, Nat.reduceLT, Nat.reduceMul, Nat.reduceBEq, Nat.reduceBNe, Int.reduceToNat, Int.reduceLE, Int.reduceLT, allocX, setPs, extremeA, ints, resAll, rinfOk, packR]
                             | false => simp -implicitDefEqProofs (maxSteps := 10000000) only [t1, t2, rkA, stepA, valA, storeA, ldA, fieldAddrA, fieldA, idxAddrA, idxA, idxArr, lenA, unA, binA, num2, binV, eqA, rowOf, PV.cells, PV.cell, bndA, appA, reduceIte, reduceCtorEq, Nat.reduceAdd, Nat.reduceSub, Nat.reduceEqDiff, Nat.reduceLeDiff, Nat.reduceLT, Nat.reduceMul, Nat.reduceBEq, Nat.reduceBNe, Int.reduceToNat, Int.reduceLE, Int.reduceLT, allocX, setPs, extremeA, ints, resAll, rinfOk, packR])
                          | simp -implicitDefEqProofs (maxSteps := 10000000) only [t1, t2, rkA, stepA, valA, storeA, ldA, fieldAddrA, fieldA, idxAddrA, idxA, idxArr, lenA, unA, binA, num2, binV, eqA, rowOf, PV.cells, PV.cell, bndA, appA, reduceIte, reduceCtorEq, Nat.reduceAdd, Nat.reduceSub, Nat.reduceEqDiff, Nat.reduceLeDiff, Nat.reduceLT, Nat.reduceMul, Nat.reduceBEq, Nat.reduceBNe, Int.reduceToNat, Int.reduceLE, Int.reduceLT, allocX, setPs, extremeA, ints, resAll, rinfOk, packR]
          · rw [bad (by simp only [mdOk, hm, decide_false, Bool.and_false, Bool.false_and])]
            simp -implicitDefEqProofs (maxSteps := 10000000) only [hm, rkA, stepA, valA, storeA, ldA, fieldAddrA, fieldA, idxAddrA, idxA, idxArr, lenA, unA, binA, num2, binV, eqA, rowOf, PV.cells, PV.cell, bndA, appA, reduceIte, reduceCtorEq, Nat.reduceAdd, Nat.reduceSub, Nat.reduceEqDiff, Nat.reduceLeDiff, Nat.reduceLT, Nat.reduceMul, Nat.reduceBEq, Nat.reduceBNe, Int.reduceToNat, Int.reduceLE, Int.reduceLT, allocX, setPs, extremeA, ints, resAll, rinfOk, packR]
end Go.Proofs.YtipchjfcjbghnaaGreat.A


set_option linter.unusedVariables false
set_option linter.unusedSimpArgs false
set_option maxRecDepth 100000
namespace Go.Proofs.YtipchjfcjbghnaaGreat.A
open Go Go.RowKit Go.Shelf

def Fr.fine (x : Fr) : Bool := !x.bad && decide (x.d ≥ 1) && decide (x.d ≤ 1073741824) && decide (x.n ≤ 1073741824) && decide (x.n ≥ -1073741824) && (((newF x.n x.d).n == x.n) && (((newF x.n x.d).d == x.d) && (((newF x.n x.d).bad == x.bad) && true)))

theorem ok170 (x : Fr) : Ok Tryz.prog 170 [frV x] (tru x.fine) := by
  obtain ⟨n, d, b⟩ := x
  cases b with
  | true =>
    refine ok_fn mixed Tryz.func170 (code := ?_) (h := h170) ?_ k170 ?_
    rotate_left
    · exact rfl
    unfold h170 initS
    simp -implicitDefEqProofs only [rkA, stepA, valA, storeA, ldA, fieldAddrA, fieldA, idxAddrA, idxA, idxArr, lenA, unA, binA, num2, binV, eqA, rowOf, PV.cells, PV.cell, bndA, appA, reduceIte, reduceCtorEq, Nat.reduceAdd, Nat.reduceSub, Nat.reduceEqDiff, Nat.reduceLeDiff, Nat.reduceLT, Nat.reduceMul, Nat.reduceBEq, Nat.reduceBNe, Int.reduceToNat, Int.reduceLE, Int.reduceLT, allocX, setPs, extremeA, ints, resAll, rinfOk, packR, Tryz.ntmps170, Tryz.results170]
    simp [Fr.fine]
  | false =>
    refine ok_fn mixed Tryz.func170 (code := ?_) (h := h170) ?_ k170 ?_
    rotate_left
    · exact rfl
    unfold h170 initS
    simp -implicitDefEqProofs only [rkA, stepA, valA, storeA, ldA, fieldAddrA, fieldA, idxAddrA, idxA, idxArr, lenA, unA, binA, num2, binV, eqA, rowOf, PV.cells, PV.cell, bndA, appA, reduceIte, reduceCtorEq, Nat.reduceAdd, Nat.reduceSub, Nat.reduceEqDiff, Nat.reduceLeDiff, Nat.reduceLT, Nat.reduceMul, Nat.reduceBEq, Nat.reduceBNe, Int.reduceToNat, Int.reduceLE, Int.reduceLT, allocX, setPs, extremeA, ints, resAll, rinfOk, packR, Tryz.ntmps170, Tryz.results170]
    repeat' (refine gB_dec ?_ ?_ <;> intro hc <;> first | (exfalso; omega) | simp -implicitDefEqProofs only [hc, rkA, stepA, valA, storeA, ldA, fieldAddrA, fieldA, idxAddrA, idxA, idxArr, lenA, unA, binA, num2, binV, eqA, rowOf, PV.cells, PV.cell, bndA, appA, reduceIte, reduceCtorEq, Nat.reduceAdd, Nat.reduceSub, Nat.reduceEqDiff, Nat.reduceLeDiff, Nat.reduceLT, Nat.reduceMul, Nat.reduceBEq, Nat.reduceBNe, Int.reduceToNat, Int.reduceLE, Int.reduceLT, allocX, setPs, extremeA, ints, resAll, rinfOk, packR])
    · refine call_fn rfl rfl rfl (ok30 n d) ?_
      simp -implicitDefEqProofs only [cellsEq, rkA, stepA, valA, storeA, ldA, fieldAddrA, fieldA, idxAddrA, idxA, idxArr, lenA, unA, binA, num2, binV, eqA, rowOf, PV.cells, PV.cell, bndA, appA, reduceIte, reduceCtorEq, Nat.reduceAdd, Nat.reduceSub, Nat.reduceEqDiff, Nat.reduceLeDiff, Nat.reduceLT, Nat.reduceMul, Nat.reduceBEq, Nat.reduceBNe, Int.reduceToNat, Int.reduceLE, Int.reduceLT, allocX, setPs, extremeA, ints, resAll, rinfOk, packR]
      simp [Fr.fine, *]
    all_goals simp [Fr.fine, *]

theorem prod_le {x y : Int} (hx : -1073741824 ≤ x ∧ x ≤ 1073741824) (hy : -1073741824 ≤ y ∧ y ≤ 1073741824) : -1152921504606846976 ≤ x * y ∧ x * y ≤ 1152921504606846976 := by
  have e : (x * y).natAbs = x.natAbs * y.natAbs := Int.natAbs_mul x y
  have h : x.natAbs * y.natAbs ≤ 1073741824 * 1073741824 := Nat.mul_le_mul (by omega) (by omega)
  omega

theorem Fr.fine_spec {x : Fr} (h : x.fine = true) : x.bad = false ∧ 1 ≤ x.d ∧ x.d ≤ 1073741824 ∧ x.n ≤ 1073741824 ∧ -1073741824 ≤ x.n := by
  simp only [Fr.fine, Bool.and_eq_true, Bool.not_eq_true', decide_eq_true_eq] at h
  exact ⟨h.1.1.1.1.1, by omega, by omega, by omega, by omega⟩

theorem tdiv_le {m k : Int} (hk : 0 < k) : (m.tdiv k).natAbs ≤ m.natAbs := by
  have e : (m.tdiv k).natAbs = m.natAbs / k.natAbs := Int.natAbs_tdiv m k
  rw [e]
  exact Nat.div_le_self _ _

def addF (a b : Fr) : Fr :=
  if a.fine = false ∨ b.fine = false then .wrong else
    newF ((a.n * b.d + b.n * a.d).tdiv (Int.gcd (a.n * b.d + b.n * a.d) (a.d * b.d))) ((a.d * b.d).tdiv (Int.gcd (a.n * b.d + b.n * a.d) (a.d * b.d)))

theorem ok168 (a b : Fr) : Ok Tryz.prog 168 [frV a, frV b] (frV (addF a b)) := by
  have ha := ok170 a
  have hb := ok170 b
  refine ok_fn mixed Tryz.func168 (code := ?_) (h := h168) ?_ k168 ?_
  rotate_left
  · exact rfl
  unfold h168 initS
  simp -implicitDefEqProofs only [rkA, stepA, valA, storeA, ldA, fieldAddrA, fieldA, idxAddrA, idxA, idxArr, lenA, unA, binA, num2, binV, eqA, rowOf, PV.cells, PV.cell, bndA, appA, reduceIte, reduceCtorEq, Nat.reduceAdd, Nat.reduceSub, Nat.reduceEqDiff, Nat.reduceLeDiff, Nat.reduceLT, Nat.reduceMul, Nat.reduceBEq, Nat.reduceBNe, Int.reduceToNat, Int.reduceLE, Int.reduceLT, allocX, setPs, extremeA, ints, resAll, rinfOk, packR, Tryz.ntmps168, Tryz.results168]
  refine call_fn rfl rfl rfl (ha) ?_
  cases hfa : a.fine with
  | false =>
    simp -implicitDefEqProofs only [rkA, stepA, valA, storeA, ldA, fieldAddrA, fieldA, idxAddrA, idxA, idxArr, lenA, unA, binA, num2, binV, eqA, rowOf, PV.cells, PV.cell, bndA, appA, reduceIte, reduceCtorEq, Nat.reduceAdd, Nat.reduceSub, Nat.reduceEqDiff, Nat.reduceLeDiff, Nat.reduceLT, Nat.reduceMul, Nat.reduceBEq, Nat.reduceBNe, Int.reduceToNat, Int.reduceLE, Int.reduceLT, allocX, setPs, extremeA, ints, resAll, rinfOk, packR]
    refine call_fn rfl rfl rfl (ok71) ?_
    have e : addF a b = .wrong := by simp [addF, hfa]
    simp -implicitDefEqProofs only [e, rkA, stepA, valA, storeA, ldA, fieldAddrA, fieldA, idxAddrA, idxA, idxArr, lenA, unA, binA, num2, binV, eqA, rowOf, PV.cells, PV.cell, bndA, appA, reduceIte, reduceCtorEq, Nat.reduceAdd, Nat.reduceSub, Nat.reduceEqDiff, Nat.reduceLeDiff, Nat.reduceLT, Nat.reduceMul, Nat.reduceBEq, Nat.reduceBNe, Int.reduceToNat, Int.reduceLE, Int.reduceLT, allocX, setPs, extremeA, ints, resAll, rinfOk, packR]
  | true =>
    simp -implicitDefEqProofs only [rkA, stepA, valA, storeA, ldA, fieldAddrA, fieldA, idxAddrA, idxA, idxArr, lenA, unA, binA, num2, binV, eqA, rowOf, PV.cells, PV.cell, bndA, appA, reduceIte, reduceCtorEq, Nat.reduceAdd, Nat.reduceSub, Nat.reduceEqDiff, Nat.reduceLeDiff, Nat.reduceLT, Nat.reduceMul, Nat.reduceBEq, Nat.reduceBNe, Int.reduceToNat, Int.reduceLE, Int.reduceLT, allocX, setPs, extremeA, ints, resAll, rinfOk, packR]
    refine call_fn rfl rfl rfl (hb) ?_
    cases hfb : b.fine with
    | false =>
      simp -implicitDefEqProofs only [rkA, stepA, valA, storeA, ldA, fieldAddrA, fieldA, idxAddrA, idxA, idxArr, lenA, unA, binA, num2, binV, eqA, rowOf, PV.cells, PV.cell, bndA, appA, reduceIte, reduceCtorEq, Nat.reduceAdd, Nat.reduceSub, Nat.reduceEqDiff, Nat.reduceLeDiff, Nat.reduceLT, Nat.reduceMul, Nat.reduceBEq, Nat.reduceBNe, Int.reduceToNat, Int.reduceLE, Int.reduceLT, allocX, setPs, extremeA, ints, resAll, rinfOk, packR]
      refine call_fn rfl rfl rfl (ok71) ?_
      have e : addF a b = .wrong := by simp [addF, hfb]
      simp -implicitDefEqProofs only [e, rkA, stepA, valA, storeA, ldA, fieldAddrA, fieldA, idxAddrA, idxA, idxArr, lenA, unA, binA, num2, binV, eqA, rowOf, PV.cells, PV.cell, bndA, appA, reduceIte, reduceCtorEq, Nat.reduceAdd, Nat.reduceSub, Nat.reduceEqDiff, Nat.reduceLeDiff, Nat.reduceLT, Nat.reduceMul, Nat.reduceBEq, Nat.reduceBNe, Int.reduceToNat, Int.reduceLE, Int.reduceLT, allocX, setPs, extremeA, ints, resAll, rinfOk, packR]
    | true =>
      simp -implicitDefEqProofs only [rkA, stepA, valA, storeA, ldA, fieldAddrA, fieldA, idxAddrA, idxA, idxArr, lenA, unA, binA, num2, binV, eqA, rowOf, PV.cells, PV.cell, bndA, appA, reduceIte, reduceCtorEq, Nat.reduceAdd, Nat.reduceSub, Nat.reduceEqDiff, Nat.reduceLeDiff, Nat.reduceLT, Nat.reduceMul, Nat.reduceBEq, Nat.reduceBNe, Int.reduceToNat, Int.reduceLE, Int.reduceLT, allocX, setPs, extremeA, ints, resAll, rinfOk, packR]
      obtain ⟨a1, a2, a3, a4, a5⟩ := Fr.fine_spec hfa
      obtain ⟨b1, b2, b3, b4, b5⟩ := Fr.fine_spec hfb
      have p1 := prod_le (x := a.n) (y := b.d) ⟨a5, a4⟩ (by omega)
      have p2 := prod_le (x := b.n) (y := a.d) ⟨b5, b4⟩ (by omega)
      have p3 := prod_le (x := a.d) (y := b.d) (by omega) (by omega)
      have p4 : 0 < a.d * b.d := Int.mul_pos (by omega) (by omega)
      have w1 := wrapped (x := a.n * b.d) (by omega) (by omega)
      have w2 := wrapped (x := b.n * a.d) (by omega) (by omega)
      have w3 := wrapped (x := a.d * b.d) (by omega) (by omega)
      have w4 := wrapped (x := a.n * b.d + b.n * a.d) (by omega) (by omega)
      simp -implicitDefEqProofs only [w1, w2, w3, w4, rkA, stepA, valA, storeA, ldA, fieldAddrA, fieldA, idxAddrA, idxA, idxArr, lenA, unA, binA, num2, binV, eqA, rowOf, PV.cells, PV.cell, bndA, appA, reduceIte, reduceCtorEq, Nat.reduceAdd, Nat.reduceSub, Nat.reduceEqDiff, Nat.reduceLeDiff, Nat.reduceLT, Nat.reduceMul, Nat.reduceBEq, Nat.reduceBNe, Int.reduceToNat, Int.reduceLE, Int.reduceLT, allocX, setPs, extremeA, ints, resAll, rinfOk, packR]
      have e : addF a b = newF ((a.n * b.d + b.n * a.d).tdiv (Int.gcd (a.n * b.d + b.n * a.d) (a.d * b.d))) ((a.d * b.d).tdiv (Int.gcd (a.n * b.d + b.n * a.d) (a.d * b.d))) := by simp [addF, hfa, hfb]
      rw [e]
      have p5 : -2305843009213693952 ≤ a.n * b.d + b.n * a.d ∧ a.n * b.d + b.n * a.d ≤ 2305843009213693952 := by omega
      generalize a.n * b.d + b.n * a.d = m at *
      generalize a.d * b.d = q at *
      refine call_fn rfl rfl rfl (ok72 m q (by omega) (by omega)) ?_
      have hk : 0 < (Int.gcd m q : Int) := by
        have : 0 < Int.gcd m q := Int.gcd_pos_of_ne_zero_right _ (by omega)
        omega
      have hk0 : ((Int.gcd m q : Int) = 0) = False := by simp; omega
      have t1 := tdiv_le (m := m) (k := Int.gcd m q) hk
      have t2 := tdiv_le (m := q) (k := Int.gcd m q) hk
      have v1 := wrapped (x := m.tdiv (Int.gcd m q)) (by omega) (by omega)
      have v2 := wrapped (x := q.tdiv (Int.gcd m q)) (by omega) (by omega)
      simp -implicitDefEqProofs only [hk0, v1, v2, rkA, stepA, valA, storeA, ldA, fieldAddrA, fieldA, idxAddrA, idxA, idxArr, lenA, unA, binA, num2, binV, eqA, rowOf, PV.cells, PV.cell, bndA, appA, reduceIte, reduceCtorEq, Nat.reduceAdd, Nat.reduceSub, Nat.reduceEqDiff, Nat.reduceLeDiff, Nat.reduceLT, Nat.reduceMul, Nat.reduceBEq, Nat.reduceBNe, Int.reduceToNat, Int.reduceLE, Int.reduceLT, allocX, setPs, extremeA, ints, resAll, rinfOk, packR]
      refine call_fn rfl rfl rfl (ok30 _ _) ?_
      simp -implicitDefEqProofs only [rkA, stepA, valA, storeA, ldA, fieldAddrA, fieldA, idxAddrA, idxA, idxArr, lenA, unA, binA, num2, binV, eqA, rowOf, PV.cells, PV.cell, bndA, appA, reduceIte, reduceCtorEq, Nat.reduceAdd, Nat.reduceSub, Nat.reduceEqDiff, Nat.reduceLeDiff, Nat.reduceLT, Nat.reduceMul, Nat.reduceBEq, Nat.reduceBNe, Int.reduceToNat, Int.reduceLE, Int.reduceLT, allocX, setPs, extremeA, ints, resAll, rinfOk, packR]

def mulF (a b : Fr) : Fr := if a.fine = false ∨ b.fine = false then .wrong else newF (a.n * b.n) (a.d * b.d)
def negF (a : Fr) : Fr := if a.fine = false then .wrong else newF (-a.n) a.d
def subF (a b : Fr) : Fr := addF a (negF b)

theorem ok176 (a b : Fr) (ha : a.fine = true) (hb : b.fine = true) : Ok Tryz.prog 176 [.vp [num a.n, num a.d, tru a.bad], .vp [num b.n, num b.d, tru b.bad]] (.tup [num (a.n * b.n), num (a.d * b.d)]) := by
  obtain ⟨a1, a2, a3, a4, a5⟩ := Fr.fine_spec ha
  obtain ⟨b1, b2, b3, b4, b5⟩ := Fr.fine_spec hb
  have p1 := prod_le (x := a.n) (y := b.n) ⟨a5, a4⟩ (by omega)
  have p3 := prod_le (x := a.d) (y := b.d) (by omega) (by omega)
  have w1 := wrapped (x := a.n * b.n) (by omega) (by omega)
  have w3 := wrapped (x := a.d * b.d) (by omega) (by omega)
  refine ok_fn mixed Tryz.func176 (code := ?_) (h := h176) ?_ k176 ?_
  rotate_left
  · exact rfl
  unfold h176 initS
  simp -implicitDefEqProofs only [rkA, stepA, valA, storeA, ldA, fieldAddrA, fieldA, idxAddrA, idxA, idxArr, lenA, unA, binA, num2, binV, eqA, rowOf, PV.cells, PV.cell, bndA, appA, reduceIte, reduceCtorEq, Nat.reduceAdd, Nat.reduceSub, Nat.reduceEqDiff, Nat.reduceLeDiff, Nat.reduceLT, Nat.reduceMul, Nat.reduceBEq, Nat.reduceBNe, Int.reduceToNat, Int.reduceLE, Int.reduceLT, allocX, setPs, extremeA, ints, resAll, rinfOk, packR, Tryz.ntmps176, Tryz.results176]
  simp -implicitDefEqProofs only [w1, w3, rkA, stepA, valA, storeA, ldA, fieldAddrA, fieldA, idxAddrA, idxA, idxArr, lenA, unA, binA, num2, binV, eqA, rowOf, PV.cells, PV.cell, bndA, appA, reduceIte, reduceCtorEq, Nat.reduceAdd, Nat.reduceSub, Nat.reduceEqDiff, Nat.reduceLeDiff, Nat.reduceLT, Nat.reduceMul, Nat.reduceBEq, Nat.reduceBNe, Int.reduceToNat, Int.reduceLE, Int.reduceLT, allocX, setPs, extremeA, ints, resAll, rinfOk, packR]

theorem ok174 (a b : Fr) (k : Nat) (caps : List PV) (n d : Int) (h : a.fine = true → b.fine = true → Ok Tryz.prog k caps (.tup [num n, num d])) :
    Ok Tryz.prog 174 [frV a, frV b, .fn (.func k) caps] (frV (if a.fine = false ∨ b.fine = false then .wrong else newF n d)) := by
  refine ok_fn mixed Tryz.func174 (code := ?_) (h := h174) ?_ k174 ?_
  rotate_left
  · exact rfl
  unfold h174 initS
  simp -implicitDefEqProofs only [rkA, stepA, valA, storeA, ldA, fieldAddrA, fieldA, idxAddrA, idxA, idxArr, lenA, unA, binA, num2, binV, eqA, rowOf, PV.cells, PV.cell, bndA, appA, reduceIte, reduceCtorEq, Nat.reduceAdd, Nat.reduceSub, Nat.reduceEqDiff, Nat.reduceLeDiff, Nat.reduceLT, Nat.reduceMul, Nat.reduceBEq, Nat.reduceBNe, Int.reduceToNat, Int.reduceLE, Int.reduceLT, allocX, setPs, extremeA, ints, resAll, rinfOk, packR, Tryz.ntmps174, Tryz.results174]
  refine call_fn rfl rfl rfl (ok170 a) ?_
  cases hfa : a.fine with
  | false =>
    simp -implicitDefEqProofs only [rkA, stepA, valA, storeA, ldA, fieldAddrA, fieldA, idxAddrA, idxA, idxArr, lenA, unA, binA, num2, binV, eqA, rowOf, PV.cells, PV.cell, bndA, appA, reduceIte, reduceCtorEq, Nat.reduceAdd, Nat.reduceSub, Nat.reduceEqDiff, Nat.reduceLeDiff, Nat.reduceLT, Nat.reduceMul, Nat.reduceBEq, Nat.reduceBNe, Int.reduceToNat, Int.reduceLE, Int.reduceLT, allocX, setPs, extremeA, ints, resAll, rinfOk, packR]
    refine call_fn rfl rfl rfl (ok71) ?_
    simp -implicitDefEqProofs only [rkA, stepA, valA, storeA, ldA, fieldAddrA, fieldA, idxAddrA, idxA, idxArr, lenA, unA, binA, num2, binV, eqA, rowOf, PV.cells, PV.cell, bndA, appA, reduceIte, reduceCtorEq, Nat.reduceAdd, Nat.reduceSub, Nat.reduceEqDiff, Nat.reduceLeDiff, Nat.reduceLT, Nat.reduceMul, Nat.reduceBEq, Nat.reduceBNe, Int.reduceToNat, Int.reduceLE, Int.reduceLT, allocX, setPs, extremeA, ints, resAll, rinfOk, packR]
    simp
  | true =>
    simp -implicitDefEqProofs only [rkA, stepA, valA, storeA, ldA, fieldAddrA, fieldA, idxAddrA, idxA, idxArr, lenA, unA, binA, num2, binV, eqA, rowOf, PV.cells, PV.cell, bndA, appA, reduceIte, reduceCtorEq, Nat.reduceAdd, Nat.reduceSub, Nat.reduceEqDiff, Nat.reduceLeDiff, Nat.reduceLT, Nat.reduceMul, Nat.reduceBEq, Nat.reduceBNe, Int.reduceToNat, Int.reduceLE, Int.reduceLT, allocX, setPs, extremeA, ints, resAll, rinfOk, packR]
    refine call_fn rfl rfl rfl (ok170 b) ?_
    cases hfb : b.fine with
    | false =>
      simp -implicitDefEqProofs only [rkA, stepA, valA, storeA, ldA, fieldAddrA, fieldA, idxAddrA, idxA, idxArr, lenA, unA, binA, num2, binV, eqA, rowOf, PV.cells, PV.cell, bndA, appA, reduceIte, reduceCtorEq, Nat.reduceAdd, Nat.reduceSub, Nat.reduceEqDiff, Nat.reduceLeDiff, Nat.reduceLT, Nat.reduceMul, Nat.reduceBEq, Nat.reduceBNe, Int.reduceToNat, Int.reduceLE, Int.reduceLT, allocX, setPs, extremeA, ints, resAll, rinfOk, packR]
      refine call_fn rfl rfl rfl (ok71) ?_
      simp -implicitDefEqProofs only [rkA, stepA, valA, storeA, ldA, fieldAddrA, fieldA, idxAddrA, idxA, idxArr, lenA, unA, binA, num2, binV, eqA, rowOf, PV.cells, PV.cell, bndA, appA, reduceIte, reduceCtorEq, Nat.reduceAdd, Nat.reduceSub, Nat.reduceEqDiff, Nat.reduceLeDiff, Nat.reduceLT, Nat.reduceMul, Nat.reduceBEq, Nat.reduceBNe, Int.reduceToNat, Int.reduceLE, Int.reduceLT, allocX, setPs, extremeA, ints, resAll, rinfOk, packR]
      simp
    | true =>
      simp -implicitDefEqProofs only [rkA, stepA, valA, storeA, ldA, fieldAddrA, fieldA, idxAddrA, idxA, idxArr, lenA, unA, binA, num2, binV, eqA, rowOf, PV.cells, PV.cell, bndA, appA, reduceIte, reduceCtorEq, Nat.reduceAdd, Nat.reduceSub, Nat.reduceEqDiff, Nat.reduceLeDiff, Nat.reduceLT, Nat.reduceMul, Nat.reduceBEq, Nat.reduceBNe, Int.reduceToNat, Int.reduceLE, Int.reduceLT, allocX, setPs, extremeA, ints, resAll, rinfOk, packR]
      refine call_fn rfl rfl rfl (h hfa hfb) ?_
      simp -implicitDefEqProofs only [rkA, stepA, valA, storeA, ldA, fieldAddrA, fieldA, idxAddrA, idxA, idxArr, lenA, unA, binA, num2, binV, eqA, rowOf, PV.cells, PV.cell, bndA, appA, reduceIte, reduceCtorEq, Nat.reduceAdd, Nat.reduceSub, Nat.reduceEqDiff, Nat.reduceLeDiff, Nat.reduceLT, Nat.reduceMul, Nat.reduceBEq, Nat.reduceBNe, Int.reduceToNat, Int.reduceLE, Int.reduceLT, allocX, setPs, extremeA, ints, resAll, rinfOk, packR]
      refine call_fn rfl rfl rfl (ok30 n d) ?_
      simp -implicitDefEqProofs only [rkA, stepA, valA, storeA, ldA, fieldAddrA, fieldA, idxAddrA, idxA, idxArr, lenA, unA, binA, num2, binV, eqA, rowOf, PV.cells, PV.cell, bndA, appA, reduceIte, reduceCtorEq, Nat.reduceAdd, Nat.reduceSub, Nat.reduceEqDiff, Nat.reduceLeDiff, Nat.reduceLT, Nat.reduceMul, Nat.reduceBEq, Nat.reduceBNe, Int.reduceToNat, Int.reduceLE, Int.reduceLT, allocX, setPs, extremeA, ints, resAll, rinfOk, packR]
      simp

theorem ok171 (a b : Fr) : Ok Tryz.prog 171 [frV a, frV b] (frV (mulF a b)) := by
  refine ok_fn mixed Tryz.func171 (code := ?_) (h := h171) ?_ k171 ?_
  rotate_left
  · exact rfl
  unfold h171 initS
  simp -implicitDefEqProofs only [rkA, stepA, valA, storeA, ldA, fieldAddrA, fieldA, idxAddrA, idxA, idxArr, lenA, unA, binA, num2, binV, eqA, rowOf, PV.cells, PV.cell, bndA, appA, reduceIte, reduceCtorEq, Nat.reduceAdd, Nat.reduceSub, Nat.reduceEqDiff, Nat.reduceLeDiff, Nat.reduceLT, Nat.reduceMul, Nat.reduceBEq, Nat.reduceBNe, Int.reduceToNat, Int.reduceLE, Int.reduceLT, allocX, setPs, extremeA, ints, resAll, rinfOk, packR, Tryz.ntmps171, Tryz.results171]
  refine call_fn rfl rfl rfl (ok174 a b 176 _ _ _ (fun ha hb => ok176 a b ha hb)) ?_
  simp -implicitDefEqProofs only [rkA, stepA, valA, storeA, ldA, fieldAddrA, fieldA, idxAddrA, idxA, idxArr, lenA, unA, binA, num2, binV, eqA, rowOf, PV.cells, PV.cell, bndA, appA, reduceIte, reduceCtorEq, Nat.reduceAdd, Nat.reduceSub, Nat.reduceEqDiff, Nat.reduceLeDiff, Nat.reduceLT, Nat.reduceMul, Nat.reduceBEq, Nat.reduceBNe, Int.reduceToNat, Int.reduceLE, Int.reduceLT, allocX, setPs, extremeA, ints, resAll, rinfOk, packR]
  simp [mulF]

theorem ok178 (a : Fr) (ha : a.fine = true) : Ok Tryz.prog 178 [.vp [num a.n, num a.d, tru a.bad]] (.tup [num (-a.n), num a.d]) := by
  obtain ⟨a1, a2, a3, a4, a5⟩ := Fr.fine_spec ha
  have w1 : IntKind.wrap .i64 (0 - a.n) = -a.n := by rw [wrapped (by omega) (by omega)]; omega
  refine ok_fn mixed Tryz.func178 (code := ?_) (h := h178) ?_ k178 ?_
  rotate_left
  · exact rfl
  unfold h178 initS
  simp -implicitDefEqProofs only [rkA, stepA, valA, storeA, ldA, fieldAddrA, fieldA, idxAddrA, idxA, idxArr, lenA, unA, binA, num2, binV, eqA, rowOf, PV.cells, PV.cell, bndA, appA, reduceIte, reduceCtorEq, Nat.reduceAdd, Nat.reduceSub, Nat.reduceEqDiff, Nat.reduceLeDiff, Nat.reduceLT, Nat.reduceMul, Nat.reduceBEq, Nat.reduceBNe, Int.reduceToNat, Int.reduceLE, Int.reduceLT, allocX, setPs, extremeA, ints, resAll, rinfOk, packR, Tryz.ntmps178, Tryz.results178]
  simp -implicitDefEqProofs only [w1, rkA, stepA, valA, storeA, ldA, fieldAddrA, fieldA, idxAddrA, idxA, idxArr, lenA, unA, binA, num2, binV, eqA, rowOf, PV.cells, PV.cell, bndA, appA, reduceIte, reduceCtorEq, Nat.reduceAdd, Nat.reduceSub, Nat.reduceEqDiff, Nat.reduceLeDiff, Nat.reduceLT, Nat.reduceMul, Nat.reduceBEq, Nat.reduceBNe, Int.reduceToNat, Int.reduceLE, Int.reduceLT, allocX, setPs, extremeA, ints, resAll, rinfOk, packR]

theorem ok177 (a : Fr) : Ok Tryz.prog 177 [frV a] (frV (negF a)) := by
  refine ok_fn mixed Tryz.func177 (code := ?_) (h := h177) ?_ k177 ?_
  rotate_left
  · exact rfl
  unfold h177 initS
  simp -implicitDefEqProofs only [rkA, stepA, valA, storeA, ldA, fieldAddrA, fieldA, idxAddrA, idxA, idxArr, lenA, unA, binA, num2, binV, eqA, rowOf, PV.cells, PV.cell, bndA, appA, reduceIte, reduceCtorEq, Nat.reduceAdd, Nat.reduceSub, Nat.reduceEqDiff, Nat.reduceLeDiff, Nat.reduceLT, Nat.reduceMul, Nat.reduceBEq, Nat.reduceBNe, Int.reduceToNat, Int.reduceLE, Int.reduceLT, allocX, setPs, extremeA, ints, resAll, rinfOk, packR, Tryz.ntmps177, Tryz.results177]
  refine call_fn rfl rfl rfl (ok174 a a 178 _ _ _ (fun ha hb => ok178 a ha)) ?_
  simp -implicitDefEqProofs only [rkA, stepA, valA, storeA, ldA, fieldAddrA, fieldA, idxAddrA, idxA, idxArr, lenA, unA, binA, num2, binV, eqA, rowOf, PV.cells, PV.cell, bndA, appA, reduceIte, reduceCtorEq, Nat.reduceAdd, Nat.reduceSub, Nat.reduceEqDiff, Nat.reduceLeDiff, Nat.reduceLT, Nat.reduceMul, Nat.reduceBEq, Nat.reduceBNe, Int.reduceToNat, Int.reduceLE, Int.reduceLT, allocX, setPs, extremeA, ints, resAll, rinfOk, packR]
  simp [negF]

theorem ok173 (a b : Fr) : Ok Tryz.prog 173 [frV a, frV b] (frV (subF a b)) := by
  refine ok_fn mixed Tryz.func173 (code := ?_) (h := h173) ?_ k173 ?_
  rotate_left
  · exact rfl
  unfold h173 initS
  simp -implicitDefEqProofs only [rkA, stepA, valA, storeA, ldA, fieldAddrA, fieldA, idxAddrA, idxA, idxArr, lenA, unA, binA, num2, binV, eqA, rowOf, PV.cells, PV.cell, bndA, appA, reduceIte, reduceCtorEq, Nat.reduceAdd, Nat.reduceSub, Nat.reduceEqDiff, Nat.reduceLeDiff, Nat.reduceLT, Nat.reduceMul, Nat.reduceBEq, Nat.reduceBNe, Int.reduceToNat, Int.reduceLE, Int.reduceLT, allocX, setPs, extremeA, ints, resAll, rinfOk, packR, Tryz.ntmps173, Tryz.results173]
  refine call_fn rfl rfl rfl (ok177 b) ?_
  simp -implicitDefEqProofs only [rkA, stepA, valA, storeA, ldA, fieldAddrA, fieldA, idxAddrA, idxA, idxArr, lenA, unA, binA, num2, binV, eqA, rowOf, PV.cells, PV.cell, bndA, appA, reduceIte, reduceCtorEq, Nat.reduceAdd, Nat.reduceSub, Nat.reduceEqDiff, Nat.reduceLeDiff, Nat.reduceLT, Nat.reduceMul, Nat.reduceBEq, Nat.reduceBNe, Int.reduceToNat, Int.reduceLE, Int.reduceLT, allocX, setPs, extremeA, ints, resAll, rinfOk, packR]
  refine call_fn rfl rfl rfl (ok168 a (negF b)) ?_
  simp -implicitDefEqProofs only [rkA, stepA, valA, storeA, ldA, fieldAddrA, fieldA, idxAddrA, idxA, idxArr, lenA, unA, binA, num2, binV, eqA, rowOf, PV.cells, PV.cell, bndA, appA, reduceIte, reduceCtorEq, Nat.reduceAdd, Nat.reduceSub, Nat.reduceEqDiff, Nat.reduceLeDiff, Nat.reduceLT, Nat.reduceMul, Nat.reduceBEq, Nat.reduceBNe, Int.reduceToNat, Int.reduceLE, Int.reduceLT, allocX, setPs, extremeA, ints, resAll, rinfOk, packR]
  simp [subF]

theorem ok172 (a : Fr) (n : Int) : Ok Tryz.prog 172 [frV a, num n] (frV (newF n 1)) := by
  refine ok_fn mixed Tryz.func172 (code := ?_) (h := h172) ?_ k172 ?_
  rotate_left
  · exact rfl
  unfold h172 initS
  simp -implicitDefEqProofs only [rkA, stepA, valA, storeA, ldA, fieldAddrA, fieldA, idxAddrA, idxA, idxArr, lenA, unA, binA, num2, binV, eqA, rowOf, PV.cells, PV.cell, bndA, appA, reduceIte, reduceCtorEq, Nat.reduceAdd, Nat.reduceSub, Nat.reduceEqDiff, Nat.reduceLeDiff, Nat.reduceLT, Nat.reduceMul, Nat.reduceBEq, Nat.reduceBNe, Int.reduceToNat, Int.reduceLE, Int.reduceLT, allocX, setPs, extremeA, ints, resAll, rinfOk, packR, Tryz.ntmps172, Tryz.results172]
  refine call_fn rfl rfl rfl (ok30 n 1) ?_
  simp -implicitDefEqProofs only [rkA, stepA, valA, storeA, ldA, fieldAddrA, fieldA, idxAddrA, idxA, idxArr, lenA, unA, binA, num2, binV, eqA, rowOf, PV.cells, PV.cell, bndA, appA, reduceIte, reduceCtorEq, Nat.reduceAdd, Nat.reduceSub, Nat.reduceEqDiff, Nat.reduceLeDiff, Nat.reduceLT, Nat.reduceMul, Nat.reduceBEq, Nat.reduceBNe, Int.reduceToNat, Int.reduceLE, Int.reduceLT, allocX, setPs, extremeA, ints, resAll, rinfOk, packR]

/-! ### Whole numbers -/
abbrev whole (n : Int) : Fr := ⟨n, 1, false⟩
def few (n : Int) : Prop := -1073741824 ≤ n ∧ n ≤ 1073741824

theorem newF_whole {n : Int} (h : few n) : newF n 1 = whole n := by
  unfold newF few at *
  rw [if_neg (by omega)]
  simp only [Int.reduceLT, if_false, Int.gcd_one]
  rw [if_neg]
  · simp
  · simp; omega
theorem fine_whole {n : Int} (h : few n) : (whole n).fine = true := by
  have := newF_whole h
  simp only [Fr.fine, whole, this]
  unfold few at h
  simp
  omega
end Go.Proofs.YtipchjfcjbghnaaGreat.A


set_option linter.unusedVariables false
set_option linter.unusedSimpArgs false
set_option maxRecDepth 100000
namespace Go.Proofs.YtipchjfcjbghnaaGreat.A
open Go Go.RowKit Go.Shelf

/-! ### Rows of fractions -/
abbrev frs (l : List Fr) : List PV := l.map frV

theorem fits_frs {k l : List Fr} (h : k.length + l.length ≤ 5864062014805) : fits 3 24 (frs k) (frs l) = true := by
  simp [fits, PV.cells, PV.ok, PV.cell, Value.oneCell']
  omega

theorem ok83 (ex : Bool) (l : List Fr) (h : l.length ≤ 5864062014805) : Ok Tryz.prog 83 [.sl ex (frs l)] (.sl false (frs l)) := by
  have hfit : fits 3 24 [] (frs l) = true := fits_frs (k := []) (l := l) (by simpa using h)
  refine ok_fn mixed Tryz.func83 (code := ?_) (h := h83) ?_ k83 ?_
  rotate_left
  · exact rfl
  unfold h83 initS
  simp -implicitDefEqProofs only [rkA, stepA, valA, storeA, ldA, fieldAddrA, fieldA, idxAddrA, idxA, idxArr, lenA, unA, binA, num2, binV, eqA, rowOf, PV.cells, PV.cell, bndA, appA, reduceIte, reduceCtorEq, Nat.reduceAdd, Nat.reduceSub, Nat.reduceEqDiff, Nat.reduceLeDiff, Nat.reduceLT, Nat.reduceMul, Nat.reduceBEq, Nat.reduceBNe, Int.reduceToNat, Int.reduceLE, Int.reduceLT, allocX, setPs, extremeA, ints, resAll, rinfOk, packR, Tryz.ntmps83, Tryz.results83]
  refine nilA_sl (some 4) (.tmp 3) rfl ?_
  intro b hb
  cases b with
  | true =>
    simp -implicitDefEqProofs only [rkA, stepA, valA, storeA, ldA, fieldAddrA, fieldA, idxAddrA, idxA, idxArr, lenA, unA, binA, num2, binV, eqA, rowOf, PV.cells, PV.cell, bndA, appA, reduceIte, reduceCtorEq, Nat.reduceAdd, Nat.reduceSub, Nat.reduceEqDiff, Nat.reduceLeDiff, Nat.reduceLT, Nat.reduceMul, Nat.reduceBEq, Nat.reduceBNe, Int.reduceToNat, Int.reduceLE, Int.reduceLT, allocX, setPs, extremeA, ints, resAll, rinfOk, packR]
    have : l = [] := by
      cases l with
      | nil => rfl
      | cons x l => simp at hb
    subst this
    simp
  | false =>
    simp -implicitDefEqProofs only [hfit, rkA, stepA, valA, storeA, ldA, fieldAddrA, fieldA, idxAddrA, idxA, idxArr, lenA, unA, binA, num2, binV, eqA, rowOf, PV.cells, PV.cell, bndA, appA, reduceIte, reduceCtorEq, Nat.reduceAdd, Nat.reduceSub, Nat.reduceEqDiff, Nat.reduceLeDiff, Nat.reduceLT, Nat.reduceMul, Nat.reduceBEq, Nat.reduceBNe, Int.reduceToNat, Int.reduceLE, Int.reduceLT, allocX, setPs, extremeA, ints, resAll, rinfOk, packR]

def right (r c : Int) (n : Nat) : Bool := decide (1 ≤ r ∧ r ≤ 16) && (decide (1 ≤ c ∧ c ≤ 16) && ((n : Int) == r * c))
abbrev matNil : PV := .agg [num 0, num 0, .s (.slice none 0 0)]
abbrev matV (ex : Bool) (r c : Int) (l : List PV) : PV := .agg [num r, num c, .sl ex l]

theorem ok84 (ex : Bool) (r c : Int) (l : List PV) : Ok Tryz.prog 84 [matV ex r c l] (tru (right r c l.length)) := by
  refine ok_fn mixed Tryz.func84 (code := ?_) (h := h84) ?_ k84 ?_
  rotate_left
  · exact rfl
  unfold h84 initS
  simp -implicitDefEqProofs only [rkA, stepA, valA, storeA, ldA, fieldAddrA, fieldA, idxAddrA, idxA, idxArr, lenA, unA, binA, num2, binV, eqA, rowOf, PV.cells, PV.cell, bndA, appA, reduceIte, reduceCtorEq, Nat.reduceAdd, Nat.reduceSub, Nat.reduceEqDiff, Nat.reduceLeDiff, Nat.reduceLT, Nat.reduceMul, Nat.reduceBEq, Nat.reduceBNe, Int.reduceToNat, Int.reduceLE, Int.reduceLT, allocX, setPs, extremeA, ints, resAll, rinfOk, packR, Tryz.ntmps84, Tryz.results84]
  refine call_fn rfl rfl rfl (ok107 r) ?_
  by_cases hr : 1 ≤ r ∧ r ≤ 16
  · simp -implicitDefEqProofs only [hr, rkA, stepA, valA, storeA, ldA, fieldAddrA, fieldA, idxAddrA, idxA, idxArr, lenA, unA, binA, num2, binV, eqA, rowOf, PV.cells, PV.cell, bndA, appA, reduceIte, reduceCtorEq, Nat.reduceAdd, Nat.reduceSub, Nat.reduceEqDiff, Nat.reduceLeDiff, Nat.reduceLT, Nat.reduceMul, Nat.reduceBEq, Nat.reduceBNe, Int.reduceToNat, Int.reduceLE, Int.reduceLT, allocX, setPs, extremeA, ints, resAll, rinfOk, packR]
    refine call_fn rfl rfl rfl (ok107 c) ?_
    by_cases hc : 1 ≤ c ∧ c ≤ 16
    · have hm : 0 ≤ r * c ∧ r * c ≤ 256 := by
        have h1 : (r * c).natAbs = r.natAbs * c.natAbs := Int.natAbs_mul r c
        have h2 : r.natAbs * c.natAbs ≤ 16 * 16 := Nat.mul_le_mul (by omega) (by omega)
        have h3 : 0 ≤ r * c := Int.mul_nonneg (by omega) (by omega)
        omega
      have w := wrapped (x := r * c) (by omega) (by omega)
      simp -implicitDefEqProofs only [hc, w, rkA, stepA, valA, storeA, ldA, fieldAddrA, fieldA, idxAddrA, idxA, idxArr, lenA, unA, binA, num2, binV, eqA, rowOf, PV.cells, PV.cell, bndA, appA, reduceIte, reduceCtorEq, Nat.reduceAdd, Nat.reduceSub, Nat.reduceEqDiff, Nat.reduceLeDiff, Nat.reduceLT, Nat.reduceMul, Nat.reduceBEq, Nat.reduceBNe, Int.reduceToNat, Int.reduceLE, Int.reduceLT, allocX, setPs, extremeA, ints, resAll, rinfOk, packR]
      simp [right, hr, hc]
    · simp -implicitDefEqProofs only [hc, rkA, stepA, valA, storeA, ldA, fieldAddrA, fieldA, idxAddrA, idxA, idxArr, lenA, unA, binA, num2, binV, eqA, rowOf, PV.cells, PV.cell, bndA, appA, reduceIte, reduceCtorEq, Nat.reduceAdd, Nat.reduceSub, Nat.reduceEqDiff, Nat.reduceLeDiff, Nat.reduceLT, Nat.reduceMul, Nat.reduceBEq, Nat.reduceBNe, Int.reduceToNat, Int.reduceLE, Int.reduceLT, allocX, setPs, extremeA, ints, resAll, rinfOk, packR]
      simp [right, hr, hc]
  · simp -implicitDefEqProofs only [hr, rkA, stepA, valA, storeA, ldA, fieldAddrA, fieldA, idxAddrA, idxA, idxArr, lenA, unA, binA, num2, binV, eqA, rowOf, PV.cells, PV.cell, bndA, appA, reduceIte, reduceCtorEq, Nat.reduceAdd, Nat.reduceSub, Nat.reduceEqDiff, Nat.reduceLeDiff, Nat.reduceLT, Nat.reduceMul, Nat.reduceBEq, Nat.reduceBNe, Int.reduceToNat, Int.reduceLE, Int.reduceLT, allocX, setPs, extremeA, ints, resAll, rinfOk, packR]
    simp [right, hr]

theorem ok60 (r c : Int) (ex : Bool) (l : List Fr) (h : l.length ≤ 5864062014805) :
    Ok Tryz.prog 60 [num r, num c, .sl ex (frs l)] (if right r c l.length = true then .tup [matV false r c (frs l), tru true] else .tup [matNil, tru false]) := by
  refine ok_fn mixed Tryz.func60 (code := ?_) (h := h60) ?_ k60 ?_
  rotate_left
  · exact rfl
  unfold h60 initS
  simp -implicitDefEqProofs only [rkA, stepA, valA, storeA, ldA, fieldAddrA, fieldA, idxAddrA, idxA, idxArr, lenA, unA, binA, num2, binV, eqA, rowOf, PV.cells, PV.cell, bndA, appA, reduceIte, reduceCtorEq, Nat.reduceAdd, Nat.reduceSub, Nat.reduceEqDiff, Nat.reduceLeDiff, Nat.reduceLT, Nat.reduceMul, Nat.reduceBEq, Nat.reduceBNe, Int.reduceToNat, Int.reduceLE, Int.reduceLT, allocX, setPs, extremeA, ints, resAll, rinfOk, packR, Tryz.ntmps60, Tryz.results60]
  refine call_fn rfl rfl rfl (ok83 ex l h) ?_
  simp -implicitDefEqProofs only [rkA, stepA, valA, storeA, ldA, fieldAddrA, fieldA, idxAddrA, idxA, idxArr, lenA, unA, binA, num2, binV, eqA, rowOf, PV.cells, PV.cell, bndA, appA, reduceIte, reduceCtorEq, Nat.reduceAdd, Nat.reduceSub, Nat.reduceEqDiff, Nat.reduceLeDiff, Nat.reduceLT, Nat.reduceMul, Nat.reduceBEq, Nat.reduceBNe, Int.reduceToNat, Int.reduceLE, Int.reduceLT, allocX, setPs, extremeA, ints, resAll, rinfOk, packR]
  refine call_fn rfl rfl rfl (ok84 false r c (frs l)) ?_
  have e : (frs l).length = l.length := by simp
  rw [e]
  cases hr : right r c l.length with
  | true => simp -implicitDefEqProofs only [rkA, stepA, valA, storeA, ldA, fieldAddrA, fieldA, idxAddrA, idxA, idxArr, lenA, unA, binA, num2, binV, eqA, rowOf, PV.cells, PV.cell, bndA, appA, reduceIte, reduceCtorEq, Nat.reduceAdd, Nat.reduceSub, Nat.reduceEqDiff, Nat.reduceLeDiff, Nat.reduceLT, Nat.reduceMul, Nat.reduceBEq, Nat.reduceBNe, Int.reduceToNat, Int.reduceLE, Int.reduceLT, allocX, setPs, extremeA, ints, resAll, rinfOk, packR]
  | false => simp -implicitDefEqProofs only [rkA, stepA, valA, storeA, ldA, fieldAddrA, fieldA, idxAddrA, idxA, idxArr, lenA, unA, binA, num2, binV, eqA, rowOf, PV.cells, PV.cell, bndA, appA, reduceIte, reduceCtorEq, Nat.reduceAdd, Nat.reduceSub, Nat.reduceEqDiff, Nat.reduceLeDiff, Nat.reduceLT, Nat.reduceMul, Nat.reduceBEq, Nat.reduceBNe, Int.reduceToNat, Int.reduceLE, Int.reduceLT, allocX, setPs, extremeA, ints, resAll, rinfOk, packR]

theorem methOf : Meth Tryz.prog 66 "Of" 172 := by
  intro v xs w
  rfl

theorem ok29 (ex : Bool) (xs : List Int) (h : xs.length ≤ 5864062014805) : Ok Tryz.prog 29 [.sl ex (xs.map num)] (.sl false (frs (xs.map (newF · 1)))) := by
  refine ok_fn mixed Tryz.func29 (code := ?_) (h := h29) ?_ k29 ?_
  rotate_left
  · exact rfl
  unfold h29 initS
  simp -implicitDefEqProofs only [rkA, stepA, valA, storeA, ldA, fieldAddrA, fieldA, idxAddrA, idxA, idxArr, lenA, unA, binA, num2, binV, eqA, rowOf, PV.cells, PV.cell, bndA, appA, reduceIte, reduceCtorEq, Nat.reduceAdd, Nat.reduceSub, Nat.reduceEqDiff, Nat.reduceLeDiff, Nat.reduceLT, Nat.reduceMul, Nat.reduceBEq, Nat.reduceBNe, Int.reduceToNat, Int.reduceLE, Int.reduceLT, allocX, setPs, extremeA, ints, resAll, rinfOk, packR, Tryz.ntmps29, Tryz.results29]
  refine wp_loop (fun m s => ∃ i, i + m = xs.length ∧ s = ⟨[jk, jk, jk, .acc 3 (frs ((xs.take i).map (newF · 1))), .ptr 4 0, jk, jk, .v (.sl ex (xs.map num)), nt xs.length, nt i, jk, jk, jk, jk, jk, jk, jk, jk, jk, jk, jk, jk],
    [(4, [nt 0, nt 0, .v (tru false)])], [], [(2, 0), (3, i)], [], 0, nomem⟩) xs.length ?_ ?_
  · simp -implicitDefEqProofs only [rkA, stepA, valA, storeA, ldA, fieldAddrA, fieldA, idxAddrA, idxA, idxArr, lenA, unA, binA, num2, binV, eqA, rowOf, PV.cells, PV.cell, bndA, appA, reduceIte, reduceCtorEq, Nat.reduceAdd, Nat.reduceSub, Nat.reduceEqDiff, Nat.reduceLeDiff, Nat.reduceLT, Nat.reduceMul, Nat.reduceBEq, Nat.reduceBNe, Int.reduceToNat, Int.reduceLE, Int.reduceLT, allocX, setPs, extremeA, ints, resAll, rinfOk, packR]
    refine ⟨0, by simp, ?_⟩
    simp
  rintro m s ⟨i, hi, rfl⟩
  simp -implicitDefEqProofs only [rkA, stepA, valA, storeA, ldA, fieldAddrA, fieldA, idxAddrA, idxA, idxArr, lenA, unA, binA, num2, binV, eqA, rowOf, PV.cells, PV.cell, bndA, appA, reduceIte, reduceCtorEq, Nat.reduceAdd, Nat.reduceSub, Nat.reduceEqDiff, Nat.reduceLeDiff, Nat.reduceLT, Nat.reduceMul, Nat.reduceBEq, Nat.reduceBNe, Int.reduceToNat, Int.reduceLE, Int.reduceLT, allocX, setPs, extremeA, ints, resAll, rinfOk, packR]
  refine gB_dec ?_ ?_ <;> intro hc <;> simp -implicitDefEqProofs only [hc, rkA, stepA, valA, storeA, ldA, fieldAddrA, fieldA, idxAddrA, idxA, idxArr, lenA, unA, binA, num2, binV, eqA, rowOf, PV.cells, PV.cell, bndA, appA, reduceIte, reduceCtorEq, Nat.reduceAdd, Nat.reduceSub, Nat.reduceEqDiff, Nat.reduceLeDiff, Nat.reduceLT, Nat.reduceMul, Nat.reduceBEq, Nat.reduceBNe, Int.reduceToNat, Int.reduceLE, Int.reduceLT, allocX, setPs, extremeA, ints, resAll, rinfOk, packR]
  · have hlt : i < xs.length := by omega
    have h0 : (0 : Int) ≤ (i : Int) := by omega
    have hg : (xs.map num)[i]? = some (num xs[i]) := by simp [hlt]
    simp -implicitDefEqProofs only [h0, Int.toNat_natCast, hg, rkA, stepA, valA, storeA, ldA, fieldAddrA, fieldA, idxAddrA, idxA, idxArr, lenA, unA, binA, num2, binV, eqA, rowOf, PV.cells, PV.cell, bndA, appA, reduceIte, reduceCtorEq, Nat.reduceAdd, Nat.reduceSub, Nat.reduceEqDiff, Nat.reduceLeDiff, Nat.reduceLT, Nat.reduceMul, Nat.reduceBEq, Nat.reduceBNe, Int.reduceToNat, Int.reduceLE, Int.reduceLT, allocX, setPs, extremeA, ints, resAll, rinfOk, packR]
    refine call_meth rfl rfl methOf (ok172 ⟨0, 0, false⟩ xs[i]) ?_
    have hfit : fits 3 24 (frs ((xs.take i).map (newF · 1))) [frV (newF xs[i] 1)] = true := fits_frs (l := [newF xs[i] 1]) (by simp; omega)
    have hw := wrapped (x := (i : Int) + 1) (by omega) (by omega)
    have hl : (frs ((xs.take i).map (newF · 1))).length = i := by simp; omega
    simp -implicitDefEqProofs only [hfit, hl, hw, rkA, stepA, valA, storeA, ldA, fieldAddrA, fieldA, idxAddrA, idxA, idxArr, lenA, unA, binA, num2, binV, eqA, rowOf, PV.cells, PV.cell, bndA, appA, reduceIte, reduceCtorEq, Nat.reduceAdd, Nat.reduceSub, Nat.reduceEqDiff, Nat.reduceLeDiff, Nat.reduceLT, Nat.reduceMul, Nat.reduceBEq, Nat.reduceBNe, Int.reduceToNat, Int.reduceLE, Int.reduceLT, allocX, setPs, extremeA, ints, resAll, rinfOk, packR]
    refine loopK_of (m' := m - 1) (by omega) ?_
    simp -implicitDefEqProofs only [rkA, stepA, valA, storeA, ldA, fieldAddrA, fieldA, idxAddrA, idxA, idxArr, lenA, unA, binA, num2, binV, eqA, rowOf, PV.cells, PV.cell, bndA, appA, reduceIte, reduceCtorEq, Nat.reduceAdd, Nat.reduceSub, Nat.reduceEqDiff, Nat.reduceLeDiff, Nat.reduceLT, Nat.reduceMul, Nat.reduceBEq, Nat.reduceBNe, Int.reduceToNat, Int.reduceLE, Int.reduceLT, allocX, setPs, extremeA, ints, resAll, rinfOk, packR]
    refine ⟨i + 1, by omega, ?_⟩
    rw [List.take_succ_eq_append_getElem hlt]
    simp only [frs, List.map_append, List.map_cons, List.map_nil, Int.natCast_add, Int.natCast_one]
  · have : xs.length ≤ i := by omega
    rw [List.take_of_length_le this]

theorem ok25 (r c : Int) (ex : Bool) (xs : List Int) (h : xs.length ≤ 5864062014805) :
    Ok Tryz.prog 25 [num r, num c, .sl ex (xs.map num)] (if right r c xs.length = true then .tup [matV false r c (frs (xs.map (newF · 1))), tru true] else .tup [matNil, tru false]) := by
  refine ok_fn mixed Tryz.func25 (code := ?_) (h := h25) ?_ k25 ?_
  rotate_left
  · exact rfl
  unfold h25 initS
  simp -implicitDefEqProofs only [rkA, stepA, valA, storeA, ldA, fieldAddrA, fieldA, idxAddrA, idxA, idxArr, lenA, unA, binA, num2, binV, eqA, rowOf, PV.cells, PV.cell, bndA, appA, reduceIte, reduceCtorEq, Nat.reduceAdd, Nat.reduceSub, Nat.reduceEqDiff, Nat.reduceLeDiff, Nat.reduceLT, Nat.reduceMul, Nat.reduceBEq, Nat.reduceBNe, Int.reduceToNat, Int.reduceLE, Int.reduceLT, allocX, setPs, extremeA, ints, resAll, rinfOk, packR, Tryz.ntmps25, Tryz.results25]
  refine call_fn rfl rfl rfl (ok29 ex xs h) ?_
  simp -implicitDefEqProofs only [rkA, stepA, valA, storeA, ldA, fieldAddrA, fieldA, idxAddrA, idxA, idxArr, lenA, unA, binA, num2, binV, eqA, rowOf, PV.cells, PV.cell, bndA, appA, reduceIte, reduceCtorEq, Nat.reduceAdd, Nat.reduceSub, Nat.reduceEqDiff, Nat.reduceLeDiff, Nat.reduceLT, Nat.reduceMul, Nat.reduceBEq, Nat.reduceBNe, Int.reduceToNat, Int.reduceLE, Int.reduceLT, allocX, setPs, extremeA, ints, resAll, rinfOk, packR]
  refine call_fn rfl rfl rfl (ok60 r c false (xs.map (newF · 1)) (by simpa using h)) ?_
  simp only [List.length_map]
  cases hr : right r c xs.length with
  | true => simp -implicitDefEqProofs only [rkA, stepA, valA, storeA, ldA, fieldAddrA, fieldA, idxAddrA, idxA, idxArr, lenA, unA, binA, num2, binV, eqA, rowOf, PV.cells, PV.cell, bndA, appA, reduceIte, reduceCtorEq, Nat.reduceAdd, Nat.reduceSub, Nat.reduceEqDiff, Nat.reduceLeDiff, Nat.reduceLT, Nat.reduceMul, Nat.reduceBEq, Nat.reduceBNe, Int.reduceToNat, Int.reduceLE, Int.reduceLT, allocX, setPs, extremeA, ints, resAll, rinfOk, packR]
  | false => simp -implicitDefEqProofs only [rkA, stepA, valA, storeA, ldA, fieldAddrA, fieldA, idxAddrA, idxA, idxArr, lenA, unA, binA, num2, binV, eqA, rowOf, PV.cells, PV.cell, bndA, appA, reduceIte, reduceCtorEq, Nat.reduceAdd, Nat.reduceSub, Nat.reduceEqDiff, Nat.reduceLeDiff, Nat.reduceLT, Nat.reduceMul, Nat.reduceBEq, Nat.reduceBNe, Int.reduceToNat, Int.reduceLE, Int.reduceLT, allocX, setPs, extremeA, ints, resAll, rinfOk, packR]

/-- What stands in a row, or 0 fraction. -/
def atF (r c : Int) (l : List Fr) (i k : Int) : Fr := if right r c l.length = true ∧ 0 ≤ i ∧ i < r ∧ 0 ≤ k ∧ k < c then l.getD (i * c + k).toNat ⟨0, 0, false⟩ else ⟨0, 0, false⟩

theorem right_spec {r c : Int} {n : Nat} (h : right r c n = true) : 1 ≤ r ∧ r ≤ 16 ∧ 1 ≤ c ∧ c ≤ 16 ∧ (n : Int) = r * c := by
  simp only [right, Bool.and_eq_true, decide_eq_true_eq, beq_iff_eq] at h
  omega

theorem at_bound {r c i k : Int} (hr : r ≤ 16) (hc : 1 ≤ c ∧ c ≤ 16) (hi : 0 ≤ i ∧ i < r) (hk : 0 ≤ k ∧ k < c) : 0 ≤ i * c ∧ 0 ≤ i * c + k ∧ i * c + k < r * c ∧ i * c ≤ 256 ∧ r * c ≤ 256 := by
  have h1 : 0 ≤ i * c := Int.mul_nonneg hi.1 (by omega)
  have h2 : (i + 1) * c ≤ r * c := Int.mul_le_mul_of_nonneg_right (by omega) (by omega)
  have h3 : (i + 1) * c = i * c + c := by rw [Int.add_mul, Int.one_mul]
  have h4 : r * c ≤ 16 * c := Int.mul_le_mul_of_nonneg_right hr (by omega)
  omega

theorem ok44 (ex : Bool) (r c i k : Int) (l : List Fr) : Ok Tryz.prog 44 [matV ex r c (frs l), num i, num k] (frV (atF r c l i k)) := by
  refine ok_fn mixed Tryz.func44 (code := ?_) (h := h44) ?_ k44 ?_
  rotate_left
  · exact rfl
  unfold h44 initS
  simp -implicitDefEqProofs only [rkA, stepA, valA, storeA, ldA, fieldAddrA, fieldA, idxAddrA, idxA, idxArr, lenA, unA, binA, num2, binV, eqA, rowOf, PV.cells, PV.cell, bndA, appA, reduceIte, reduceCtorEq, Nat.reduceAdd, Nat.reduceSub, Nat.reduceEqDiff, Nat.reduceLeDiff, Nat.reduceLT, Nat.reduceMul, Nat.reduceBEq, Nat.reduceBNe, Int.reduceToNat, Int.reduceLE, Int.reduceLT, allocX, setPs, extremeA, ints, resAll, rinfOk, packR, Tryz.ntmps44, Tryz.results44]
  refine call_fn rfl rfl rfl (ok84 ex r c (frs l)) ?_
  have e : (frs l).length = l.length := by simp
  rw [e]
  cases hr : right r c l.length with
  | false =>
    simp -implicitDefEqProofs only [rkA, stepA, valA, storeA, ldA, fieldAddrA, fieldA, idxAddrA, idxA, idxArr, lenA, unA, binA, num2, binV, eqA, rowOf, PV.cells, PV.cell, bndA, appA, reduceIte, reduceCtorEq, Nat.reduceAdd, Nat.reduceSub, Nat.reduceEqDiff, Nat.reduceLeDiff, Nat.reduceLT, Nat.reduceMul, Nat.reduceBEq, Nat.reduceBNe, Int.reduceToNat, Int.reduceLE, Int.reduceLT, allocX, setPs, extremeA, ints, resAll, rinfOk, packR]
    simp [atF, hr]
  | true =>
    obtain ⟨r1, r2, c1, c2, hn⟩ := right_spec hr
    simp -implicitDefEqProofs only [rkA, stepA, valA, storeA, ldA, fieldAddrA, fieldA, idxAddrA, idxA, idxArr, lenA, unA, binA, num2, binV, eqA, rowOf, PV.cells, PV.cell, bndA, appA, reduceIte, reduceCtorEq, Nat.reduceAdd, Nat.reduceSub, Nat.reduceEqDiff, Nat.reduceLeDiff, Nat.reduceLT, Nat.reduceMul, Nat.reduceBEq, Nat.reduceBNe, Int.reduceToNat, Int.reduceLE, Int.reduceLT, allocX, setPs, extremeA, ints, resAll, rinfOk, packR]
    repeat' (refine gB_dec ?_ ?_ <;> intro hc <;> first | (exfalso; omega) | simp -implicitDefEqProofs only [hc, rkA, stepA, valA, storeA, ldA, fieldAddrA, fieldA, idxAddrA, idxA, idxArr, lenA, unA, binA, num2, binV, eqA, rowOf, PV.cells, PV.cell, bndA, appA, reduceIte, reduceCtorEq, Nat.reduceAdd, Nat.reduceSub, Nat.reduceEqDiff, Nat.reduceLeDiff, Nat.reduceLT, Nat.reduceMul, Nat.reduceBEq, Nat.reduceBNe, Int.reduceToNat, Int.reduceLE, Int.reduceLT, allocX, setPs, extremeA, ints, resAll, rinfOk, packR])
    · rw [show atF r c l i k = ⟨0, 0, false⟩ from if_neg (fun ⟨_, _, _, _, _⟩ => by omega)]
    · rw [show atF r c l i k = ⟨0, 0, false⟩ from if_neg (fun ⟨_, _, _, _, _⟩ => by omega)]
    · rw [show atF r c l i k = ⟨0, 0, false⟩ from if_neg (fun ⟨_, _, _, _, _⟩ => by omega)]
    · rw [show atF r c l i k = ⟨0, 0, false⟩ from if_neg (fun ⟨_, _, _, _, _⟩ => by omega)]
    · obtain ⟨b1, b2, b3, b4, b5⟩ := at_bound (i := i) (k := k) r2 ⟨c1, c2⟩ (by omega) (by omega)
      have w1 := wrapped (x := i * c) (by omega) (by omega)
      have w2 := wrapped (x := i * c + k) (by omega) (by omega)
      have hlt : (i * c + k).toNat < l.length := by omega
      have hg : (frs l)[(i * c + k).toNat]? = some (frV l[(i * c + k).toNat]) := by simp [hlt]
      have ha : atF r c l i k = l[(i * c + k).toNat] := by
        unfold atF
        rw [if_pos ⟨hr, by omega, by omega, by omega, by omega⟩, List.getD_eq_getElem?_getD, List.getElem?_eq_getElem hlt]
        rfl
      simp -implicitDefEqProofs only [w1, w2, b2, hg, ha, rkA, stepA, valA, storeA, ldA, fieldAddrA, fieldA, idxAddrA, idxA, idxArr, lenA, unA, binA, num2, binV, eqA, rowOf, PV.cells, PV.cell, bndA, appA, reduceIte, reduceCtorEq, Nat.reduceAdd, Nat.reduceSub, Nat.reduceEqDiff, Nat.reduceLeDiff, Nat.reduceLT, Nat.reduceMul, Nat.reduceBEq, Nat.reduceBNe, Int.reduceToNat, Int.reduceLE, Int.reduceLT, allocX, setPs, extremeA, ints, resAll, rinfOk, packR]
end Go.Proofs.YtipchjfcjbghnaaGreat.A


set_option linter.unusedVariables false
set_option linter.unusedSimpArgs false
set_option maxRecDepth 100000
namespace Go.Proofs.YtipchjfcjbghnaaGreat.A
open Go Go.RowKit Go.Shelf

theorem methAdd : Meth Tryz.prog 66 "Add" 168 := by
  intro v xs w
  rfl
theorem methMul : Meth Tryz.prog 66 "Mul" 171 := by
  intro v xs w
  rfl

def sumF (l : List Fr) : Fr := l.foldl addF (newF 0 1)

theorem ok94 (ex : Bool) (l : List Fr) (h : l.length ≤ 5864062014805) : Ok Tryz.prog 94 [.sl ex (frs l)] (frV (sumF l)) := by
  refine ok_fn mixed Tryz.func94 (code := ?_) (h := h94) ?_ k94 ?_
  rotate_left
  · exact rfl
  unfold h94 initS
  simp -implicitDefEqProofs only [rkA, stepA, valA, storeA, ldA, fieldAddrA, fieldA, idxAddrA, idxA, idxArr, lenA, unA, binA, num2, binV, eqA, rowOf, PV.cells, PV.cell, bndA, appA, reduceIte, reduceCtorEq, Nat.reduceAdd, Nat.reduceSub, Nat.reduceEqDiff, Nat.reduceLeDiff, Nat.reduceLT, Nat.reduceMul, Nat.reduceBEq, Nat.reduceBNe, Int.reduceToNat, Int.reduceLE, Int.reduceLT, allocX, setPs, extremeA, ints, resAll, rinfOk, packR, Tryz.ntmps94, Tryz.results94]
  refine call_meth rfl rfl methOf (ok172 ⟨0, 0, false⟩ 0) ?_
  simp -implicitDefEqProofs only [rkA, stepA, valA, storeA, ldA, fieldAddrA, fieldA, idxAddrA, idxA, idxArr, lenA, unA, binA, num2, binV, eqA, rowOf, PV.cells, PV.cell, bndA, appA, reduceIte, reduceCtorEq, Nat.reduceAdd, Nat.reduceSub, Nat.reduceEqDiff, Nat.reduceLeDiff, Nat.reduceLT, Nat.reduceMul, Nat.reduceBEq, Nat.reduceBNe, Int.reduceToNat, Int.reduceLE, Int.reduceLT, allocX, setPs, extremeA, ints, resAll, rinfOk, packR]
  refine wp_loop (fun m s => ∃ i, i + m = l.length ∧ s = ⟨[jk, jk, .ptr 2 0, jk, .ptr 4 0, jk, jk, jk, jk, jk, .v (.sl ex (frs l)), nt l.length, nt i, jk, jk, jk, jk, jk, jk, jk, jk, jk],
    [(2, [nt 0, nt 0, .v (tru false)]), (3, [nt 0, nt 0, .v (tru false)]), (4, [nt (sumF (l.take i)).n, nt (sumF (l.take i)).d, .v (tru (sumF (l.take i)).bad)])], [], [], [], 0, nomem⟩) l.length ?_ ?_
  · simp -implicitDefEqProofs only [rkA, stepA, valA, storeA, ldA, fieldAddrA, fieldA, idxAddrA, idxA, idxArr, lenA, unA, binA, num2, binV, eqA, rowOf, PV.cells, PV.cell, bndA, appA, reduceIte, reduceCtorEq, Nat.reduceAdd, Nat.reduceSub, Nat.reduceEqDiff, Nat.reduceLeDiff, Nat.reduceLT, Nat.reduceMul, Nat.reduceBEq, Nat.reduceBNe, Int.reduceToNat, Int.reduceLE, Int.reduceLT, allocX, setPs, extremeA, ints, resAll, rinfOk, packR]
    refine ⟨0, by simp, ?_⟩
    simp [sumF]
  rintro m s ⟨i, hi, rfl⟩
  simp -implicitDefEqProofs only [rkA, stepA, valA, storeA, ldA, fieldAddrA, fieldA, idxAddrA, idxA, idxArr, lenA, unA, binA, num2, binV, eqA, rowOf, PV.cells, PV.cell, bndA, appA, reduceIte, reduceCtorEq, Nat.reduceAdd, Nat.reduceSub, Nat.reduceEqDiff, Nat.reduceLeDiff, Nat.reduceLT, Nat.reduceMul, Nat.reduceBEq, Nat.reduceBNe, Int.reduceToNat, Int.reduceLE, Int.reduceLT, allocX, setPs, extremeA, ints, resAll, rinfOk, packR]
  refine gB_dec ?_ ?_ <;> intro hc <;> simp -implicitDefEqProofs only [hc, rkA, stepA, valA, storeA, ldA, fieldAddrA, fieldA, idxAddrA, idxA, idxArr, lenA, unA, binA, num2, binV, eqA, rowOf, PV.cells, PV.cell, bndA, appA, reduceIte, reduceCtorEq, Nat.reduceAdd, Nat.reduceSub, Nat.reduceEqDiff, Nat.reduceLeDiff, Nat.reduceLT, Nat.reduceMul, Nat.reduceBEq, Nat.reduceBNe, Int.reduceToNat, Int.reduceLE, Int.reduceLT, allocX, setPs, extremeA, ints, resAll, rinfOk, packR]
  · have hlt : i < l.length := by omega
    have h0 : (0 : Int) ≤ (i : Int) := by omega
    have hg : (frs l)[i]? = some (frV l[i]) := by simp [hlt]
    simp -implicitDefEqProofs only [h0, Int.toNat_natCast, hg, rkA, stepA, valA, storeA, ldA, fieldAddrA, fieldA, idxAddrA, idxA, idxArr, lenA, unA, binA, num2, binV, eqA, rowOf, PV.cells, PV.cell, bndA, appA, reduceIte, reduceCtorEq, Nat.reduceAdd, Nat.reduceSub, Nat.reduceEqDiff, Nat.reduceLeDiff, Nat.reduceLT, Nat.reduceMul, Nat.reduceBEq, Nat.reduceBNe, Int.reduceToNat, Int.reduceLE, Int.reduceLT, allocX, setPs, extremeA, ints, resAll, rinfOk, packR]
    refine call_meth rfl rfl methAdd (ok168 (sumF (l.take i)) l[i]) ?_
    have hw := wrapped (x := (i : Int) + 1) (by omega) (by omega)
    simp -implicitDefEqProofs only [hw, rkA, stepA, valA, storeA, ldA, fieldAddrA, fieldA, idxAddrA, idxA, idxArr, lenA, unA, binA, num2, binV, eqA, rowOf, PV.cells, PV.cell, bndA, appA, reduceIte, reduceCtorEq, Nat.reduceAdd, Nat.reduceSub, Nat.reduceEqDiff, Nat.reduceLeDiff, Nat.reduceLT, Nat.reduceMul, Nat.reduceBEq, Nat.reduceBNe, Int.reduceToNat, Int.reduceLE, Int.reduceLT, allocX, setPs, extremeA, ints, resAll, rinfOk, packR]
    refine loopK_of (m' := m - 1) (by omega) ?_
    simp -implicitDefEqProofs only [rkA, stepA, valA, storeA, ldA, fieldAddrA, fieldA, idxAddrA, idxA, idxArr, lenA, unA, binA, num2, binV, eqA, rowOf, PV.cells, PV.cell, bndA, appA, reduceIte, reduceCtorEq, Nat.reduceAdd, Nat.reduceSub, Nat.reduceEqDiff, Nat.reduceLeDiff, Nat.reduceLT, Nat.reduceMul, Nat.reduceBEq, Nat.reduceBNe, Int.reduceToNat, Int.reduceLE, Int.reduceLT, allocX, setPs, extremeA, ints, resAll, rinfOk, packR]
    refine ⟨i + 1, by omega, ?_⟩
    have e : sumF (l.take (i + 1)) = addF (sumF (l.take i)) l[i] := by
      unfold sumF
      rw [List.take_succ_eq_append_getElem hlt, List.foldl_append]
      rfl
    rw [e]
    simp only [Int.natCast_add, Int.natCast_one]
  · have : l.length ≤ i := by omega
    rw [List.take_of_length_le this]

theorem ok96 (a b : Fr) : Ok Tryz.prog 96 [frV a, frV b] (frV (mulF a b)) := by
  refine ok_fn mixed Tryz.func96 (code := ?_) (h := h96) ?_ k96 ?_
  rotate_left
  · exact rfl
  unfold h96 initS
  simp -implicitDefEqProofs only [rkA, stepA, valA, storeA, ldA, fieldAddrA, fieldA, idxAddrA, idxA, idxArr, lenA, unA, binA, num2, binV, eqA, rowOf, PV.cells, PV.cell, bndA, appA, reduceIte, reduceCtorEq, Nat.reduceAdd, Nat.reduceSub, Nat.reduceEqDiff, Nat.reduceLeDiff, Nat.reduceLT, Nat.reduceMul, Nat.reduceBEq, Nat.reduceBNe, Int.reduceToNat, Int.reduceLE, Int.reduceLT, allocX, setPs, extremeA, ints, resAll, rinfOk, packR, Tryz.ntmps96, Tryz.results96]
  refine call_meth rfl rfl methMul (ok171 a b) ?_
  simp -implicitDefEqProofs only [rkA, stepA, valA, storeA, ldA, fieldAddrA, fieldA, idxAddrA, idxA, idxArr, lenA, unA, binA, num2, binV, eqA, rowOf, PV.cells, PV.cell, bndA, appA, reduceIte, reduceCtorEq, Nat.reduceAdd, Nat.reduceSub, Nat.reduceEqDiff, Nat.reduceLeDiff, Nat.reduceLT, Nat.reduceMul, Nat.reduceBEq, Nat.reduceBNe, Int.reduceToNat, Int.reduceLE, Int.reduceLT, allocX, setPs, extremeA, ints, resAll, rinfOk, packR]

theorem sl_frs {ex : Bool} {l : List Fr} {a b : Nat} (h1 : a ≤ b) (h2 : b ≤ l.length) : sliceA 3 (frs l) ex (some a) (some b) none = some (.sl (exA none ex b (frs l).length) (frs ((l.take b).drop a))) := by
  unfold sliceA
  simp only [Option.getD_some]
  rw [if_pos ⟨h1, by simpa using h2, by simp, by simp [PV.cells]⟩]
  simp

/-- A row. -/
def rowF (r c : Int) (l : List Fr) (i : Int) : List Fr := if right r c l.length = true ∧ 0 ≤ i ∧ i < r then (l.take ((i + 1) * c).toNat).drop (i * c).toNat else []

theorem ok120 (ex : Bool) (r c i : Int) (l : List Fr) : Ok Tryz.prog 120 [matV ex r c (frs l), num i] (.sl false (frs (rowF r c l i))) := by
  refine ok_fn mixed Tryz.func120 (code := ?_) (h := h120) ?_ k120 ?_
  rotate_left
  · exact rfl
  unfold h120 initS
  simp -implicitDefEqProofs only [rkA, stepA, valA, storeA, ldA, fieldAddrA, fieldA, idxAddrA, idxA, idxArr, lenA, unA, binA, num2, binV, eqA, rowOf, PV.cells, PV.cell, bndA, appA, reduceIte, reduceCtorEq, Nat.reduceAdd, Nat.reduceSub, Nat.reduceEqDiff, Nat.reduceLeDiff, Nat.reduceLT, Nat.reduceMul, Nat.reduceBEq, Nat.reduceBNe, Int.reduceToNat, Int.reduceLE, Int.reduceLT, allocX, setPs, extremeA, ints, resAll, rinfOk, packR, Tryz.ntmps120, Tryz.results120]
  refine call_fn rfl rfl rfl (ok84 ex r c (frs l)) ?_
  have e : (frs l).length = l.length := by simp
  rw [e]
  cases hr : right r c l.length with
  | false =>
    simp -implicitDefEqProofs only [rkA, stepA, valA, storeA, ldA, fieldAddrA, fieldA, idxAddrA, idxA, idxArr, lenA, unA, binA, num2, binV, eqA, rowOf, PV.cells, PV.cell, bndA, appA, reduceIte, reduceCtorEq, Nat.reduceAdd, Nat.reduceSub, Nat.reduceEqDiff, Nat.reduceLeDiff, Nat.reduceLT, Nat.reduceMul, Nat.reduceBEq, Nat.reduceBNe, Int.reduceToNat, Int.reduceLE, Int.reduceLT, allocX, setPs, extremeA, ints, resAll, rinfOk, packR]
    simp [rowF, hr]
  | true =>
    obtain ⟨r1, r2, c1, c2, hn⟩ := right_spec hr
    simp -implicitDefEqProofs only [rkA, stepA, valA, storeA, ldA, fieldAddrA, fieldA, idxAddrA, idxA, idxArr, lenA, unA, binA, num2, binV, eqA, rowOf, PV.cells, PV.cell, bndA, appA, reduceIte, reduceCtorEq, Nat.reduceAdd, Nat.reduceSub, Nat.reduceEqDiff, Nat.reduceLeDiff, Nat.reduceLT, Nat.reduceMul, Nat.reduceBEq, Nat.reduceBNe, Int.reduceToNat, Int.reduceLE, Int.reduceLT, allocX, setPs, extremeA, ints, resAll, rinfOk, packR]
    repeat' (refine gB_dec ?_ ?_ <;> intro hc <;> first | (exfalso; omega) | simp -implicitDefEqProofs only [hc, rkA, stepA, valA, storeA, ldA, fieldAddrA, fieldA, idxAddrA, idxA, idxArr, lenA, unA, binA, num2, binV, eqA, rowOf, PV.cells, PV.cell, bndA, appA, reduceIte, reduceCtorEq, Nat.reduceAdd, Nat.reduceSub, Nat.reduceEqDiff, Nat.reduceLeDiff, Nat.reduceLT, Nat.reduceMul, Nat.reduceBEq, Nat.reduceBNe, Int.reduceToNat, Int.reduceLE, Int.reduceLT, allocX, setPs, extremeA, ints, resAll, rinfOk, packR])
    · rw [show rowF r c l i = [] from if_neg (fun ⟨_, _, _⟩ => by omega)]; rfl
    · rw [show rowF r c l i = [] from if_neg (fun ⟨_, _, _⟩ => by omega)]; rfl
    · obtain ⟨b1, b2, b3, b4, b5⟩ := at_bound (i := i) (k := 0) r2 ⟨c1, c2⟩ (by omega) (by omega)
      have b6 : (i + 1) * c = i * c + c := by rw [Int.add_mul, Int.one_mul]
      have b7 : (i + 1) * c ≤ r * c := Int.mul_le_mul_of_nonneg_right (by omega) (by omega)
      have w1 := wrapped (x := i * c) (by omega) (by omega)
      have w2 := wrapped (x := i + 1) (by omega) (by omega)
      have w3 := wrapped (x := (i + 1) * c) (by omega) (by omega)
      have h3 : 0 ≤ (i + 1) * c := by omega
      have hs := sl_frs (ex := ex) (l := l) (a := (i * c).toNat) (b := ((i + 1) * c).toNat) (by omega) (by omega)
      have hrow : rowF r c l i = (l.take ((i + 1) * c).toNat).drop (i * c).toNat := if_pos ⟨hr, by omega, by omega⟩
      rw [hrow]
      simp -implicitDefEqProofs only [w1, w2, w3, b1, h3, hs, rkA, stepA, valA, storeA, ldA, fieldAddrA, fieldA, idxAddrA, idxA, idxArr, lenA, unA, binA, num2, binV, eqA, rowOf, PV.cells, PV.cell, bndA, appA, reduceIte, reduceCtorEq, Nat.reduceAdd, Nat.reduceSub, Nat.reduceEqDiff, Nat.reduceLeDiff, Nat.reduceLT, Nat.reduceMul, Nat.reduceBEq, Nat.reduceBNe, Int.reduceToNat, Int.reduceLE, Int.reduceLT, allocX, setPs, extremeA, ints, resAll, rinfOk, packR]
      refine call_fn rfl rfl rfl (ok83 _ _ (by simp; omega)) ?_
      simp -implicitDefEqProofs only [rkA, stepA, valA, storeA, ldA, fieldAddrA, fieldA, idxAddrA, idxA, idxArr, lenA, unA, binA, num2, binV, eqA, rowOf, PV.cells, PV.cell, bndA, appA, reduceIte, reduceCtorEq, Nat.reduceAdd, Nat.reduceSub, Nat.reduceEqDiff, Nat.reduceLeDiff, Nat.reduceLT, Nat.reduceMul, Nat.reduceBEq, Nat.reduceBNe, Int.reduceToNat, Int.reduceLE, Int.reduceLT, allocX, setPs, extremeA, ints, resAll, rinfOk, packR]
end Go.Proofs.YtipchjfcjbghnaaGreat.A


set_option linter.unusedVariables false
set_option linter.unusedSimpArgs false
set_option maxRecDepth 100000
namespace Go.Proofs.YtipchjfcjbghnaaGreat.A
open Go Go.RowKit Go.Shelf

def rowsF (r c : Int) (l : List Fr) : List (List PV) := if right r c l.length = true then (List.range r.toNat).map fun (i : Nat) => [num (i : Int), .sl false (frs (rowF r c l (i : Int)))] else []

theorem it119 (ex : Bool) (r c : Int) (l : List Fr) : IterOk Tryz.prog (.fn (.func 119) [.vp [num r, num c, .sl ex (frs l)]]) (rowsF r c l) := by
  refine iter_fn mixed Tryz.func119 (code := ?_) (h := h119) ?_ k119 ?_ ?_
  rotate_left
  · exact rfl
  · exact rfl
  intro yl
  unfold h119 initS
  simp -implicitDefEqProofs only [rkA, stepA, valA, storeA, ldA, fieldAddrA, fieldA, idxAddrA, idxA, idxArr, lenA, unA, binA, num2, binV, eqA, rowOf, PV.cells, PV.cell, bndA, appA, reduceIte, reduceCtorEq, Nat.reduceAdd, Nat.reduceSub, Nat.reduceEqDiff, Nat.reduceLeDiff, Nat.reduceLT, Nat.reduceMul, Nat.reduceBEq, Nat.reduceBNe, Int.reduceToNat, Int.reduceLE, Int.reduceLT, allocX, setPs, extremeA, ints, resAll, rinfOk, packR, Tryz.ntmps119]
  refine wp_loop (fun m s => ∃ i : Nat, i + m = (rowsF r c l).length ∧ s = ⟨[.v (.fn (.yield yl) []), .v (.vp [num r, num c, .sl ex (frs l)]), jk, nt i, jk, jk, jk, jk, jk, jk, jk, jk, jk, jk, jk, jk, jk, jk, jk, jk, jk], [], [], [], [], i, nomem⟩) (rowsF r c l).length ?_ ?_
  · simp -implicitDefEqProofs only [rkA, stepA, valA, storeA, ldA, fieldAddrA, fieldA, idxAddrA, idxA, idxArr, lenA, unA, binA, num2, binV, eqA, rowOf, PV.cells, PV.cell, bndA, appA, reduceIte, reduceCtorEq, Nat.reduceAdd, Nat.reduceSub, Nat.reduceEqDiff, Nat.reduceLeDiff, Nat.reduceLT, Nat.reduceMul, Nat.reduceBEq, Nat.reduceBNe, Int.reduceToNat, Int.reduceLE, Int.reduceLT, allocX, setPs, extremeA, ints, resAll, rinfOk, packR]
    exact ⟨0, by simp, rfl⟩
  rintro m s ⟨i, hi, rfl⟩
  simp -implicitDefEqProofs only [rkA, stepA, valA, storeA, ldA, fieldAddrA, fieldA, idxAddrA, idxA, idxArr, lenA, unA, binA, num2, binV, eqA, rowOf, PV.cells, PV.cell, bndA, appA, reduceIte, reduceCtorEq, Nat.reduceAdd, Nat.reduceSub, Nat.reduceEqDiff, Nat.reduceLeDiff, Nat.reduceLT, Nat.reduceMul, Nat.reduceBEq, Nat.reduceBNe, Int.reduceToNat, Int.reduceLE, Int.reduceLT, allocX, setPs, extremeA, ints, resAll, rinfOk, packR]
  refine call_fn rfl rfl rfl (ok84 ex r c (frs l)) ?_
  have e : (frs l).length = l.length := by simp
  rw [e]
  cases hr : right r c l.length with
  | false =>
    simp -implicitDefEqProofs only [rkA, stepA, valA, storeA, ldA, fieldAddrA, fieldA, idxAddrA, idxA, idxArr, lenA, unA, binA, num2, binV, eqA, rowOf, PV.cells, PV.cell, bndA, appA, reduceIte, reduceCtorEq, Nat.reduceAdd, Nat.reduceSub, Nat.reduceEqDiff, Nat.reduceLeDiff, Nat.reduceLT, Nat.reduceMul, Nat.reduceBEq, Nat.reduceBNe, Int.reduceToNat, Int.reduceLE, Int.reduceLT, allocX, setPs, extremeA, ints, resAll, rinfOk, packR]
    have hl : (rowsF r c l).length = 0 := by simp [rowsF, hr]
    omega
  | true =>
    obtain ⟨r1, r2, c1, c2, hn⟩ := right_spec hr
    have hl : (rowsF r c l).length = r.toNat := by simp [rowsF, hr]
    simp -implicitDefEqProofs only [rkA, stepA, valA, storeA, ldA, fieldAddrA, fieldA, idxAddrA, idxA, idxArr, lenA, unA, binA, num2, binV, eqA, rowOf, PV.cells, PV.cell, bndA, appA, reduceIte, reduceCtorEq, Nat.reduceAdd, Nat.reduceSub, Nat.reduceEqDiff, Nat.reduceLeDiff, Nat.reduceLT, Nat.reduceMul, Nat.reduceBEq, Nat.reduceBNe, Int.reduceToNat, Int.reduceLE, Int.reduceLT, allocX, setPs, extremeA, ints, resAll, rinfOk, packR]
    refine gB_dec ?_ ?_ <;> intro hc <;> simp -implicitDefEqProofs only [hc, rkA, stepA, valA, storeA, ldA, fieldAddrA, fieldA, idxAddrA, idxA, idxArr, lenA, unA, binA, num2, binV, eqA, rowOf, PV.cells, PV.cell, bndA, appA, reduceIte, reduceCtorEq, Nat.reduceAdd, Nat.reduceSub, Nat.reduceEqDiff, Nat.reduceLeDiff, Nat.reduceLT, Nat.reduceMul, Nat.reduceBEq, Nat.reduceBNe, Int.reduceToNat, Int.reduceLE, Int.reduceLT, allocX, setPs, extremeA, ints, resAll, rinfOk, packR]
    · refine call_fn rfl rfl rfl (ok120 ex r c i l) ?_
      simp -implicitDefEqProofs only [rkA, stepA, valA, storeA, ldA, fieldAddrA, fieldA, idxAddrA, idxA, idxArr, lenA, unA, binA, num2, binV, eqA, rowOf, PV.cells, PV.cell, bndA, appA, reduceIte, reduceCtorEq, Nat.reduceAdd, Nat.reduceSub, Nat.reduceEqDiff, Nat.reduceLeDiff, Nat.reduceLT, Nat.reduceMul, Nat.reduceBEq, Nat.reduceBNe, Int.reduceToNat, Int.reduceLE, Int.reduceLT, allocX, setPs, extremeA, ints, resAll, rinfOk, packR]
      have hx : (rowsF r c l)[i]? = some [num (i : Int), .sl false (frs (rowF r c l i))] := by
        have : i < r.toNat := by omega
        simp [rowsF, hr, this]
      have hw := wrapped (x := (i : Int) + 1) (by omega) (by omega)
      refine call_yield rfl rfl rfl rfl rfl hx ?_ ?_
      · simp -implicitDefEqProofs only [hw, rkA, stepA, valA, storeA, ldA, fieldAddrA, fieldA, idxAddrA, idxA, idxArr, lenA, unA, binA, num2, binV, eqA, rowOf, PV.cells, PV.cell, bndA, appA, reduceIte, reduceCtorEq, Nat.reduceAdd, Nat.reduceSub, Nat.reduceEqDiff, Nat.reduceLeDiff, Nat.reduceLT, Nat.reduceMul, Nat.reduceBEq, Nat.reduceBNe, Int.reduceToNat, Int.reduceLE, Int.reduceLT, allocX, setPs, extremeA, ints, resAll, rinfOk, packR]
        refine loopK_of (m' := m - 1) (by omega) ?_
        simp -implicitDefEqProofs only [rkA, stepA, valA, storeA, ldA, fieldAddrA, fieldA, idxAddrA, idxA, idxArr, lenA, unA, binA, num2, binV, eqA, rowOf, PV.cells, PV.cell, bndA, appA, reduceIte, reduceCtorEq, Nat.reduceAdd, Nat.reduceSub, Nat.reduceEqDiff, Nat.reduceLeDiff, Nat.reduceLT, Nat.reduceMul, Nat.reduceBEq, Nat.reduceBNe, Int.reduceToNat, Int.reduceLE, Int.reduceLT, allocX, setPs, extremeA, ints, resAll, rinfOk, packR]
        exact ⟨i + 1, by omega, by simp only [Int.natCast_add, Int.natCast_one]⟩
      · simp -implicitDefEqProofs only [rkA, stepA, valA, storeA, ldA, fieldAddrA, fieldA, idxAddrA, idxA, idxArr, lenA, unA, binA, num2, binV, eqA, rowOf, PV.cells, PV.cell, bndA, appA, reduceIte, reduceCtorEq, Nat.reduceAdd, Nat.reduceSub, Nat.reduceEqDiff, Nat.reduceLeDiff, Nat.reduceLT, Nat.reduceMul, Nat.reduceBEq, Nat.reduceBNe, Int.reduceToNat, Int.reduceLE, Int.reduceLT, allocX, setPs, extremeA, ints, resAll, rinfOk, packR]
        exact .inr trivial
    · omega

theorem ok92 (ex : Bool) (r c : Int) (l : List Fr) : Ok Tryz.prog 92 [matV ex r c (frs l)] (.fn (.func 119) [.vp [num r, num c, .sl ex (frs l)]]) := by
  refine ok_fn mixed Tryz.func92 (code := ?_) (h := h92) ?_ k92 ?_
  rotate_left
  · exact rfl
  unfold h92 initS
  simp -implicitDefEqProofs only [rkA, stepA, valA, storeA, ldA, fieldAddrA, fieldA, idxAddrA, idxA, idxArr, lenA, unA, binA, num2, binV, eqA, rowOf, PV.cells, PV.cell, bndA, appA, reduceIte, reduceCtorEq, Nat.reduceAdd, Nat.reduceSub, Nat.reduceEqDiff, Nat.reduceLeDiff, Nat.reduceLT, Nat.reduceMul, Nat.reduceBEq, Nat.reduceBNe, Int.reduceToNat, Int.reduceLE, Int.reduceLT, allocX, setPs, extremeA, ints, resAll, rinfOk, packR, Tryz.ntmps92, Tryz.results92]

/-! ### Pairs -/
def pairsF (a b : List Fr) : List (List PV) := (List.zip a b).map fun p => [frV p.1, frV p.2]

theorem it133 (ea eb : Bool) (a b : List Fr) (ha : a.length ≤ 5864062014805) (hb : b.length ≤ 5864062014805) : IterOk Tryz.prog (.fn (.func 133) [.vp [.sl ea (frs a)], .vp [.sl eb (frs b)]]) (pairsF a b) := by
  refine iter_fn mixed Tryz.func133 (code := ?_) (h := h133) ?_ k133 ?_ ?_
  rotate_left
  · exact rfl
  · exact rfl
  intro yl
  unfold h133 initS
  simp -implicitDefEqProofs only [rkA, stepA, valA, storeA, ldA, fieldAddrA, fieldA, idxAddrA, idxA, idxArr, lenA, unA, binA, num2, binV, eqA, rowOf, PV.cells, PV.cell, bndA, appA, reduceIte, reduceCtorEq, Nat.reduceAdd, Nat.reduceSub, Nat.reduceEqDiff, Nat.reduceLeDiff, Nat.reduceLT, Nat.reduceMul, Nat.reduceBEq, Nat.reduceBNe, Int.reduceToNat, Int.reduceLE, Int.reduceLT, allocX, setPs, extremeA, ints, resAll, rinfOk, packR, Tryz.ntmps133]
  have hl : (pairsF a b).length = min a.length b.length := by simp [pairsF]
  have hx0 : ∀ (i : Nat) (ha : i < a.length) (hb : i < b.length), (pairsF a b)[i]? = some [frV a[i], frV b[i]] := fun i h1 h2 => by
    rw [pairsF, List.getElem?_map, List.getElem?_eq_getElem (by simp; omega), Option.map_some, List.getElem_zip]
  have hmin : (if ((frs b).length : Int) < ((frs a).length : Int) then ((frs b).length : Int) else ((frs a).length : Int)) = ((min a.length b.length : Nat) : Int) := by
    simp only [List.length_map]
    split <;> omega
  simp only [hmin]
  refine wp_loop (fun m s => ∃ i : Nat, i + m = (pairsF a b).length ∧ s = ⟨[.v (.fn (.yield yl) []), .v (.vp [.sl ea (frs a)]), .v (.vp [.sl eb (frs b)]), jk, jk, jk, jk, jk, jk, nt ((min a.length b.length : Nat) : Int), nt i, jk, jk, jk, jk, jk, jk, jk, jk, jk, jk, jk, jk, jk, jk], [], [], [], [], i, nomem⟩) (pairsF a b).length ?_ ?_
  · simp -implicitDefEqProofs only [rkA, stepA, valA, storeA, ldA, fieldAddrA, fieldA, idxAddrA, idxA, idxArr, lenA, unA, binA, num2, binV, eqA, rowOf, PV.cells, PV.cell, bndA, appA, reduceIte, reduceCtorEq, Nat.reduceAdd, Nat.reduceSub, Nat.reduceEqDiff, Nat.reduceLeDiff, Nat.reduceLT, Nat.reduceMul, Nat.reduceBEq, Nat.reduceBNe, Int.reduceToNat, Int.reduceLE, Int.reduceLT, allocX, setPs, extremeA, ints, resAll, rinfOk, packR]
    exact ⟨0, by simp, rfl⟩
  rintro m s ⟨i, hi, rfl⟩
  simp -implicitDefEqProofs only [rkA, stepA, valA, storeA, ldA, fieldAddrA, fieldA, idxAddrA, idxA, idxArr, lenA, unA, binA, num2, binV, eqA, rowOf, PV.cells, PV.cell, bndA, appA, reduceIte, reduceCtorEq, Nat.reduceAdd, Nat.reduceSub, Nat.reduceEqDiff, Nat.reduceLeDiff, Nat.reduceLT, Nat.reduceMul, Nat.reduceBEq, Nat.reduceBNe, Int.reduceToNat, Int.reduceLE, Int.reduceLT, allocX, setPs, extremeA, ints, resAll, rinfOk, packR]
  refine gB_dec ?_ ?_ <;> intro hc <;> simp -implicitDefEqProofs only [hc, rkA, stepA, valA, storeA, ldA, fieldAddrA, fieldA, idxAddrA, idxA, idxArr, lenA, unA, binA, num2, binV, eqA, rowOf, PV.cells, PV.cell, bndA, appA, reduceIte, reduceCtorEq, Nat.reduceAdd, Nat.reduceSub, Nat.reduceEqDiff, Nat.reduceLeDiff, Nat.reduceLT, Nat.reduceMul, Nat.reduceBEq, Nat.reduceBNe, Int.reduceToNat, Int.reduceLE, Int.reduceLT, allocX, setPs, extremeA, ints, resAll, rinfOk, packR]
  · have h1 : i < a.length := by omega
    have h2 : i < b.length := by omega
    have h0 : (0 : Int) ≤ (i : Int) := by omega
    have g1 : (frs a)[i]? = some (frV a[i]) := by simp [h1]
    have g2 : (frs b)[i]? = some (frV b[i]) := by simp [h2]
    simp -implicitDefEqProofs only [h0, Int.toNat_natCast, g1, g2, rkA, stepA, valA, storeA, ldA, fieldAddrA, fieldA, idxAddrA, idxA, idxArr, lenA, unA, binA, num2, binV, eqA, rowOf, PV.cells, PV.cell, bndA, appA, reduceIte, reduceCtorEq, Nat.reduceAdd, Nat.reduceSub, Nat.reduceEqDiff, Nat.reduceLeDiff, Nat.reduceLT, Nat.reduceMul, Nat.reduceBEq, Nat.reduceBNe, Int.reduceToNat, Int.reduceLE, Int.reduceLT, allocX, setPs, extremeA, ints, resAll, rinfOk, packR]
    have hw := wrapped (x := (i : Int) + 1) (by omega) (by omega)
    refine call_yield rfl rfl rfl rfl rfl (hx0 i h1 h2) ?_ ?_
    · simp -implicitDefEqProofs only [hw, rkA, stepA, valA, storeA, ldA, fieldAddrA, fieldA, idxAddrA, idxA, idxArr, lenA, unA, binA, num2, binV, eqA, rowOf, PV.cells, PV.cell, bndA, appA, reduceIte, reduceCtorEq, Nat.reduceAdd, Nat.reduceSub, Nat.reduceEqDiff, Nat.reduceLeDiff, Nat.reduceLT, Nat.reduceMul, Nat.reduceBEq, Nat.reduceBNe, Int.reduceToNat, Int.reduceLE, Int.reduceLT, allocX, setPs, extremeA, ints, resAll, rinfOk, packR]
      refine loopK_of (m' := m - 1) (by omega) ?_
      simp -implicitDefEqProofs only [rkA, stepA, valA, storeA, ldA, fieldAddrA, fieldA, idxAddrA, idxA, idxArr, lenA, unA, binA, num2, binV, eqA, rowOf, PV.cells, PV.cell, bndA, appA, reduceIte, reduceCtorEq, Nat.reduceAdd, Nat.reduceSub, Nat.reduceEqDiff, Nat.reduceLeDiff, Nat.reduceLT, Nat.reduceMul, Nat.reduceBEq, Nat.reduceBNe, Int.reduceToNat, Int.reduceLE, Int.reduceLT, allocX, setPs, extremeA, ints, resAll, rinfOk, packR]
      exact ⟨i + 1, by omega, by simp only [Int.natCast_add, Int.natCast_one]⟩
    · simp -implicitDefEqProofs only [rkA, stepA, valA, storeA, ldA, fieldAddrA, fieldA, idxAddrA, idxA, idxArr, lenA, unA, binA, num2, binV, eqA, rowOf, PV.cells, PV.cell, bndA, appA, reduceIte, reduceCtorEq, Nat.reduceAdd, Nat.reduceSub, Nat.reduceEqDiff, Nat.reduceLeDiff, Nat.reduceLT, Nat.reduceMul, Nat.reduceBEq, Nat.reduceBNe, Int.reduceToNat, Int.reduceLE, Int.reduceLT, allocX, setPs, extremeA, ints, resAll, rinfOk, packR]
      exact .inr trivial
  · omega

theorem ok121 (ea eb : Bool) (a b : List Fr) : Ok Tryz.prog 121 [.sl ea (frs a), .sl eb (frs b)] (.fn (.func 133) [.vp [.sl ea (frs a)], .vp [.sl eb (frs b)]]) := by
  refine ok_fn mixed Tryz.func121 (code := ?_) (h := h121) ?_ k121 ?_
  rotate_left
  · exact rfl
  unfold h121 initS
  simp -implicitDefEqProofs only [rkA, stepA, valA, storeA, ldA, fieldAddrA, fieldA, idxAddrA, idxA, idxArr, lenA, unA, binA, num2, binV, eqA, rowOf, PV.cells, PV.cell, bndA, appA, reduceIte, reduceCtorEq, Nat.reduceAdd, Nat.reduceSub, Nat.reduceEqDiff, Nat.reduceLeDiff, Nat.reduceLT, Nat.reduceMul, Nat.reduceBEq, Nat.reduceBNe, Int.reduceToNat, Int.reduceLE, Int.reduceLT, allocX, setPs, extremeA, ints, resAll, rinfOk, packR, Tryz.ntmps121, Tryz.results121]
end Go.Proofs.YtipchjfcjbghnaaGreat.A


set_option linter.unusedVariables false
set_option linter.unusedSimpArgs false
set_option maxRecDepth 100000
namespace Go.Proofs.YtipchjfcjbghnaaGreat.A
open Go Go.RowKit Go.Shelf

theorem ok95 (k : Nat) (F : Fr → Fr → Fr) (hF : ∀ x y, Ok Tryz.prog k [frV x, frV y] (frV (F x y))) (ea eb : Bool) (a b : List Fr) (ha : a.length ≤ 5864062014805) (hb : b.length ≤ 5864062014805) :
    Ok Tryz.prog 95 [.sl ea (frs a), .sl eb (frs b), .fn (.func k) []] (.sl false (frs (List.zipWith F a b))) := by
  refine ok_fn mixed Tryz.func95 (code := ?_) (h := h95) ?_ k95 ?_
  rotate_left
  · exact rfl
  unfold h95 initS
  simp -implicitDefEqProofs only [rkA, stepA, valA, storeA, ldA, fieldAddrA, fieldA, idxAddrA, idxA, idxArr, lenA, unA, binA, num2, binV, eqA, rowOf, PV.cells, PV.cell, bndA, appA, reduceIte, reduceCtorEq, Nat.reduceAdd, Nat.reduceSub, Nat.reduceEqDiff, Nat.reduceLeDiff, Nat.reduceLT, Nat.reduceMul, Nat.reduceBEq, Nat.reduceBNe, Int.reduceToNat, Int.reduceLE, Int.reduceLT, allocX, setPs, extremeA, ints, resAll, rinfOk, packR, Tryz.ntmps95, Tryz.results95]
  refine call_fn rfl rfl rfl (ok121 ea eb a b) ?_
  simp -implicitDefEqProofs only [rkA, stepA, valA, storeA, ldA, fieldAddrA, fieldA, idxAddrA, idxA, idxArr, lenA, unA, binA, num2, binV, eqA, rowOf, PV.cells, PV.cell, bndA, appA, reduceIte, reduceCtorEq, Nat.reduceAdd, Nat.reduceSub, Nat.reduceEqDiff, Nat.reduceLeDiff, Nat.reduceLT, Nat.reduceMul, Nat.reduceBEq, Nat.reduceBNe, Int.reduceToNat, Int.reduceLE, Int.reduceLT, allocX, setPs, extremeA, ints, resAll, rinfOk, packR]
  have hlz : (List.zipWith F a b).length = min a.length b.length := by simp
  have hpl : (pairsF a b).length = min a.length b.length := by simp [pairsF]
  refine wp_rf (items := pairsF a b) rfl (it133 ea eb a b ha hb) (fun i s => i ≤ (pairsF a b).length ∧ s = ⟨[], [(5, [.v (.fn (.func k) [])]), (7, [.acc 1007 (frs ((List.zipWith F a b).take i))])], [], [(6, 0), (1007, i)],
    [[.v (.sl ea (frs a)), .v (.sl eb (frs b)), .v (.fn (.func k) []), jk, jk, .ptr 5 0, .acc 6 [], .ptr 7 0, jk, jk, .v (.sl ea (frs a)), .v (.sl eb (frs b)), .v (.fn (.func 133) [.vp [.sl ea (frs a)], .vp [.sl eb (frs b)]]), jk, jk, jk, jk, jk, jk, jk, jk, jk, jk]], 0, nomem⟩) ?_ ?_ ?_
  · simp -implicitDefEqProofs only [rkA, stepA, valA, storeA, ldA, fieldAddrA, fieldA, idxAddrA, idxA, idxArr, lenA, unA, binA, num2, binV, eqA, rowOf, PV.cells, PV.cell, bndA, appA, reduceIte, reduceCtorEq, Nat.reduceAdd, Nat.reduceSub, Nat.reduceEqDiff, Nat.reduceLeDiff, Nat.reduceLT, Nat.reduceMul, Nat.reduceBEq, Nat.reduceBNe, Int.reduceToNat, Int.reduceLE, Int.reduceLT, allocX, setPs, extremeA, ints, resAll, rinfOk, packR]
    exact Nat.zero_le _
  · rintro i x' s' R hx ⟨hi, rfl⟩ hR
    have hlt : i < (pairsF a b).length := (List.getElem?_eq_some_iff.1 hx).1
    have h1 : i < a.length := by omega
    have h2 : i < b.length := by omega
    have hx' : x' = [frV a[i], frV b[i]] := by
      rw [pairsF, List.getElem?_map, List.getElem?_eq_getElem (by simp; omega), Option.map_some, List.getElem_zip] at hx
      exact (Option.some.inj hx).symm
    subst hx'
    refine ⟨rfl, ?_⟩
    simp -implicitDefEqProofs only [rkA, stepA, valA, storeA, ldA, fieldAddrA, fieldA, idxAddrA, idxA, idxArr, lenA, unA, binA, num2, binV, eqA, rowOf, PV.cells, PV.cell, bndA, appA, reduceIte, reduceCtorEq, Nat.reduceAdd, Nat.reduceSub, Nat.reduceEqDiff, Nat.reduceLeDiff, Nat.reduceLT, Nat.reduceMul, Nat.reduceBEq, Nat.reduceBNe, Int.reduceToNat, Int.reduceLE, Int.reduceLT, allocX, setPs, extremeA, ints, resAll, rinfOk, packR]
    refine call_fn rfl rfl rfl (hF a[i] b[i]) ?_
    have hfit : fits 3 24 (frs ((List.zipWith F a b).take i)) [frV (F a[i] b[i])] = true := fits_frs (l := [F a[i] b[i]]) (by simp; omega)
    have hl : (frs ((List.zipWith F a b).take i)).length = i := by simp; omega
    simp -implicitDefEqProofs only [hfit, hl, rkA, stepA, valA, storeA, ldA, fieldAddrA, fieldA, idxAddrA, idxA, idxArr, lenA, unA, binA, num2, binV, eqA, rowOf, PV.cells, PV.cell, bndA, appA, reduceIte, reduceCtorEq, Nat.reduceAdd, Nat.reduceSub, Nat.reduceEqDiff, Nat.reduceLeDiff, Nat.reduceLT, Nat.reduceMul, Nat.reduceBEq, Nat.reduceBNe, Int.reduceToNat, Int.reduceLE, Int.reduceLT, allocX, setPs, extremeA, ints, resAll, rinfOk, packR]
    refine hR _ ⟨by omega, ?_⟩
    rw [List.take_succ_eq_append_getElem (by simp; omega)]
    simp only [frs, List.map_append, List.map_cons, List.map_nil, List.getElem_zipWith]
  · rintro s' ⟨hi, rfl⟩
    simp -implicitDefEqProofs only [rkA, stepA, valA, storeA, ldA, fieldAddrA, fieldA, idxAddrA, idxA, idxArr, lenA, unA, binA, num2, binV, eqA, rowOf, PV.cells, PV.cell, bndA, appA, reduceIte, reduceCtorEq, Nat.reduceAdd, Nat.reduceSub, Nat.reduceEqDiff, Nat.reduceLeDiff, Nat.reduceLT, Nat.reduceMul, Nat.reduceBEq, Nat.reduceBNe, Int.reduceToNat, Int.reduceLE, Int.reduceLT, allocX, setPs, extremeA, ints, resAll, rinfOk, packR]
    rw [List.take_of_length_le (by simp; omega)]

def dotF (a b : List Fr) : Fr := sumF (List.zipWith mulF a b)

theorem ok64 (ea eb : Bool) (a b : List Fr) (ha : a.length ≤ 5864062014805) (hb : b.length ≤ 5864062014805) : Ok Tryz.prog 64 [.sl ea (frs a), .sl eb (frs b)] (frV (dotF a b)) := by
  refine ok_fn mixed Tryz.func64 (code := ?_) (h := h64) ?_ k64 ?_
  rotate_left
  · exact rfl
  unfold h64 initS
  simp -implicitDefEqProofs only [rkA, stepA, valA, storeA, ldA, fieldAddrA, fieldA, idxAddrA, idxA, idxArr, lenA, unA, binA, num2, binV, eqA, rowOf, PV.cells, PV.cell, bndA, appA, reduceIte, reduceCtorEq, Nat.reduceAdd, Nat.reduceSub, Nat.reduceEqDiff, Nat.reduceLeDiff, Nat.reduceLT, Nat.reduceMul, Nat.reduceBEq, Nat.reduceBNe, Int.reduceToNat, Int.reduceLE, Int.reduceLT, allocX, setPs, extremeA, ints, resAll, rinfOk, packR, Tryz.ntmps64, Tryz.results64]
  refine call_fn rfl rfl rfl (ok95 96 mulF ok96 ea eb a b ha hb) ?_
  simp -implicitDefEqProofs only [rkA, stepA, valA, storeA, ldA, fieldAddrA, fieldA, idxAddrA, idxA, idxArr, lenA, unA, binA, num2, binV, eqA, rowOf, PV.cells, PV.cell, bndA, appA, reduceIte, reduceCtorEq, Nat.reduceAdd, Nat.reduceSub, Nat.reduceEqDiff, Nat.reduceLeDiff, Nat.reduceLT, Nat.reduceMul, Nat.reduceBEq, Nat.reduceBNe, Int.reduceToNat, Int.reduceLE, Int.reduceLT, allocX, setPs, extremeA, ints, resAll, rinfOk, packR]
  refine call_fn rfl rfl rfl (ok94 false (List.zipWith mulF a b) (by simp; omega)) ?_
  simp -implicitDefEqProofs only [rkA, stepA, valA, storeA, ldA, fieldAddrA, fieldA, idxAddrA, idxA, idxArr, lenA, unA, binA, num2, binV, eqA, rowOf, PV.cells, PV.cell, bndA, appA, reduceIte, reduceCtorEq, Nat.reduceAdd, Nat.reduceSub, Nat.reduceEqDiff, Nat.reduceLeDiff, Nat.reduceLT, Nat.reduceMul, Nat.reduceBEq, Nat.reduceBNe, Int.reduceToNat, Int.reduceLE, Int.reduceLT, allocX, setPs, extremeA, ints, resAll, rinfOk, packR, dotF]

/-- A matrix, turned. -/
def turnF (r c : Int) (l : List Fr) : List Fr := if right r c l.length = true then (List.range c.toNat).flatMap fun (k : Nat) => (List.range r.toNat).map fun (i : Nat) => atF r c l i k else []

/-- Of a turned matrix, what is told so far. -/
def turnP (r c : Int) (l : List Fr) (k i : Nat) : List Fr := (List.range k).flatMap (fun (k : Nat) => (List.range r.toNat).map fun (i : Nat) => atF r c l i k) ++ (List.range i).map fun (i : Nat) => atF r c l i k
theorem turnP_succ (r c : Int) (l : List Fr) (k i : Nat) : turnP r c l k (i + 1) = turnP r c l k i ++ [atF r c l i k] := by
  simp [turnP, List.range_succ]
theorem turnP_next (r c : Int) (l : List Fr) (k : Nat) : turnP r c l k r.toNat = turnP r c l (k + 1) 0 := by
  simp [turnP, List.range_succ]
theorem turnP_length (r c : Int) (l : List Fr) (k i : Nat) : (turnP r c l k i).length = k * r.toNat + i := by
  simp [turnP, List.length_flatMap, List.map_const', List.sum_replicate_nat]

theorem ok69 (ex : Bool) (r c : Int) (l : List Fr) : Ok Tryz.prog 69 [matV ex r c (frs l)] (if right r c l.length = true then matV false c r (frs (turnF r c l)) else matNil) := by
  refine ok_fn mixed Tryz.func69 (code := ?_) (h := h69) ?_ k69 ?_
  rotate_left
  · exact rfl
  unfold h69 initS
  simp -implicitDefEqProofs only [rkA, stepA, valA, storeA, ldA, fieldAddrA, fieldA, idxAddrA, idxA, idxArr, lenA, unA, binA, num2, binV, eqA, rowOf, PV.cells, PV.cell, bndA, appA, reduceIte, reduceCtorEq, Nat.reduceAdd, Nat.reduceSub, Nat.reduceEqDiff, Nat.reduceLeDiff, Nat.reduceLT, Nat.reduceMul, Nat.reduceBEq, Nat.reduceBNe, Int.reduceToNat, Int.reduceLE, Int.reduceLT, allocX, setPs, extremeA, ints, resAll, rinfOk, packR, Tryz.ntmps69, Tryz.results69]
  refine call_fn rfl rfl rfl (ok84 ex r c (frs l)) ?_
  have e : (frs l).length = l.length := by simp
  rw [e]
  cases hr : right r c l.length with
  | false => simp -implicitDefEqProofs only [rkA, stepA, valA, storeA, ldA, fieldAddrA, fieldA, idxAddrA, idxA, idxArr, lenA, unA, binA, num2, binV, eqA, rowOf, PV.cells, PV.cell, bndA, appA, reduceIte, reduceCtorEq, Nat.reduceAdd, Nat.reduceSub, Nat.reduceEqDiff, Nat.reduceLeDiff, Nat.reduceLT, Nat.reduceMul, Nat.reduceBEq, Nat.reduceBNe, Int.reduceToNat, Int.reduceLE, Int.reduceLT, allocX, setPs, extremeA, ints, resAll, rinfOk, packR]
  | true =>
    obtain ⟨r1, r2, c1, c2, hn⟩ := right_spec hr
    simp -implicitDefEqProofs only [rkA, stepA, valA, storeA, ldA, fieldAddrA, fieldA, idxAddrA, idxA, idxArr, lenA, unA, binA, num2, binV, eqA, rowOf, PV.cells, PV.cell, bndA, appA, reduceIte, reduceCtorEq, Nat.reduceAdd, Nat.reduceSub, Nat.reduceEqDiff, Nat.reduceLeDiff, Nat.reduceLT, Nat.reduceMul, Nat.reduceBEq, Nat.reduceBNe, Int.reduceToNat, Int.reduceLE, Int.reduceLT, allocX, setPs, extremeA, ints, resAll, rinfOk, packR]
    refine wp_loop (fun m s => ∃ k : Nat, k + m = c.toNat ∧ s = ⟨[jk, .ptr 1 0, .ptr 2 0, .ptr 3 0, jk, jk, jk, jk, jk, jk, jk, jk, jk, jk, jk, jk, .v (num c), nt k, jk, jk, jk, jk, jk, jk, jk, jk, jk, jk, jk, jk, jk, jk, jk, jk, jk, jk, jk], [(1, [.v (num r), .v (num c), .v (.sl ex (frs l))]), (2, [nt 0, nt 0, .acc 3002 []]), (3, [nt c, nt r, .acc 15003 (frs (turnP r c l k 0))])], [],
      [(3002, 0), (3003, 0), (15003, (turnP r c l k 0).length)], [], 0, nomem⟩) c.toNat ?_ ?_
    · simp -implicitDefEqProofs only [rkA, stepA, valA, storeA, ldA, fieldAddrA, fieldA, idxAddrA, idxA, idxArr, lenA, unA, binA, num2, binV, eqA, rowOf, PV.cells, PV.cell, bndA, appA, reduceIte, reduceCtorEq, Nat.reduceAdd, Nat.reduceSub, Nat.reduceEqDiff, Nat.reduceLeDiff, Nat.reduceLT, Nat.reduceMul, Nat.reduceBEq, Nat.reduceBNe, Int.reduceToNat, Int.reduceLE, Int.reduceLT, allocX, setPs, extremeA, ints, resAll, rinfOk, packR]
      exact ⟨0, by simp, rfl⟩
    rintro m s ⟨k, hk, rfl⟩
    simp -implicitDefEqProofs only [rkA, stepA, valA, storeA, ldA, fieldAddrA, fieldA, idxAddrA, idxA, idxArr, lenA, unA, binA, num2, binV, eqA, rowOf, PV.cells, PV.cell, bndA, appA, reduceIte, reduceCtorEq, Nat.reduceAdd, Nat.reduceSub, Nat.reduceEqDiff, Nat.reduceLeDiff, Nat.reduceLT, Nat.reduceMul, Nat.reduceBEq, Nat.reduceBNe, Int.reduceToNat, Int.reduceLE, Int.reduceLT, allocX, setPs, extremeA, ints, resAll, rinfOk, packR]
    refine gB_dec ?_ ?_ <;> intro hc <;> simp -implicitDefEqProofs only [hc, rkA, stepA, valA, storeA, ldA, fieldAddrA, fieldA, idxAddrA, idxA, idxArr, lenA, unA, binA, num2, binV, eqA, rowOf, PV.cells, PV.cell, bndA, appA, reduceIte, reduceCtorEq, Nat.reduceAdd, Nat.reduceSub, Nat.reduceEqDiff, Nat.reduceLeDiff, Nat.reduceLT, Nat.reduceMul, Nat.reduceBEq, Nat.reduceBNe, Int.reduceToNat, Int.reduceLE, Int.reduceLT, allocX, setPs, extremeA, ints, resAll, rinfOk, packR]
    · refine wp_loop (fun m s => ∃ i : Nat, i + m = r.toNat ∧ s = ⟨[jk, .ptr 1 0, .ptr 2 0, .ptr 3 0, nt k, jk, jk, jk, jk, jk, jk, jk, jk, jk, jk, jk, .v (num c), nt k, jk, jk, jk, nt r, nt i, jk, jk, jk, jk, jk, jk, jk, jk, jk, jk, jk, jk, jk, jk], [(1, [.v (num r), .v (num c), .v (.sl ex (frs l))]), (2, [nt 0, nt 0, .acc 3002 []]), (3, [nt c, nt r, .acc 15003 (frs (turnP r c l k i))])], [],
        [(3002, 0), (3003, 0), (15003, (turnP r c l k i).length)], [], 0, nomem⟩) r.toNat ?_ ?_
      · simp -implicitDefEqProofs only [rkA, stepA, valA, storeA, ldA, fieldAddrA, fieldA, idxAddrA, idxA, idxArr, lenA, unA, binA, num2, binV, eqA, rowOf, PV.cells, PV.cell, bndA, appA, reduceIte, reduceCtorEq, Nat.reduceAdd, Nat.reduceSub, Nat.reduceEqDiff, Nat.reduceLeDiff, Nat.reduceLT, Nat.reduceMul, Nat.reduceBEq, Nat.reduceBNe, Int.reduceToNat, Int.reduceLE, Int.reduceLT, allocX, setPs, extremeA, ints, resAll, rinfOk, packR]
        exact ⟨0, by simp, rfl⟩
      rintro m' s ⟨i, hi, rfl⟩
      simp -implicitDefEqProofs only [rkA, stepA, valA, storeA, ldA, fieldAddrA, fieldA, idxAddrA, idxA, idxArr, lenA, unA, binA, num2, binV, eqA, rowOf, PV.cells, PV.cell, bndA, appA, reduceIte, reduceCtorEq, Nat.reduceAdd, Nat.reduceSub, Nat.reduceEqDiff, Nat.reduceLeDiff, Nat.reduceLT, Nat.reduceMul, Nat.reduceBEq, Nat.reduceBNe, Int.reduceToNat, Int.reduceLE, Int.reduceLT, allocX, setPs, extremeA, ints, resAll, rinfOk, packR]
      have hlen := turnP_length r c l k i
      have hb : k * r.toNat + i ≤ 256 := by
        have : (k + 1) * r.toNat ≤ 16 * 16 := Nat.mul_le_mul (by omega) (by omega)
        rw [Nat.add_mul] at this
        omega
      refine gB_dec ?_ ?_ <;> intro hc2 <;> simp -implicitDefEqProofs only [hc2, rkA, stepA, valA, storeA, ldA, fieldAddrA, fieldA, idxAddrA, idxA, idxArr, lenA, unA, binA, num2, binV, eqA, rowOf, PV.cells, PV.cell, bndA, appA, reduceIte, reduceCtorEq, Nat.reduceAdd, Nat.reduceSub, Nat.reduceEqDiff, Nat.reduceLeDiff, Nat.reduceLT, Nat.reduceMul, Nat.reduceBEq, Nat.reduceBNe, Int.reduceToNat, Int.reduceLE, Int.reduceLT, allocX, setPs, extremeA, ints, resAll, rinfOk, packR]
      · refine call_fn rfl rfl rfl (ok44 ex r c i k l) ?_
        have hfit : fits 3 24 (frs (turnP r c l k i)) [frV (atF r c l i k)] = true := fits_frs (l := [atF r c l i k]) (by simp only [List.length_cons, List.length_nil]; omega)
        have hl : (frs (turnP r c l k i)).length = (turnP r c l k i).length := by simp
        have hw := wrapped (x := (i : Int) + 1) (by omega) (by omega)
        simp -implicitDefEqProofs only [hfit, hl, hw, rkA, stepA, valA, storeA, ldA, fieldAddrA, fieldA, idxAddrA, idxA, idxArr, lenA, unA, binA, num2, binV, eqA, rowOf, PV.cells, PV.cell, bndA, appA, reduceIte, reduceCtorEq, Nat.reduceAdd, Nat.reduceSub, Nat.reduceEqDiff, Nat.reduceLeDiff, Nat.reduceLT, Nat.reduceMul, Nat.reduceBEq, Nat.reduceBNe, Int.reduceToNat, Int.reduceLE, Int.reduceLT, allocX, setPs, extremeA, ints, resAll, rinfOk, packR]
        refine loopK_of (m' := m' - 1) (by omega) ?_
        simp -implicitDefEqProofs only [rkA, stepA, valA, storeA, ldA, fieldAddrA, fieldA, idxAddrA, idxA, idxArr, lenA, unA, binA, num2, binV, eqA, rowOf, PV.cells, PV.cell, bndA, appA, reduceIte, reduceCtorEq, Nat.reduceAdd, Nat.reduceSub, Nat.reduceEqDiff, Nat.reduceLeDiff, Nat.reduceLT, Nat.reduceMul, Nat.reduceBEq, Nat.reduceBNe, Int.reduceToNat, Int.reduceLE, Int.reduceLT, allocX, setPs, extremeA, ints, resAll, rinfOk, packR]
        refine ⟨i + 1, by omega, ?_⟩
        rw [turnP_succ]
        simp only [frs, List.map_append, List.map_cons, List.map_nil, List.length_append, List.length_cons, List.length_nil, Int.natCast_add, Int.natCast_one]
      · have hw := wrapped (x := (k : Int) + 1) (by omega) (by omega)
        simp -implicitDefEqProofs only [hw, rkA, stepA, valA, storeA, ldA, fieldAddrA, fieldA, idxAddrA, idxA, idxArr, lenA, unA, binA, num2, binV, eqA, rowOf, PV.cells, PV.cell, bndA, appA, reduceIte, reduceCtorEq, Nat.reduceAdd, Nat.reduceSub, Nat.reduceEqDiff, Nat.reduceLeDiff, Nat.reduceLT, Nat.reduceMul, Nat.reduceBEq, Nat.reduceBNe, Int.reduceToNat, Int.reduceLE, Int.reduceLT, allocX, setPs, extremeA, ints, resAll, rinfOk, packR]
        refine loopK_of (m' := m - 1) (by omega) ?_
        simp -implicitDefEqProofs only [rkA, stepA, valA, storeA, ldA, fieldAddrA, fieldA, idxAddrA, idxA, idxArr, lenA, unA, binA, num2, binV, eqA, rowOf, PV.cells, PV.cell, bndA, appA, reduceIte, reduceCtorEq, Nat.reduceAdd, Nat.reduceSub, Nat.reduceEqDiff, Nat.reduceLeDiff, Nat.reduceLT, Nat.reduceMul, Nat.reduceBEq, Nat.reduceBNe, Int.reduceToNat, Int.reduceLE, Int.reduceLT, allocX, setPs, extremeA, ints, resAll, rinfOk, packR]
        refine ⟨k + 1, by omega, ?_⟩
        have hi2 : i = r.toNat := by omega
        rw [hi2, turnP_next]
        simp only [Int.natCast_add, Int.natCast_one]
    · have hk2 : k = c.toNat := by omega
      have : turnF r c l = turnP r c l k 0 := by
        rw [hk2]
        simp [turnF, hr, turnP]
      rw [this]
end Go.Proofs.YtipchjfcjbghnaaGreat.A


set_option linter.unusedVariables false
set_option linter.unusedSimpArgs false
set_option maxRecDepth 100000
namespace Go.Proofs.YtipchjfcjbghnaaGreat.A
open Go Go.RowKit Go.Shelf

theorem turnF_length {r c : Int} {l : List Fr} (h : right r c l.length = true) : (turnF r c l).length = c.toNat * r.toNat := by
  have : turnF r c l = turnP r c l c.toNat 0 := by simp [turnF, h, turnP]
  rw [this, turnP_length, Nat.add_zero]

theorem right_turn {r c : Int} {l : List Fr} (h : right r c l.length = true) : right c r (turnF r c l).length = true := by
  obtain ⟨r1, r2, c1, c2, hn⟩ := right_spec h
  rw [turnF_length h]
  simp only [right, Bool.and_eq_true, decide_eq_true_eq, beq_iff_eq]
  refine ⟨by omega, by omega, ?_⟩
  rw [Int.natCast_mul, Int.toNat_of_nonneg (by omega), Int.toNat_of_nonneg (by omega)]

section
variable {α β : Type} (f : α → α → β)
/-- A product, the rows given: what stands so far. -/
def prodP (xs ys : List α) (i k : Nat) : List β := (xs.take i).flatMap (fun x => ys.map (f x)) ++ (match xs[i]? with | some x => (ys.take k).map (f x) | none => [])
theorem prodP_succ {xs ys : List α} {i k : Nat} {x y : α} (hx : xs[i]? = some x) (hy : ys[k]? = some y) : prodP f xs ys i (k + 1) = prodP f xs ys i k ++ [f x y] := by
  obtain ⟨hk, rfl⟩ := List.getElem?_eq_some_iff.1 hy
  simp only [prodP, hx, List.take_succ_eq_append_getElem hk, List.map_append, List.map_cons, List.map_nil, List.append_assoc]
theorem prodP_zero (xs ys : List α) (i : Nat) : prodP f xs ys i 0 = (xs.take i).flatMap (fun x => ys.map (f x)) := by
  unfold prodP
  cases xs[i]? <;> simp
theorem prodP_next {xs ys : List α} {i : Nat} (hi : i < xs.length) : prodP f xs ys i ys.length = prodP f xs ys (i + 1) 0 := by
  rw [prodP_zero, List.take_succ_eq_append_getElem hi, prodP, List.getElem?_eq_getElem hi]
  simp only [List.take_length, List.flatMap_append, List.flatMap_cons, List.flatMap_nil, List.append_nil]
theorem prodP_length {xs ys : List α} {i k : Nat} (hi : i < xs.length) (hk : k ≤ ys.length) : (prodP f xs ys i k).length = i * ys.length + k := by
  rw [prodP, List.getElem?_eq_getElem hi]
  simp [List.length_flatMap, List.map_const', List.sum_replicate_nat, Nat.min_eq_left (Nat.le_of_lt hi), Nat.min_eq_left hk]
end

/-- All rows. -/
def allF (r c : Int) (l : List Fr) : List (List Fr) := (List.range r.toNat).map fun (i : Nat) => rowF r c l (i : Int)
def prodF (r m c : Int) (a b : List Fr) : List Fr := (allF r m a).flatMap fun x => (allF c m (turnF m c b)).map (dotF x)

theorem allF_length (r c : Int) (l : List Fr) : (allF r c l).length = r.toNat := by simp [allF]
theorem rowsF_all {r c : Int} {l : List Fr} (h : right r c l.length = true) {i : Nat} {x : List PV} (hx : (rowsF r c l)[i]? = some x) : i < r.toNat ∧ x = [num i, .sl false (frs (rowF r c l i))] ∧ (allF r c l)[i]? = some (rowF r c l i) := by
  obtain ⟨hi, rfl⟩ := List.getElem?_eq_some_iff.1 hx
  have hi' : i < r.toNat := by simpa [rowsF, h] using hi
  refine ⟨hi', by simp [rowsF, h], by simp [allF, hi']⟩
theorem rowsF_length {r c : Int} {l : List Fr} (h : right r c l.length = true) : (rowsF r c l).length = r.toNat := by simp [rowsF, h]
theorem rowF_length {r c : Int} {l : List Fr} (i : Int) : (rowF r c l i).length ≤ l.length := by
  unfold rowF
  split <;> simp <;> omega

theorem ok66 (ea eb : Bool) (r m m2 c : Int) (a b : List Fr) : Ok Tryz.prog 66 [matV ea r m (frs a), matV eb m2 c (frs b)]
    (if right r m a.length = true ∧ right m2 c b.length = true ∧ m = m2 then .tup [matV false r c (frs (prodF r m c a b)), tru true] else .tup [matNil, tru false]) := by
  refine ok_fn mixed Tryz.func66 (code := ?_) (h := h66) ?_ k66 ?_
  rotate_left
  · exact rfl
  unfold h66 initS
  simp -implicitDefEqProofs only [rkA, stepA, valA, storeA, ldA, fieldAddrA, fieldA, idxAddrA, idxA, idxArr, lenA, unA, binA, num2, binV, eqA, rowOf, PV.cells, PV.cell, bndA, appA, reduceIte, reduceCtorEq, Nat.reduceAdd, Nat.reduceSub, Nat.reduceEqDiff, Nat.reduceLeDiff, Nat.reduceLT, Nat.reduceMul, Nat.reduceBEq, Nat.reduceBNe, Int.reduceToNat, Int.reduceLE, Int.reduceLT, allocX, setPs, extremeA, ints, resAll, rinfOk, packR, Tryz.ntmps66, Tryz.results66]
  refine call_fn rfl rfl rfl (ok84 ea r m (frs a)) ?_
  have e : (frs a).length = a.length := by simp
  have e' : (frs b).length = b.length := by simp
  rw [e]
  cases hr : right r m a.length with
  | false =>
    simp -implicitDefEqProofs only [rkA, stepA, valA, storeA, ldA, fieldAddrA, fieldA, idxAddrA, idxA, idxArr, lenA, unA, binA, num2, binV, eqA, rowOf, PV.cells, PV.cell, bndA, appA, reduceIte, reduceCtorEq, Nat.reduceAdd, Nat.reduceSub, Nat.reduceEqDiff, Nat.reduceLeDiff, Nat.reduceLT, Nat.reduceMul, Nat.reduceBEq, Nat.reduceBNe, Int.reduceToNat, Int.reduceLE, Int.reduceLT, allocX, setPs, extremeA, ints, resAll, rinfOk, packR]
  | true =>
    simp -implicitDefEqProofs only [rkA, stepA, valA, storeA, ldA, fieldAddrA, fieldA, idxAddrA, idxA, idxArr, lenA, unA, binA, num2, binV, eqA, rowOf, PV.cells, PV.cell, bndA, appA, reduceIte, reduceCtorEq, Nat.reduceAdd, Nat.reduceSub, Nat.reduceEqDiff, Nat.reduceLeDiff, Nat.reduceLT, Nat.reduceMul, Nat.reduceBEq, Nat.reduceBNe, Int.reduceToNat, Int.reduceLE, Int.reduceLT, allocX, setPs, extremeA, ints, resAll, rinfOk, packR]
    refine call_fn rfl rfl rfl (ok84 eb m2 c (frs b)) ?_
    rw [e']
    cases hr2 : right m2 c b.length with
    | false => simp -implicitDefEqProofs only [rkA, stepA, valA, storeA, ldA, fieldAddrA, fieldA, idxAddrA, idxA, idxArr, lenA, unA, binA, num2, binV, eqA, rowOf, PV.cells, PV.cell, bndA, appA, reduceIte, reduceCtorEq, Nat.reduceAdd, Nat.reduceSub, Nat.reduceEqDiff, Nat.reduceLeDiff, Nat.reduceLT, Nat.reduceMul, Nat.reduceBEq, Nat.reduceBNe, Int.reduceToNat, Int.reduceLE, Int.reduceLT, allocX, setPs, extremeA, ints, resAll, rinfOk, packR]
    | true =>
      obtain ⟨r1, r2, c1, c2, hn⟩ := right_spec hr
      obtain ⟨m1, m3, d1, d2, hn2⟩ := right_spec hr2
      simp -implicitDefEqProofs only [rkA, stepA, valA, storeA, ldA, fieldAddrA, fieldA, idxAddrA, idxA, idxArr, lenA, unA, binA, num2, binV, eqA, rowOf, PV.cells, PV.cell, bndA, appA, reduceIte, reduceCtorEq, Nat.reduceAdd, Nat.reduceSub, Nat.reduceEqDiff, Nat.reduceLeDiff, Nat.reduceLT, Nat.reduceMul, Nat.reduceBEq, Nat.reduceBNe, Int.reduceToNat, Int.reduceLE, Int.reduceLT, allocX, setPs, extremeA, ints, resAll, rinfOk, packR]
      refine gB_bool ?_ ?_ <;> intro hb
      · have hm : m ≠ m2 := by simpa using hb
        simp -implicitDefEqProofs only [hm, rkA, stepA, valA, storeA, ldA, fieldAddrA, fieldA, idxAddrA, idxA, idxArr, lenA, unA, binA, num2, binV, eqA, rowOf, PV.cells, PV.cell, bndA, appA, reduceIte, reduceCtorEq, Nat.reduceAdd, Nat.reduceSub, Nat.reduceEqDiff, Nat.reduceLeDiff, Nat.reduceLT, Nat.reduceMul, Nat.reduceBEq, Nat.reduceBNe, Int.reduceToNat, Int.reduceLE, Int.reduceLT, allocX, setPs, extremeA, ints, resAll, rinfOk, packR]
      · have hm : m = m2 := by simpa using hb
        clear hb
        subst hm
        simp -implicitDefEqProofs only [rkA, stepA, valA, storeA, ldA, fieldAddrA, fieldA, idxAddrA, idxA, idxArr, lenA, unA, binA, num2, binV, eqA, rowOf, PV.cells, PV.cell, bndA, appA, reduceIte, reduceCtorEq, Nat.reduceAdd, Nat.reduceSub, Nat.reduceEqDiff, Nat.reduceLeDiff, Nat.reduceLT, Nat.reduceMul, Nat.reduceBEq, Nat.reduceBNe, Int.reduceToNat, Int.reduceLE, Int.reduceLT, allocX, setPs, extremeA, ints, resAll, rinfOk, packR]
        have h25 := ok69 eb m c b
        rw [if_pos hr2] at h25
        refine call_fn rfl rfl rfl (h25) ?_
        simp -implicitDefEqProofs only [rkA, stepA, valA, storeA, ldA, fieldAddrA, fieldA, idxAddrA, idxA, idxArr, lenA, unA, binA, num2, binV, eqA, rowOf, PV.cells, PV.cell, bndA, appA, reduceIte, reduceCtorEq, Nat.reduceAdd, Nat.reduceSub, Nat.reduceEqDiff, Nat.reduceLeDiff, Nat.reduceLT, Nat.reduceMul, Nat.reduceBEq, Nat.reduceBNe, Int.reduceToNat, Int.reduceLE, Int.reduceLT, allocX, setPs, extremeA, ints, resAll, rinfOk, packR]
        refine call_fn rfl rfl rfl (ok92 ea r m a) ?_
        simp -implicitDefEqProofs only [rkA, stepA, valA, storeA, ldA, fieldAddrA, fieldA, idxAddrA, idxA, idxArr, lenA, unA, binA, num2, binV, eqA, rowOf, PV.cells, PV.cell, bndA, appA, reduceIte, reduceCtorEq, Nat.reduceAdd, Nat.reduceSub, Nat.reduceEqDiff, Nat.reduceLeDiff, Nat.reduceLT, Nat.reduceMul, Nat.reduceBEq, Nat.reduceBNe, Int.reduceToNat, Int.reduceLE, Int.reduceLT, allocX, setPs, extremeA, ints, resAll, rinfOk, packR]
        have hrt := right_turn hr2
        have hpl : ∀ i k, i < r.toNat → k ≤ c.toNat → (prodP dotF (allF r m a) (allF c m (turnF m c b)) i k).length = i * c.toNat + k := fun i k hi hk => by
          rw [prodP_length dotF (by rw [allF_length]; exact hi) (by rw [allF_length]; exact hk), allF_length]
        have hbig : ∀ i k, i < r.toNat → k ≤ c.toNat → i * c.toNat + k ≤ 256 := fun i k hi hk => by
          have : (i + 1) * c.toNat ≤ 16 * 16 := Nat.mul_le_mul (by omega) (by omega)
          rw [Nat.add_mul] at this
          omega
        have hal : a.length ≤ 256 := by
          have : r * m ≤ 16 * 16 := Int.mul_le_mul r2 c2 (by omega) (by omega)
          omega
        have hbl : (turnF m c b).length ≤ 256 := by
          have h1 := turnF_length hr2
          have : c.toNat * m.toNat ≤ 16 * 16 := Nat.mul_le_mul (by omega) (by omega)
          omega
        refine wp_rf' (items := rowsF r m a) rfl (it119 ea r m a) (fun sv i s => i ≤ r.toNat ∧ s = ⟨[], [(2, [nt r, nt m, .v (.sl ea (frs a))]), (3, [nt m, nt c, .v (.sl eb (frs b))]), (4, [nt 0, nt 0, .acc 3004 []]), (6, [nt r, nt c, .acc 15006 (frs (prodP dotF (allF r m a) (allF c m (turnF m c b)) i 0))]),
          (7, [nt c, nt m, .v (.sl false (frs (turnF m c b)))])], [], [(1009, 0), (3004, 0), (3006, 0), (3007, 0), (15006, (prodP dotF (allF r m a) (allF c m (turnF m c b)) i 0).length)], sv, 0, nomem⟩) ?_ ?_ ?_
        · simp -implicitDefEqProofs only [rkA, stepA, valA, storeA, ldA, fieldAddrA, fieldA, idxAddrA, idxA, idxArr, lenA, unA, binA, num2, binV, eqA, rowOf, PV.cells, PV.cell, bndA, appA, reduceIte, reduceCtorEq, Nat.reduceAdd, Nat.reduceSub, Nat.reduceEqDiff, Nat.reduceLeDiff, Nat.reduceLT, Nat.reduceMul, Nat.reduceBEq, Nat.reduceBNe, Int.reduceToNat, Int.reduceLE, Int.reduceLT, allocX, setPs, extremeA, ints, resAll, rinfOk, packR]
          exact ⟨Nat.zero_le _, by rw [prodP_zero]; exact rfl⟩
        · rintro i x' s' R hx ⟨hi, rfl⟩ hR
          obtain ⟨hlt, rfl, hxi⟩ := rowsF_all hr hx
          refine ⟨rfl, ?_⟩
          simp -implicitDefEqProofs only [rkA, stepA, valA, storeA, ldA, fieldAddrA, fieldA, idxAddrA, idxA, idxArr, lenA, unA, binA, num2, binV, eqA, rowOf, PV.cells, PV.cell, bndA, appA, reduceIte, reduceCtorEq, Nat.reduceAdd, Nat.reduceSub, Nat.reduceEqDiff, Nat.reduceLeDiff, Nat.reduceLT, Nat.reduceMul, Nat.reduceBEq, Nat.reduceBNe, Int.reduceToNat, Int.reduceLE, Int.reduceLT, allocX, setPs, extremeA, ints, resAll, rinfOk, packR]
          refine call_fn rfl rfl rfl (ok92 false c m (turnF m c b)) ?_
          simp -implicitDefEqProofs only [rkA, stepA, valA, storeA, ldA, fieldAddrA, fieldA, idxAddrA, idxA, idxArr, lenA, unA, binA, num2, binV, eqA, rowOf, PV.cells, PV.cell, bndA, appA, reduceIte, reduceCtorEq, Nat.reduceAdd, Nat.reduceSub, Nat.reduceEqDiff, Nat.reduceLeDiff, Nat.reduceLT, Nat.reduceMul, Nat.reduceBEq, Nat.reduceBNe, Int.reduceToNat, Int.reduceLE, Int.reduceLT, allocX, setPs, extremeA, ints, resAll, rinfOk, packR]
          refine wp_rf' (items := rowsF c m (turnF m c b)) rfl (it119 false c m (turnF m c b)) (fun sv k s => k ≤ c.toNat ∧ s = ⟨[], [(2, [nt r, nt m, .v (.sl ea (frs a))]), (3, [nt m, nt c, .v (.sl eb (frs b))]), (4, [nt 0, nt 0, .acc 3004 []]), (6, [nt r, nt c, .acc 15006 (frs (prodP dotF (allF r m a) (allF c m (turnF m c b)) i k))]),
            (7, [nt c, nt m, .v (.sl false (frs (turnF m c b)))]), (9, [.v (.sl false (frs (rowF r m a i)))])], [], [(1009, 0), (3004, 0), (3006, 0), (3007, 0), (15006, (prodP dotF (allF r m a) (allF c m (turnF m c b)) i k).length)], sv, 0, nomem⟩) ?_ ?_ ?_
          · simp -implicitDefEqProofs only [rkA, stepA, valA, storeA, ldA, fieldAddrA, fieldA, idxAddrA, idxA, idxArr, lenA, unA, binA, num2, binV, eqA, rowOf, PV.cells, PV.cell, bndA, appA, reduceIte, reduceCtorEq, Nat.reduceAdd, Nat.reduceSub, Nat.reduceEqDiff, Nat.reduceLeDiff, Nat.reduceLT, Nat.reduceMul, Nat.reduceBEq, Nat.reduceBNe, Int.reduceToNat, Int.reduceLE, Int.reduceLT, allocX, setPs, extremeA, ints, resAll, rinfOk, packR]
            exact Nat.zero_le _
          · rintro k x' s' R2 hx2 ⟨hk, rfl⟩ hR2
            obtain ⟨hlt2, rfl, hyk⟩ := rowsF_all hrt hx2
            refine ⟨rfl, ?_⟩
            simp -implicitDefEqProofs only [rkA, stepA, valA, storeA, ldA, fieldAddrA, fieldA, idxAddrA, idxA, idxArr, lenA, unA, binA, num2, binV, eqA, rowOf, PV.cells, PV.cell, bndA, appA, reduceIte, reduceCtorEq, Nat.reduceAdd, Nat.reduceSub, Nat.reduceEqDiff, Nat.reduceLeDiff, Nat.reduceLT, Nat.reduceMul, Nat.reduceBEq, Nat.reduceBNe, Int.reduceToNat, Int.reduceLE, Int.reduceLT, allocX, setPs, extremeA, ints, resAll, rinfOk, packR]
            have hra := rowF_length (r := r) (c := m) (l := a) i
            have hrb := rowF_length (r := c) (c := m) (l := turnF m c b) k
            refine call_fn rfl rfl rfl (ok64 false false (rowF r m a i) (rowF c m (turnF m c b) k) (by omega) (by omega)) ?_
            have h1 := hpl i k hlt (by omega)
            have h2 := hbig i k hlt (by omega)
            have hfit : fits 3 24 (frs (prodP dotF (allF r m a) (allF c m (turnF m c b)) i k)) [frV (dotF (rowF r m a i) (rowF c m (turnF m c b) k))] = true := fits_frs (l := [dotF (rowF r m a i) (rowF c m (turnF m c b) k)]) (by simp only [List.length_cons, List.length_nil]; omega)
            have hl : (frs (prodP dotF (allF r m a) (allF c m (turnF m c b)) i k)).length = (prodP dotF (allF r m a) (allF c m (turnF m c b)) i k).length := by simp
            simp -implicitDefEqProofs only [hfit, hl, rkA, stepA, valA, storeA, ldA, fieldAddrA, fieldA, idxAddrA, idxA, idxArr, lenA, unA, binA, num2, binV, eqA, rowOf, PV.cells, PV.cell, bndA, appA, reduceIte, reduceCtorEq, Nat.reduceAdd, Nat.reduceSub, Nat.reduceEqDiff, Nat.reduceLeDiff, Nat.reduceLT, Nat.reduceMul, Nat.reduceBEq, Nat.reduceBNe, Int.reduceToNat, Int.reduceLE, Int.reduceLT, allocX, setPs, extremeA, ints, resAll, rinfOk, packR]
            refine hR2 _ ⟨by omega, ?_⟩
            rw [prodP_succ dotF hxi hyk]
            simp only [frs, List.map_append, List.map_cons, List.map_nil, List.length_append, List.length_cons, List.length_nil]
          · rintro s' ⟨hk, rfl⟩
            simp -implicitDefEqProofs only [rkA, stepA, valA, storeA, ldA, fieldAddrA, fieldA, idxAddrA, idxA, idxArr, lenA, unA, binA, num2, binV, eqA, rowOf, PV.cells, PV.cell, bndA, appA, reduceIte, reduceCtorEq, Nat.reduceAdd, Nat.reduceSub, Nat.reduceEqDiff, Nat.reduceLeDiff, Nat.reduceLT, Nat.reduceMul, Nat.reduceBEq, Nat.reduceBNe, Int.reduceToNat, Int.reduceLE, Int.reduceLT, allocX, setPs, extremeA, ints, resAll, rinfOk, packR]
            refine hR _ ⟨by omega, ?_⟩
            have hnx := prodP_next dotF (xs := allF r m a) (ys := allF c m (turnF m c b)) (i := i) (by rw [allF_length]; exact hlt)
            rw [allF_length] at hnx
            rw [rowsF_length hrt, hnx]
        · rintro s' ⟨hi, rfl⟩
          simp -implicitDefEqProofs only [rkA, stepA, valA, storeA, ldA, fieldAddrA, fieldA, idxAddrA, idxA, idxArr, lenA, unA, binA, num2, binV, eqA, rowOf, PV.cells, PV.cell, bndA, appA, reduceIte, reduceCtorEq, Nat.reduceAdd, Nat.reduceSub, Nat.reduceEqDiff, Nat.reduceLeDiff, Nat.reduceLT, Nat.reduceMul, Nat.reduceBEq, Nat.reduceBNe, Int.reduceToNat, Int.reduceLE, Int.reduceLT, allocX, setPs, extremeA, ints, resAll, rinfOk, packR]
          have : prodF r m c a b = prodP dotF (allF r m a) (allF c m (turnF m c b)) (rowsF r m a).length 0 := by
            rw [prodP_zero, rowsF_length hr, ← allF_length r m a, List.take_length]
            rfl
          rw [this]
end Go.Proofs.YtipchjfcjbghnaaGreat.A


set_option linter.unusedVariables false
set_option linter.unusedSimpArgs false
set_option maxRecDepth 100000
namespace Go.Proofs.YtipchjfcjbghnaaGreat.A
open Go Go.RowKit Go.Shelf

/-- A contract for what is known better. -/
theorem Ok.args {P : Program} {f : FuncId} {xs ys : List PV} {r : PV} (k : Ok P f xs r) (h : ∀ I vs, Cs I ys vs → Cs I xs vs) : Ok P f ys r :=
  ⟨k.1, fun I w vs hg hc => k.2 I w vs hg (h I vs hc)⟩
theorem Cs.nil_of {I : Imm} {xs ys : List PV} {vs : List Value} {ex : Bool} (h : Cs I (.s (.slice none 0 0) :: xs) vs) (k : ∀ us, Cs I xs us → Cs I ys us) : Cs I (.sl ex [] :: ys) vs := by
  cases h with | cons h1 h2 => cases h1; exact .cons .sl0 (k _ h2)

theorem eq_fr (x y : Fr) : cellsEq [some .i64, some .i64, none] [num x.n, num x.d, tru x.bad] [num y.n, num y.d, tru y.bad] = some (decide (x = y)) := by
  obtain ⟨n, d, b⟩ := x
  obtain ⟨n', d', b'⟩ := y
  simp only [cellsEq, Fr.mk.injEq]
  cases b <;> cases b' <;> simp <;> rfl

end Go.Proofs.YtipchjfcjbghnaaGreat.A


set_option linter.unusedVariables false
set_option linter.unusedSimpArgs false
set_option maxRecDepth 100000
namespace Go.Proofs.YtipchjfcjbghnaaGreat.A
open Go Go.RowKit Go.Shelf

section
variable {α : Type} (g : Nat → Nat → α) (n : Nat)
/-- A table gone through row by row: what stands so far. -/
def gridP (i k : Nat) : List α := (List.range i).flatMap (fun i => (List.range n).map (g i)) ++ (List.range k).map (g i)
theorem gridP_succ (i k : Nat) : gridP g n i (k + 1) = gridP g n i k ++ [g i k] := by simp [gridP, List.range_succ]
theorem gridP_next (i : Nat) : gridP g n i n = gridP g n (i + 1) 0 := by simp [gridP, List.range_succ]
theorem gridP_length (i k : Nat) : (gridP g n i k).length = i * n + k := by simp [gridP, List.length_flatMap, List.map_const', List.sum_replicate_nat]
theorem gridP_zero (i : Nat) : gridP g n i 0 = (List.range i).flatMap (fun i => (List.range n).map (g i)) := by simp [gridP]
end

/-- The document's sum of products. -/
def dotI (a b : List Int) (many cols i k : Nat) : Nat → Int
  | 0 => 0
  | j + 1 => dotI a b many cols i k j + a.getD (i * many + j) 0 * b.getD (j * cols + k) 0
/-- The document's product. -/
def mulI (a b : List Int) (rows many cols : Nat) : List Int := gridP (fun i k => dotI a b many cols i k many) cols rows 0

theorem fits_num {k l : List Int} (h : k.length + l.length ≤ 5864062014805) : fits 1 8 (k.map num) (l.map num) = true := by
  simp [fits, PV.cells, PV.ok, PV.cell, Value.oneCell']
  omega
theorem at_table {i j n m : Nat} (hi : i < n) (hj : j < m) : i * m + j < n * m ∧ i * m ≤ n * m := by
  have : (i + 1) * m ≤ n * m := Nat.mul_le_mul_right _ (by omega)
  rw [Nat.add_mul] at this
  omega
theorem side16 {n m : Nat} (hn : n ≤ 16) (hm : m ≤ 16) : n * m ≤ 256 := Nat.mul_le_mul hn hm

end Go.Proofs.YtipchjfcjbghnaaGreat.A


set_option linter.unusedVariables false
set_option linter.unusedSimpArgs false
namespace Go.Proofs.YtipchjfcjbghnaaGreat.A
open Go Go.RowKit Go.Shelf

theorem gridP_get {α : Type} (g : Nat → Nat → α) (n : Nat) : ∀ (N i j : Nat), i < N → j < n → (gridP g n N 0)[i * n + j]? = some (g i j)
  | 0, i, j, h, _ => by omega
  | N + 1, i, j, hi, hj => by
    have e : gridP g n (N + 1) 0 = gridP g n N 0 ++ (List.range n).map (g N) := by
      rw [← gridP_next]
      simp [gridP]
    have hl := gridP_length g n N 0
    rw [e]
    by_cases h : i < N
    · have : (i + 1) * n ≤ N * n := Nat.mul_le_mul_right _ h
      rw [Nat.add_mul] at this
      rw [List.getElem?_append_left (by omega)]
      exact gridP_get g n N i j h hj
    · have : i = N := by omega
      subst this
      rw [List.getElem?_append_right (by omega), hl]
      simp [hj]

theorem flatMap_same {α β : Type} {l : List α} {f g : α → List β} (h : ∀ x ∈ l, f x = g x) : l.flatMap f = l.flatMap g := by
  rw [List.flatMap_def, List.flatMap_def, List.map_congr_left h]

theorem atF_eq {r c : Int} {l : List Fr} (h : right r c l.length = true) {i k : Nat} (hi : i < r.toNat) (hk : k < c.toNat) : atF r c l i k = l.getD (i * c.toNat + k) ⟨0, 0, false⟩ := by
  obtain ⟨r1, r2, c1, c2, hn⟩ := right_spec h
  unfold atF
  rw [if_pos ⟨h, by omega, by omega, by omega, by omega⟩]
  congr 1
  obtain ⟨K, rfl⟩ := Int.eq_ofNat_of_zero_le (show 0 ≤ c by omega)
  have : (i : Int) * (K : Int) + (k : Int) = ((i * K + k : Nat) : Int) := by simp
  rw [this, Int.toNat_natCast, Int.toNat_natCast]

end Go.Proofs.YtipchjfcjbghnaaGreat.A


set_option linter.unusedVariables false
set_option linter.unusedSimpArgs false
set_option maxRecDepth 100000
namespace Go.Proofs.YtipchjfcjbghnaaGreat.A
open Go Go.RowKit Go.Shelf

theorem Cs.keep {I : Imm} {x : PV} {xs ys : List PV} {vs : List Value} (h : Cs I (x :: xs) vs) (k : ∀ us, Cs I xs us → Cs I ys us) : Cs I (x :: ys) vs := by
  cases h with | cons h1 h2 => exact .cons h1 (k _ h2)
end Go.Proofs.YtipchjfcjbghnaaGreat.A



set_option linter.unusedVariables false
set_option linter.unusedSimpArgs false
set_option maxRecDepth 100000
namespace Go.Proofs.YtipchjfcjbghnaaGreat.A
open Go Go.RowKit Go.Shelf

/-! ### Numbers in units -/
def rightX (n : Int) : Bool := decide (-1125899906842624 ≤ n ∧ n ≤ 1125899906842624)
theorem ok56 (n : Int) : Ok Tryz.prog 56 [num n] (tru (rightX n)) := by
  refine ok_fn mixed Tryz.func56 (code := ?_) (h := h56) ?_ k56 ?_
  rotate_left
  · exact rfl
  unfold h56 initS
  simp -implicitDefEqProofs (maxSteps := 10000000) only [rkA, stepA, valA, storeA, ldA, fieldAddrA, fieldA, idxAddrA, idxA, idxArr, lenA, unA, binA, num2, binV, eqA, rowOf, PV.cells, PV.cell, bndA, appA, reduceIte, reduceCtorEq, Nat.reduceAdd, Nat.reduceSub, Nat.reduceEqDiff, Nat.reduceLeDiff, Nat.reduceLT, Nat.reduceMul, Nat.reduceBEq, Nat.reduceBNe, Int.reduceToNat, Int.reduceLE, Int.reduceLT, allocX, setPs, extremeA, ints, resAll, rinfOk, packR, Tryz.ntmps56, Tryz.results56]
  by_cases h : n ≥ -1125899906842624
  · simp -implicitDefEqProofs (maxSteps := 10000000) only [h, rightX, rkA, stepA, valA, storeA, ldA, fieldAddrA, fieldA, idxAddrA, idxA, idxArr, lenA, unA, binA, num2, binV, eqA, rowOf, PV.cells, PV.cell, bndA, appA, reduceIte, reduceCtorEq, Nat.reduceAdd, Nat.reduceSub, Nat.reduceEqDiff, Nat.reduceLeDiff, Nat.reduceLT, Nat.reduceMul, Nat.reduceBEq, Nat.reduceBNe, Int.reduceToNat, Int.reduceLE, Int.reduceLT, allocX, setPs, extremeA, ints, resAll, rinfOk, packR]
  · simp -implicitDefEqProofs (maxSteps := 10000000) only [h, rightX, rkA, stepA, valA, storeA, ldA, fieldAddrA, fieldA, idxAddrA, idxA, idxArr, lenA, unA, binA, num2, binV, eqA, rowOf, PV.cells, PV.cell, bndA, appA, reduceIte, reduceCtorEq, Nat.reduceAdd, Nat.reduceSub, Nat.reduceEqDiff, Nat.reduceLeDiff, Nat.reduceLT, Nat.reduceMul, Nat.reduceBEq, Nat.reduceBNe, Int.reduceToNat, Int.reduceLE, Int.reduceLT, allocX, setPs, extremeA, ints, resAll, rinfOk, packR]
def toldF (n : Int) (is : Bool) (l : List Int) : Int × Bool := if is = true ∧ (l ++ [n]).all rightX = true then (n, true) else (0, false)
theorem ok89 (n : Int) (is : Bool) (l : List Int) (hl : l.length ≤ 2) : Ok Tryz.prog 89 [num n, tru is, .sl true (l.map num)] (.tup [num (toldF n is l).1, tru (toldF n is l).2]) := by
  have hfit : fits 1 8 (l.map num) [num n] = true := fits_num (l := [n]) (by simp; omega)
  refine ok_fn mixed Tryz.func89 (code := ?_) (h := h89) ?_ k89 ?_
  rotate_left
  · exact rfl
  unfold h89 initS
  simp -implicitDefEqProofs (maxSteps := 10000000) only [rkA, stepA, valA, storeA, ldA, fieldAddrA, fieldA, idxAddrA, idxA, idxArr, lenA, unA, binA, num2, binV, eqA, rowOf, PV.cells, PV.cell, bndA, appA, reduceIte, reduceCtorEq, Nat.reduceAdd, Nat.reduceSub, Nat.reduceEqDiff, Nat.reduceLeDiff, Nat.reduceLT, Nat.reduceMul, Nat.reduceBEq, Nat.reduceBNe, Int.reduceToNat, Int.reduceLE, Int.reduceLT, allocX, setPs, extremeA, ints, resAll, rinfOk, packR, Tryz.ntmps89, Tryz.results89]
  simp -implicitDefEqProofs (maxSteps := 10000000) only [hfit, rkA, stepA, valA, storeA, ldA, fieldAddrA, fieldA, idxAddrA, idxA, idxArr, lenA, unA, binA, num2, binV, eqA, rowOf, PV.cells, PV.cell, bndA, appA, reduceIte, reduceCtorEq, Nat.reduceAdd, Nat.reduceSub, Nat.reduceEqDiff, Nat.reduceLeDiff, Nat.reduceLT, Nat.reduceMul, Nat.reduceBEq, Nat.reduceBNe, Int.reduceToNat, Int.reduceLE, Int.reduceLT, allocX, setPs, extremeA, ints, resAll, rinfOk, packR]
  have e : l.map num ++ [num n] = (l ++ [n]).map num := by simp
  simp only [e]
  have hres : toldF n is l = if is = true ∧ (l ++ [n]).all rightX = true then (n, true) else (0, false) := rfl
  have hlen : (l ++ [n]).length ≤ 3 := by simp; omega
  have hne : 0 < (l ++ [n]).length := by simp
  generalize toldF n is l = R at *
  generalize l ++ [n] = L at *
  have hL : (L.map num).length = L.length := by simp
  refine wp_loop (fun m s => ∃ i : Nat, i + m = L.length ∧ (0 < i → is = true) ∧ (L.take i).all rightX = true ∧ s = ⟨[nt n, .v (tru is), jk, jk, jk, jk, jk, jk, jk, jk, jk, jk, jk, .v (.sl false (L.map num)), nt L.length, nt i, jk, jk, jk, jk, jk, jk, jk, jk, jk, jk, jk, jk], [], [], [], [], 0, nomem⟩) L.length ?_ ?_
  · simp -implicitDefEqProofs (maxSteps := 10000000) only [hL, rkA, stepA, valA, storeA, ldA, fieldAddrA, fieldA, idxAddrA, idxA, idxArr, lenA, unA, binA, num2, binV, eqA, rowOf, PV.cells, PV.cell, bndA, appA, reduceIte, reduceCtorEq, Nat.reduceAdd, Nat.reduceSub, Nat.reduceEqDiff, Nat.reduceLeDiff, Nat.reduceLT, Nat.reduceMul, Nat.reduceBEq, Nat.reduceBNe, Int.reduceToNat, Int.reduceLE, Int.reduceLT, allocX, setPs, extremeA, ints, resAll, rinfOk, packR]
    exact ⟨0, by simp, by simp, by simp, rfl⟩
  rintro m s ⟨i, hi, h1, h2, rfl⟩
  simp -implicitDefEqProofs (maxSteps := 10000000) only [rkA, stepA, valA, storeA, ldA, fieldAddrA, fieldA, idxAddrA, idxA, idxArr, lenA, unA, binA, num2, binV, eqA, rowOf, PV.cells, PV.cell, bndA, appA, reduceIte, reduceCtorEq, Nat.reduceAdd, Nat.reduceSub, Nat.reduceEqDiff, Nat.reduceLeDiff, Nat.reduceLT, Nat.reduceMul, Nat.reduceBEq, Nat.reduceBNe, Int.reduceToNat, Int.reduceLE, Int.reduceLT, allocX, setPs, extremeA, ints, resAll, rinfOk, packR]
  refine gB_dec ?_ ?_ <;> intro hc <;> simp -implicitDefEqProofs (maxSteps := 10000000) only [hc, rkA, stepA, valA, storeA, ldA, fieldAddrA, fieldA, idxAddrA, idxA, idxArr, lenA, unA, binA, num2, binV, eqA, rowOf, PV.cells, PV.cell, bndA, appA, reduceIte, reduceCtorEq, Nat.reduceAdd, Nat.reduceSub, Nat.reduceEqDiff, Nat.reduceLeDiff, Nat.reduceLT, Nat.reduceMul, Nat.reduceBEq, Nat.reduceBNe, Int.reduceToNat, Int.reduceLE, Int.reduceLT, allocX, setPs, extremeA, ints, resAll, rinfOk, packR]
  · have hlt : i < L.length := by omega
    have h0 : (0 : Int) ≤ (i : Int) := by omega
    have hg : (L.map num)[i]? = some (num L[i]) := by simp [hlt]
    have hno : rightX L[i] = false → L.all rightX = false := fun h => by
      rw [List.all_eq_false]
      exact ⟨L[i], List.getElem_mem hlt, by simp [h]⟩
    simp -implicitDefEqProofs (maxSteps := 10000000) only [h0, Int.toNat_natCast, hg, rkA, stepA, valA, storeA, ldA, fieldAddrA, fieldA, idxAddrA, idxA, idxArr, lenA, unA, binA, num2, binV, eqA, rowOf, PV.cells, PV.cell, bndA, appA, reduceIte, reduceCtorEq, Nat.reduceAdd, Nat.reduceSub, Nat.reduceEqDiff, Nat.reduceLeDiff, Nat.reduceLT, Nat.reduceMul, Nat.reduceBEq, Nat.reduceBNe, Int.reduceToNat, Int.reduceLE, Int.reduceLT, allocX, setPs, extremeA, ints, resAll, rinfOk, packR]
    cases is with
    | false =>
      rw [hres, if_neg (by simp)]
      simp -implicitDefEqProofs (maxSteps := 10000000) only [rkA, stepA, valA, storeA, ldA, fieldAddrA, fieldA, idxAddrA, idxA, idxArr, lenA, unA, binA, num2, binV, eqA, rowOf, PV.cells, PV.cell, bndA, appA, reduceIte, reduceCtorEq, Nat.reduceAdd, Nat.reduceSub, Nat.reduceEqDiff, Nat.reduceLeDiff, Nat.reduceLT, Nat.reduceMul, Nat.reduceBEq, Nat.reduceBNe, Int.reduceToNat, Int.reduceLE, Int.reduceLT, allocX, setPs, extremeA, ints, resAll, rinfOk, packR]
    | true =>
      simp -implicitDefEqProofs (maxSteps := 10000000) only [rkA, stepA, valA, storeA, ldA, fieldAddrA, fieldA, idxAddrA, idxA, idxArr, lenA, unA, binA, num2, binV, eqA, rowOf, PV.cells, PV.cell, bndA, appA, reduceIte, reduceCtorEq, Nat.reduceAdd, Nat.reduceSub, Nat.reduceEqDiff, Nat.reduceLeDiff, Nat.reduceLT, Nat.reduceMul, Nat.reduceBEq, Nat.reduceBNe, Int.reduceToNat, Int.reduceLE, Int.reduceLT, allocX, setPs, extremeA, ints, resAll, rinfOk, packR]
      refine call_fn rfl rfl rfl (ok56 L[i]) ?_
      cases hr : rightX L[i] with
      | false =>
        rw [hres, if_neg (by rw [hno hr]; simp)]
        simp -implicitDefEqProofs (maxSteps := 10000000) only [rkA, stepA, valA, storeA, ldA, fieldAddrA, fieldA, idxAddrA, idxA, idxArr, lenA, unA, binA, num2, binV, eqA, rowOf, PV.cells, PV.cell, bndA, appA, reduceIte, reduceCtorEq, Nat.reduceAdd, Nat.reduceSub, Nat.reduceEqDiff, Nat.reduceLeDiff, Nat.reduceLT, Nat.reduceMul, Nat.reduceBEq, Nat.reduceBNe, Int.reduceToNat, Int.reduceLE, Int.reduceLT, allocX, setPs, extremeA, ints, resAll, rinfOk, packR]
      | true =>
        have hw := wrapped (x := (i : Int) + 1) (by omega) (by omega)
        simp -implicitDefEqProofs (maxSteps := 10000000) only [rkA, stepA, valA, storeA, ldA, fieldAddrA, fieldA, idxAddrA, idxA, idxArr, lenA, unA, binA, num2, binV, eqA, rowOf, PV.cells, PV.cell, bndA, appA, reduceIte, reduceCtorEq, Nat.reduceAdd, Nat.reduceSub, Nat.reduceEqDiff, Nat.reduceLeDiff, Nat.reduceLT, Nat.reduceMul, Nat.reduceBEq, Nat.reduceBNe, Int.reduceToNat, Int.reduceLE, Int.reduceLT, allocX, setPs, extremeA, ints, resAll, rinfOk, packR]
        simp -implicitDefEqProofs (maxSteps := 10000000) only [hw, rkA, stepA, valA, storeA, ldA, fieldAddrA, fieldA, idxAddrA, idxA, idxArr, lenA, unA, binA, num2, binV, eqA, rowOf, PV.cells, PV.cell, bndA, appA, reduceIte, reduceCtorEq, Nat.reduceAdd, Nat.reduceSub, Nat.reduceEqDiff, Nat.reduceLeDiff, Nat.reduceLT, Nat.reduceMul, Nat.reduceBEq, Nat.reduceBNe, Int.reduceToNat, Int.reduceLE, Int.reduceLT, allocX, setPs, extremeA, ints, resAll, rinfOk, packR]
        refine loopK_of (m' := m - 1) (by omega) ?_
        simp -implicitDefEqProofs (maxSteps := 10000000) only [rkA, stepA, valA, storeA, ldA, fieldAddrA, fieldA, idxAddrA, idxA, idxArr, lenA, unA, binA, num2, binV, eqA, rowOf, PV.cells, PV.cell, bndA, appA, reduceIte, reduceCtorEq, Nat.reduceAdd, Nat.reduceSub, Nat.reduceEqDiff, Nat.reduceLeDiff, Nat.reduceLT, Nat.reduceMul, Nat.reduceBEq, Nat.reduceBNe, Int.reduceToNat, Int.reduceLE, Int.reduceLT, allocX, setPs, extremeA, ints, resAll, rinfOk, packR]
        refine ⟨i + 1, by omega, by simp, ?_, by simp only [Int.natCast_add, Int.natCast_one]⟩
        rw [List.take_succ_eq_append_getElem hlt, List.all_append, h2]
        simp [hr]
  · have hin : i = L.length := by omega
    subst hin
    rw [List.take_length] at h2
    rw [hres, if_pos ⟨h1 hne, h2⟩]
theorem ok89_nil (n : Int) (is : Bool) : Ok Tryz.prog 89 [num n, tru is, .s (.slice none 0 0)] (.tup [num (toldF n is []).1, tru (toldF n is []).2]) :=
  (ok89 n is [] (by simp)).args fun I vs h => Cs.keep h fun us h => Cs.keep h fun us h => Cs.nil_of h fun us h => h

def ofX (n : Int) : Int × Bool := toldF (mdF n 16777216 1 0).1 (mdF n 16777216 1 0).2 []
theorem ok58 (n : Int) : Ok Tryz.prog 58 [num n] (.tup [num (ofX n).1, tru (ofX n).2]) := by
  refine ok_fn mixed Tryz.func58 (code := ?_) (h := h58) ?_ k58 ?_
  rotate_left
  · exact rfl
  unfold h58 initS
  simp -implicitDefEqProofs (maxSteps := 10000000) only [rkA, stepA, valA, storeA, ldA, fieldAddrA, fieldA, idxAddrA, idxA, idxArr, lenA, unA, binA, num2, binV, eqA, rowOf, PV.cells, PV.cell, bndA, appA, reduceIte, reduceCtorEq, Nat.reduceAdd, Nat.reduceSub, Nat.reduceEqDiff, Nat.reduceLeDiff, Nat.reduceLT, Nat.reduceMul, Nat.reduceBEq, Nat.reduceBNe, Int.reduceToNat, Int.reduceLE, Int.reduceLT, allocX, setPs, extremeA, ints, resAll, rinfOk, packR, Tryz.ntmps58, Tryz.results58]
  refine call_fn rfl rfl rfl (ok88 n 16777216 1 0) ?_
  simp -implicitDefEqProofs (maxSteps := 10000000) only [rkA, stepA, valA, storeA, ldA, fieldAddrA, fieldA, idxAddrA, idxA, idxArr, lenA, unA, binA, num2, binV, eqA, rowOf, PV.cells, PV.cell, bndA, appA, reduceIte, reduceCtorEq, Nat.reduceAdd, Nat.reduceSub, Nat.reduceEqDiff, Nat.reduceLeDiff, Nat.reduceLT, Nat.reduceMul, Nat.reduceBEq, Nat.reduceBNe, Int.reduceToNat, Int.reduceLE, Int.reduceLT, allocX, setPs, extremeA, ints, resAll, rinfOk, packR]
  refine call_fn rfl rfl rfl (ok89_nil _ _) ?_
  simp -implicitDefEqProofs (maxSteps := 10000000) only [rkA, stepA, valA, storeA, ldA, fieldAddrA, fieldA, idxAddrA, idxA, idxArr, lenA, unA, binA, num2, binV, eqA, rowOf, PV.cells, PV.cell, bndA, appA, reduceIte, reduceCtorEq, Nat.reduceAdd, Nat.reduceSub, Nat.reduceEqDiff, Nat.reduceLeDiff, Nat.reduceLT, Nat.reduceMul, Nat.reduceBEq, Nat.reduceBNe, Int.reduceToNat, Int.reduceLE, Int.reduceLT, allocX, setPs, extremeA, ints, resAll, rinfOk, packR, ofX]
def addX (a b : Int) : Int × Bool := if rightX a = true ∧ rightX b = true then toldF (a + b) true [] else (0, false)
def subX (a b : Int) : Int × Bool := if rightX a = true ∧ rightX b = true then toldF (a - b) true [] else (0, false)
theorem ok159 (a b : Int) : Ok Tryz.prog 159 [num a, num b] (.tup [num (addX a b).1, tru (addX a b).2]) := by
  refine ok_fn mixed Tryz.func159 (code := ?_) (h := h159) ?_ k159 ?_
  rotate_left
  · exact rfl
  unfold h159 initS
  simp -implicitDefEqProofs (maxSteps := 10000000) only [rkA, stepA, valA, storeA, ldA, fieldAddrA, fieldA, idxAddrA, idxA, idxArr, lenA, unA, binA, num2, binV, eqA, rowOf, PV.cells, PV.cell, bndA, appA, reduceIte, reduceCtorEq, Nat.reduceAdd, Nat.reduceSub, Nat.reduceEqDiff, Nat.reduceLeDiff, Nat.reduceLT, Nat.reduceMul, Nat.reduceBEq, Nat.reduceBNe, Int.reduceToNat, Int.reduceLE, Int.reduceLT, allocX, setPs, extremeA, ints, resAll, rinfOk, packR, Tryz.ntmps159, Tryz.results159]
  refine call_fn rfl rfl rfl (ok56 a) ?_
  cases ha : rightX a with
  | false =>
    rw [show addX a b = (0, false) from if_neg (by simp [ha])]
    simp -implicitDefEqProofs (maxSteps := 10000000) only [rkA, stepA, valA, storeA, ldA, fieldAddrA, fieldA, idxAddrA, idxA, idxArr, lenA, unA, binA, num2, binV, eqA, rowOf, PV.cells, PV.cell, bndA, appA, reduceIte, reduceCtorEq, Nat.reduceAdd, Nat.reduceSub, Nat.reduceEqDiff, Nat.reduceLeDiff, Nat.reduceLT, Nat.reduceMul, Nat.reduceBEq, Nat.reduceBNe, Int.reduceToNat, Int.reduceLE, Int.reduceLT, allocX, setPs, extremeA, ints, resAll, rinfOk, packR]
  | true =>
    simp -implicitDefEqProofs (maxSteps := 10000000) only [rkA, stepA, valA, storeA, ldA, fieldAddrA, fieldA, idxAddrA, idxA, idxArr, lenA, unA, binA, num2, binV, eqA, rowOf, PV.cells, PV.cell, bndA, appA, reduceIte, reduceCtorEq, Nat.reduceAdd, Nat.reduceSub, Nat.reduceEqDiff, Nat.reduceLeDiff, Nat.reduceLT, Nat.reduceMul, Nat.reduceBEq, Nat.reduceBNe, Int.reduceToNat, Int.reduceLE, Int.reduceLT, allocX, setPs, extremeA, ints, resAll, rinfOk, packR]
    refine call_fn rfl rfl rfl (ok56 b) ?_
    cases hb : rightX b with
    | false =>
      rw [show addX a b = (0, false) from if_neg (by simp [hb])]
      simp -implicitDefEqProofs (maxSteps := 10000000) only [rkA, stepA, valA, storeA, ldA, fieldAddrA, fieldA, idxAddrA, idxA, idxArr, lenA, unA, binA, num2, binV, eqA, rowOf, PV.cells, PV.cell, bndA, appA, reduceIte, reduceCtorEq, Nat.reduceAdd, Nat.reduceSub, Nat.reduceEqDiff, Nat.reduceLeDiff, Nat.reduceLT, Nat.reduceMul, Nat.reduceBEq, Nat.reduceBNe, Int.reduceToNat, Int.reduceLE, Int.reduceLT, allocX, setPs, extremeA, ints, resAll, rinfOk, packR]
    | true =>
      rw [show addX a b = toldF (a + b) true [] from if_pos ⟨ha, hb⟩]
      simp only [rightX, decide_eq_true_eq] at ha hb
      have hw := wrapped (x := a + b) (by omega) (by omega)
      simp -implicitDefEqProofs (maxSteps := 10000000) only [rkA, stepA, valA, storeA, ldA, fieldAddrA, fieldA, idxAddrA, idxA, idxArr, lenA, unA, binA, num2, binV, eqA, rowOf, PV.cells, PV.cell, bndA, appA, reduceIte, reduceCtorEq, Nat.reduceAdd, Nat.reduceSub, Nat.reduceEqDiff, Nat.reduceLeDiff, Nat.reduceLT, Nat.reduceMul, Nat.reduceBEq, Nat.reduceBNe, Int.reduceToNat, Int.reduceLE, Int.reduceLT, allocX, setPs, extremeA, ints, resAll, rinfOk, packR]
      simp -implicitDefEqProofs (maxSteps := 10000000) only [hw, rkA, stepA, valA, storeA, ldA, fieldAddrA, fieldA, idxAddrA, idxA, idxArr, lenA, unA, binA, num2, binV, eqA, rowOf, PV.cells, PV.cell, bndA, appA, reduceIte, reduceCtorEq, Nat.reduceAdd, Nat.reduceSub, Nat.reduceEqDiff, Nat.reduceLeDiff, Nat.reduceLT, Nat.reduceMul, Nat.reduceBEq, Nat.reduceBNe, Int.reduceToNat, Int.reduceLE, Int.reduceLT, allocX, setPs, extremeA, ints, resAll, rinfOk, packR]
      refine call_fn rfl rfl rfl (ok89_nil (a + b) true) ?_
      simp -implicitDefEqProofs (maxSteps := 10000000) only [rkA, stepA, valA, storeA, ldA, fieldAddrA, fieldA, idxAddrA, idxA, idxArr, lenA, unA, binA, num2, binV, eqA, rowOf, PV.cells, PV.cell, bndA, appA, reduceIte, reduceCtorEq, Nat.reduceAdd, Nat.reduceSub, Nat.reduceEqDiff, Nat.reduceLeDiff, Nat.reduceLT, Nat.reduceMul, Nat.reduceBEq, Nat.reduceBNe, Int.reduceToNat, Int.reduceLE, Int.reduceLT, allocX, setPs, extremeA, ints, resAll, rinfOk, packR]
theorem ok165 (a b : Int) : Ok Tryz.prog 165 [num a, num b] (.tup [num (subX a b).1, tru (subX a b).2]) := by
  refine ok_fn mixed Tryz.func165 (code := ?_) (h := h165) ?_ k165 ?_
  rotate_left
  · exact rfl
  unfold h165 initS
  simp -implicitDefEqProofs (maxSteps := 10000000) only [rkA, stepA, valA, storeA, ldA, fieldAddrA, fieldA, idxAddrA, idxA, idxArr, lenA, unA, binA, num2, binV, eqA, rowOf, PV.cells, PV.cell, bndA, appA, reduceIte, reduceCtorEq, Nat.reduceAdd, Nat.reduceSub, Nat.reduceEqDiff, Nat.reduceLeDiff, Nat.reduceLT, Nat.reduceMul, Nat.reduceBEq, Nat.reduceBNe, Int.reduceToNat, Int.reduceLE, Int.reduceLT, allocX, setPs, extremeA, ints, resAll, rinfOk, packR, Tryz.ntmps165, Tryz.results165]
  refine call_fn rfl rfl rfl (ok56 a) ?_
  cases ha : rightX a with
  | false =>
    rw [show subX a b = (0, false) from if_neg (by simp [ha])]
    simp -implicitDefEqProofs (maxSteps := 10000000) only [rkA, stepA, valA, storeA, ldA, fieldAddrA, fieldA, idxAddrA, idxA, idxArr, lenA, unA, binA, num2, binV, eqA, rowOf, PV.cells, PV.cell, bndA, appA, reduceIte, reduceCtorEq, Nat.reduceAdd, Nat.reduceSub, Nat.reduceEqDiff, Nat.reduceLeDiff, Nat.reduceLT, Nat.reduceMul, Nat.reduceBEq, Nat.reduceBNe, Int.reduceToNat, Int.reduceLE, Int.reduceLT, allocX, setPs, extremeA, ints, resAll, rinfOk, packR]
  | true =>
    simp -implicitDefEqProofs (maxSteps := 10000000) only [rkA, stepA, valA, storeA, ldA, fieldAddrA, fieldA, idxAddrA, idxA, idxArr, lenA, unA, binA, num2, binV, eqA, rowOf, PV.cells, PV.cell, bndA, appA, reduceIte, reduceCtorEq, Nat.reduceAdd, Nat.reduceSub, Nat.reduceEqDiff, Nat.reduceLeDiff, Nat.reduceLT, Nat.reduceMul, Nat.reduceBEq, Nat.reduceBNe, Int.reduceToNat, Int.reduceLE, Int.reduceLT, allocX, setPs, extremeA, ints, resAll, rinfOk, packR]
    refine call_fn rfl rfl rfl (ok56 b) ?_
    cases hb : rightX b with
    | false =>
      rw [show subX a b = (0, false) from if_neg (by simp [hb])]
      simp -implicitDefEqProofs (maxSteps := 10000000) only [rkA, stepA, valA, storeA, ldA, fieldAddrA, fieldA, idxAddrA, idxA, idxArr, lenA, unA, binA, num2, binV, eqA, rowOf, PV.cells, PV.cell, bndA, appA, reduceIte, reduceCtorEq, Nat.reduceAdd, Nat.reduceSub, Nat.reduceEqDiff, Nat.reduceLeDiff, Nat.reduceLT, Nat.reduceMul, Nat.reduceBEq, Nat.reduceBNe, Int.reduceToNat, Int.reduceLE, Int.reduceLT, allocX, setPs, extremeA, ints, resAll, rinfOk, packR]
    | true =>
      rw [show subX a b = toldF (a - b) true [] from if_pos ⟨ha, hb⟩]
      simp only [rightX, decide_eq_true_eq] at ha hb
      have hw := wrapped (x := a - b) (by omega) (by omega)
      simp -implicitDefEqProofs (maxSteps := 10000000) only [rkA, stepA, valA, storeA, ldA, fieldAddrA, fieldA, idxAddrA, idxA, idxArr, lenA, unA, binA, num2, binV, eqA, rowOf, PV.cells, PV.cell, bndA, appA, reduceIte, reduceCtorEq, Nat.reduceAdd, Nat.reduceSub, Nat.reduceEqDiff, Nat.reduceLeDiff, Nat.reduceLT, Nat.reduceMul, Nat.reduceBEq, Nat.reduceBNe, Int.reduceToNat, Int.reduceLE, Int.reduceLT, allocX, setPs, extremeA, ints, resAll, rinfOk, packR]
      simp -implicitDefEqProofs (maxSteps := 10000000) only [hw, rkA, stepA, valA, storeA, ldA, fieldAddrA, fieldA, idxAddrA, idxA, idxArr, lenA, unA, binA, num2, binV, eqA, rowOf, PV.cells, PV.cell, bndA, appA, reduceIte, reduceCtorEq, Nat.reduceAdd, Nat.reduceSub, Nat.reduceEqDiff, Nat.reduceLeDiff, Nat.reduceLT, Nat.reduceMul, Nat.reduceBEq, Nat.reduceBNe, Int.reduceToNat, Int.reduceLE, Int.reduceLT, allocX, setPs, extremeA, ints, resAll, rinfOk, packR]
      refine call_fn rfl rfl rfl (ok89_nil (a - b) true) ?_
      simp -implicitDefEqProofs (maxSteps := 10000000) only [rkA, stepA, valA, storeA, ldA, fieldAddrA, fieldA, idxAddrA, idxA, idxArr, lenA, unA, binA, num2, binV, eqA, rowOf, PV.cells, PV.cell, bndA, appA, reduceIte, reduceCtorEq, Nat.reduceAdd, Nat.reduceSub, Nat.reduceEqDiff, Nat.reduceLeDiff, Nat.reduceLT, Nat.reduceMul, Nat.reduceBEq, Nat.reduceBNe, Int.reduceToNat, Int.reduceLE, Int.reduceLT, allocX, setPs, extremeA, ints, resAll, rinfOk, packR]
def mulX (a b mode : Int) : Int × Bool := toldF (mdF a b 16777216 mode).1 (mdF a b 16777216 mode).2 [a, b]
def divX (a b mode : Int) : Int × Bool := toldF (mdF a 16777216 b mode).1 (mdF a 16777216 b mode).2 [a, b]
theorem ok163 (a b mode : Int) : Ok Tryz.prog 163 [num a, num b, num mode] (.tup [num (mulX a b mode).1, tru (mulX a b mode).2]) := by
  refine ok_fn mixed Tryz.func163 (code := ?_) (h := h163) ?_ k163 ?_
  rotate_left
  · exact rfl
  unfold h163 initS
  simp -implicitDefEqProofs (maxSteps := 10000000) only [rkA, stepA, valA, storeA, ldA, fieldAddrA, fieldA, idxAddrA, idxA, idxArr, lenA, unA, binA, num2, binV, eqA, rowOf, PV.cells, PV.cell, bndA, appA, reduceIte, reduceCtorEq, Nat.reduceAdd, Nat.reduceSub, Nat.reduceEqDiff, Nat.reduceLeDiff, Nat.reduceLT, Nat.reduceMul, Nat.reduceBEq, Nat.reduceBNe, Int.reduceToNat, Int.reduceLE, Int.reduceLT, allocX, setPs, extremeA, ints, resAll, rinfOk, packR, Tryz.ntmps163, Tryz.results163]
  refine call_fn rfl rfl rfl (ok88 a b 16777216 mode) ?_
  simp -implicitDefEqProofs (maxSteps := 10000000) only [rkA, stepA, valA, storeA, ldA, fieldAddrA, fieldA, idxAddrA, idxA, idxArr, lenA, unA, binA, num2, binV, eqA, rowOf, PV.cells, PV.cell, bndA, appA, reduceIte, reduceCtorEq, Nat.reduceAdd, Nat.reduceSub, Nat.reduceEqDiff, Nat.reduceLeDiff, Nat.reduceLT, Nat.reduceMul, Nat.reduceBEq, Nat.reduceBNe, Int.reduceToNat, Int.reduceLE, Int.reduceLT, allocX, setPs, extremeA, ints, resAll, rinfOk, packR]
  refine call_fn rfl rfl rfl (ok89 _ _ [a, b] (by simp)) ?_
  simp -implicitDefEqProofs (maxSteps := 10000000) only [rkA, stepA, valA, storeA, ldA, fieldAddrA, fieldA, idxAddrA, idxA, idxArr, lenA, unA, binA, num2, binV, eqA, rowOf, PV.cells, PV.cell, bndA, appA, reduceIte, reduceCtorEq, Nat.reduceAdd, Nat.reduceSub, Nat.reduceEqDiff, Nat.reduceLeDiff, Nat.reduceLT, Nat.reduceMul, Nat.reduceBEq, Nat.reduceBNe, Int.reduceToNat, Int.reduceLE, Int.reduceLT, allocX, setPs, extremeA, ints, resAll, rinfOk, packR, mulX]
theorem ok161 (a b mode : Int) : Ok Tryz.prog 161 [num a, num b, num mode] (.tup [num (divX a b mode).1, tru (divX a b mode).2]) := by
  refine ok_fn mixed Tryz.func161 (code := ?_) (h := h161) ?_ k161 ?_
  rotate_left
  · exact rfl
  unfold h161 initS
  simp -implicitDefEqProofs (maxSteps := 10000000) only [rkA, stepA, valA, storeA, ldA, fieldAddrA, fieldA, idxAddrA, idxA, idxArr, lenA, unA, binA, num2, binV, eqA, rowOf, PV.cells, PV.cell, bndA, appA, reduceIte, reduceCtorEq, Nat.reduceAdd, Nat.reduceSub, Nat.reduceEqDiff, Nat.reduceLeDiff, Nat.reduceLT, Nat.reduceMul, Nat.reduceBEq, Nat.reduceBNe, Int.reduceToNat, Int.reduceLE, Int.reduceLT, allocX, setPs, extremeA, ints, resAll, rinfOk, packR, Tryz.ntmps161, Tryz.results161]
  refine call_fn rfl rfl rfl (ok88 a 16777216 b mode) ?_
  simp -implicitDefEqProofs (maxSteps := 10000000) only [rkA, stepA, valA, storeA, ldA, fieldAddrA, fieldA, idxAddrA, idxA, idxArr, lenA, unA, binA, num2, binV, eqA, rowOf, PV.cells, PV.cell, bndA, appA, reduceIte, reduceCtorEq, Nat.reduceAdd, Nat.reduceSub, Nat.reduceEqDiff, Nat.reduceLeDiff, Nat.reduceLT, Nat.reduceMul, Nat.reduceBEq, Nat.reduceBNe, Int.reduceToNat, Int.reduceLE, Int.reduceLT, allocX, setPs, extremeA, ints, resAll, rinfOk, packR]
  refine call_fn rfl rfl rfl (ok89 _ _ [a, b] (by simp)) ?_
  simp -implicitDefEqProofs (maxSteps := 10000000) only [rkA, stepA, valA, storeA, ldA, fieldAddrA, fieldA, idxAddrA, idxA, idxArr, lenA, unA, binA, num2, binV, eqA, rowOf, PV.cells, PV.cell, bndA, appA, reduceIte, reduceCtorEq, Nat.reduceAdd, Nat.reduceSub, Nat.reduceEqDiff, Nat.reduceLeDiff, Nat.reduceLT, Nat.reduceMul, Nat.reduceBEq, Nat.reduceBNe, Int.reduceToNat, Int.reduceLE, Int.reduceLT, allocX, setPs, extremeA, ints, resAll, rinfOk, packR, divX]
end Go.Proofs.YtipchjfcjbghnaaGreat.A


